/-
  Reg: RegPacks: the law's walk. Condition: the table of ways lies in block 0. By an AI agent.
-/
import Derived.Test.YtjnhmoafljfnkaaDoorRegE
import Derived.Test.YtjnhmoafljfnkaaDoorRefG
namespace Go.Proofs.YtjnhmoafljfnkaaDoor.Reg
set_option linter.unusedVariables false
set_option linter.unusedSimpArgs false
open Go Go.RowKit Go.Proofs.YtjnhmoafljfnkaaDoor.Base Go.Proofs.YtjnhmoafljfnkaaDoor.Modes Go.Deep

set_option maxRecDepth 100000 in
set_option maxHeartbeats 16000000 in
theorem RegPacks_walk (s : St) (hs : s.Ok) (x : Int) (hx : 0 ≤ x ∧ x ≤ 18446744073709551615) (w : World) (ht : Tab w) : Calls Tryd.prog 3 #[s.val, .int .u64 x] w fun e w' => e = .returned (.bool true) ∧ Below w.heap.size w w' := by
  have HT := Lib.hid ht
  clear ht
  have hR := Right_any s hs
  have hU := Unpack_any x hx
  have hP := Parts_any x hx
  have hR2 := Right_any (partsOf x) (partsOf_ok hx)
  have hu : rightB (partsOf x) = true ∧ unS x = partsOf x ∧ unE x = 0 ∨ rightB (partsOf x) = false ∧ unS x = St.zero ∧ unE x = 11 := by
    unfold rightB unS unE
    by_cases h : mayE (partsOf x) = 0 <;> simp [h]
  have hw : (partsB s = false ∧ rightB s = false ∧ ∀ W, Calls Tryd.prog 9 #[s.val] W fun e w' => e = .returned (.tuple #[.int .u64 0, .int .i64 10]) ∧ Below W.heap.size W w') ∨
      (partsB s = true ∧ rightB s = false ∧ ∀ W, Calls Tryd.prog 9 #[s.val] W fun e w' => e = .returned (.tuple #[.int .u64 0, .int .i64 1]) ∧ Below W.heap.size W w') ∨
      (partsB s = true ∧ rightB s = true ∧ (∀ W, Calls Tryd.prog 9 #[s.val] W fun e w' => e = .returned (.tuple #[.int .u64 (wordI s), .int .i64 0]) ∧ Below W.heap.size W w') ∧ (∀ W, Calls Tryd.prog 11 #[s.val] W fun e w' => e = .returned (.int .u64 (wordI s)) ∧ Below W.heap.size W w')) := by
    have hb := Pack_bad s hs
    by_cases hp : s.Parts
    · by_cases hh : s.Held
      · right; left
        have h1 : mayE s = 1 := by unfold mayE; rw [if_pos hp, if_pos hh]
        rw [h1] at hb
        exact ⟨decide_eq_true hp, by unfold rightB; rw [h1]; rfl, hb (by decide)⟩
      · right; right
        have h1 : mayE s = 0 := mayE_zero.2 ⟨hp, hh⟩
        exact ⟨decide_eq_true hp, by unfold rightB; rw [h1]; rfl, Pack_ok s hs h1, Word_any s hs hp⟩
    · left
      have h1 : mayE s = 10 := by unfold mayE; rw [if_neg hp]
      rw [h1] at hb
      exact ⟨decide_eq_false hp, by unfold rightB; rw [h1]; rfl, hb (by decide)⟩
  generalize partsB (partsOf x) = pb2 at *
  generalize rightB (partsOf x) = rb2 at *
  generalize partsOf x = P at *
  generalize unS x = U at *
  generalize unE x = uE at *
  generalize wordI s = wi at *
  generalize partsB s = pb at *
  generalize rightB s = rb at *
  unfold St.val at *
  clear hs
  rcases hw with ⟨rfl, rfl, hK⟩ | ⟨rfl, rfl, hK⟩ | ⟨rfl, rfl, hK, hWd⟩
  · rcases hu with ⟨rfl, rfl, rfl⟩ | ⟨rfl, rfl, rfl⟩
    · have HK := Lib.hid hK
      have HR := Lib.hid hR
      have HU := Lib.hid hU
      have HP := Lib.hid hP
      have HR2 := Lib.hid hR2
      clear hK hR hU hP hR2
      have Ue0 : (U.mode == U.mode) = true := by simp
      have Ue1 : (U.source == U.source) = true := by simp
      have Ue2 : (U.hold == U.hold) = true := by simp
      have Ue3 : (U.flags == U.flags) = true := by simp
      have Ue4 : (U.epoch == U.epoch) = true := by simp
      have Bs0 := Lib.hid (blk_new' w (g := w.heap.size) (by simp) 24 #[.int .i64 s.mode, .int .i64 s.source, .bool s.hold, .int .i64 s.flags, .int .u64 s.epoch])
      have L0 := Lib.hid ((Below.refl w.heap.size w).alloc (by first | exact Nat.le_refl _ | (simp; done) | (simp; omega)) (.cells #[.int .i64 s.mode, .int .i64 s.source, .bool s.hold, .int .i64 s.flags, .int .u64 s.epoch] 24))
      have T0 := Lib.hid (HT.out.below L0.out)
      go_enter Tryd.func3, Tryd.ntmps3
      go_wp2_with fail
      refine (HK.out _).mono ?_; rintro e wq1 ⟨rfl, hb1⟩
      have Bs1 := Lib.hid (Bs0.out.bl hb1)
      have L1 := Lib.hid (bl L0.out hb1)
      have T1 := Lib.hid (T0.out.below hb1)
      clear hb1 Bs0 L0 T0
      have sq0 := Bs1.out.cell 0
      have sq1 := Bs1.out.cell 1
      have sq2 := Bs1.out.cell 2
      have sq3 := Bs1.out.cell 3
      have sq4 := Bs1.out.cell 4
      simp only [List.getElem?_toArray, List.getElem?_cons_succ, List.getElem?_cons_zero] at sq0 sq1 sq2 sq3 sq4
      go_wp2_with fail
      refine (HR.out _).mono ?_; rintro e wq2 ⟨rfl, hb2⟩
      have Bs2 := Lib.hid (Bs1.out.bl hb2)
      have L2 := Lib.hid (bl L1.out hb2)
      have T2 := Lib.hid (T1.out.below hb2)
      clear sq0 sq1 sq2 sq3 sq4
      clear hb2 Bs1 L1 T1
      have sq0 := Bs2.out.cell 0
      have sq1 := Bs2.out.cell 1
      have sq2 := Bs2.out.cell 2
      have sq3 := Bs2.out.cell 3
      have sq4 := Bs2.out.cell 4
      simp only [List.getElem?_toArray, List.getElem?_cons_succ, List.getElem?_cons_zero] at sq0 sq1 sq2 sq3 sq4
      go_wp2_with fail
      refine (HU.out _).mono ?_; rintro e wq3 ⟨rfl, hb3⟩
      have Bs3 := Lib.hid (Bs2.out.bl hb3)
      have L3 := Lib.hid (bl L2.out hb3)
      have T3 := Lib.hid (T2.out.below hb3)
      clear sq0 sq1 sq2 sq3 sq4
      clear hb3 Bs2 L2 T2
      have sq0 := Bs3.out.cell 0
      have sq1 := Bs3.out.cell 1
      have sq2 := Bs3.out.cell 2
      have sq3 := Bs3.out.cell 3
      have sq4 := Bs3.out.cell 4
      simp only [List.getElem?_toArray, List.getElem?_cons_succ, List.getElem?_cons_zero] at sq0 sq1 sq2 sq3 sq4
      have tge := Lib.hid (show w.heap.size ≤ wq3.heap.size from L3.out.size)
      have sn1 : ¬ w.heap.size = wq3.heap.size := by have := Bs3.out.lt; omega
      have stne := Lib.hid sn1
      have sn2 : w.heap.size < wq3.heap.size := Bs3.out.lt
      have As3 := Lib.hid (Bs3.out.alloc (.cells #[.int .i64 U.mode, .int .i64 U.source, .bool U.hold, .int .i64 U.flags, .int .u64 U.epoch] 24))
      have Ta3 := Lib.hid (T3.out.below ((Below.refl _ _).alloc (Nat.le_refl _) (.cells #[.int .i64 U.mode, .int .i64 U.source, .bool U.hold, .int .i64 U.flags, .int .u64 U.epoch] 24)))
      have At3 := Lib.hid (Blk.new wq3 24 #[.int .i64 U.mode, .int .i64 U.source, .bool U.hold, .int .i64 U.flags, .int .u64 U.epoch])
      have M3 := Lib.hid (L3.out.alloc L3.out.size (.cells #[.int .i64 U.mode, .int .i64 U.source, .bool U.hold, .int .i64 U.flags, .int .u64 U.epoch] 24))
      clear Bs3 L3 T3
      go_wp2_with fail
      refine (HP.out _).mono ?_; rintro e wq4 ⟨rfl, hb4⟩
      have Bs4 := Lib.hid (As3.out.bl hb4)
      have Bt4 := Lib.hid (At3.out.bl hb4)
      have L4 := Lib.hid (bl M3.out hb4)
      have T4 := Lib.hid (Ta3.out.below hb4)
      clear sq0 sq1 sq2 sq3 sq4 sn1 sn2
      clear hb4 As3 At3 M3 Ta3
      generalize wq3.heap.size = gt at tge stne Bt4 ⊢
      have sq0 := Bs4.out.cell 0
      have sq1 := Bs4.out.cell 1
      have sq2 := Bs4.out.cell 2
      have sq3 := Bs4.out.cell 3
      have sq4 := Bs4.out.cell 4
      simp only [List.getElem?_toArray, List.getElem?_cons_succ, List.getElem?_cons_zero] at sq0 sq1 sq2 sq3 sq4
      have tq0 := Bt4.out.cell 0
      have tq1 := Bt4.out.cell 1
      have tq2 := Bt4.out.cell 2
      have tq3 := Bt4.out.cell 3
      have tq4 := Bt4.out.cell 4
      simp only [List.getElem?_toArray, List.getElem?_cons_succ, List.getElem?_cons_zero] at tq0 tq1 tq2 tq3 tq4
      have uge := Lib.hid (show w.heap.size ≤ wq4.heap.size from L4.out.size)
      have sn1 : ¬ w.heap.size = wq4.heap.size := by have := Bs4.out.lt; omega
      have sune := Lib.hid sn1
      have sn2 : w.heap.size < wq4.heap.size := Bs4.out.lt
      have tn1 : ¬ gt = wq4.heap.size := by have := Bt4.out.lt; omega
      have tune := Lib.hid tn1
      have tn2 : gt < wq4.heap.size := Bt4.out.lt
      have As4 := Lib.hid (Bs4.out.alloc (.cells #[.int .i64 U.mode, .int .i64 U.source, .bool U.hold, .int .i64 U.flags, .int .u64 U.epoch] 24))
      have At4 := Lib.hid (Bt4.out.alloc (.cells #[.int .i64 U.mode, .int .i64 U.source, .bool U.hold, .int .i64 U.flags, .int .u64 U.epoch] 24))
      have Ta4 := Lib.hid (T4.out.below ((Below.refl _ _).alloc (Nat.le_refl _) (.cells #[.int .i64 U.mode, .int .i64 U.source, .bool U.hold, .int .i64 U.flags, .int .u64 U.epoch] 24)))
      have Au4 := Lib.hid (Blk.new wq4 24 #[.int .i64 U.mode, .int .i64 U.source, .bool U.hold, .int .i64 U.flags, .int .u64 U.epoch])
      have M4 := Lib.hid (L4.out.alloc L4.out.size (.cells #[.int .i64 U.mode, .int .i64 U.source, .bool U.hold, .int .i64 U.flags, .int .u64 U.epoch] 24))
      clear Bs4 Bt4 L4 T4
      go_wp2_with fail
      refine (HR2.out _).mono ?_; rintro e wq5 ⟨rfl, hb5⟩
      have Bs5 := Lib.hid (As4.out.bl hb5)
      have Bt5 := Lib.hid (At4.out.bl hb5)
      have Bu5 := Lib.hid (Au4.out.bl hb5)
      have L5 := Lib.hid (bl M4.out hb5)
      have T5 := Lib.hid (Ta4.out.below hb5)
      clear sq0 sq1 sq2 sq3 sq4 tq0 tq1 tq2 tq3 tq4 sn1 sn2 tn1 tn2
      clear hb5 As4 At4 Au4 M4 Ta4
      generalize wq4.heap.size = gu at uge sune tune Bu5 ⊢
      have sq0 := Bs5.out.cell 0
      have sq1 := Bs5.out.cell 1
      have sq2 := Bs5.out.cell 2
      have sq3 := Bs5.out.cell 3
      have sq4 := Bs5.out.cell 4
      simp only [List.getElem?_toArray, List.getElem?_cons_succ, List.getElem?_cons_zero] at sq0 sq1 sq2 sq3 sq4
      have tq0 := Bt5.out.cell 0
      have tq1 := Bt5.out.cell 1
      have tq2 := Bt5.out.cell 2
      have tq3 := Bt5.out.cell 3
      have tq4 := Bt5.out.cell 4
      simp only [List.getElem?_toArray, List.getElem?_cons_succ, List.getElem?_cons_zero] at tq0 tq1 tq2 tq3 tq4
      have uq0 := Bu5.out.cell 0
      have uq1 := Bu5.out.cell 1
      have uq2 := Bu5.out.cell 2
      have uq3 := Bu5.out.cell 3
      have uq4 := Bu5.out.cell 4
      simp only [List.getElem?_toArray, List.getElem?_cons_succ, List.getElem?_cons_zero] at uq0 uq1 uq2 uq3 uq4
      go_wp2_with fail
      refine (awake_any _ T5.out).mono ?_; rintro e wq6 ⟨rfl, hb6⟩
      have Bs6 := Lib.hid (Bs5.out.bl hb6)
      have Bt6 := Lib.hid (Bt5.out.bl hb6)
      have Bu6 := Lib.hid (Bu5.out.bl hb6)
      have L6 := Lib.hid (bl L5.out hb6)
      have T6 := Lib.hid (T5.out.below hb6)
      clear sq0 sq1 sq2 sq3 sq4 tq0 tq1 tq2 tq3 tq4 uq0 uq1 uq2 uq3 uq4
      clear hb6 Bs5 Bt5 Bu5 L5 T5
      have sq0 := Bs6.out.cell 0
      have sq1 := Bs6.out.cell 1
      have sq2 := Bs6.out.cell 2
      have sq3 := Bs6.out.cell 3
      have sq4 := Bs6.out.cell 4
      simp only [List.getElem?_toArray, List.getElem?_cons_succ, List.getElem?_cons_zero] at sq0 sq1 sq2 sq3 sq4
      have tq0 := Bt6.out.cell 0
      have tq1 := Bt6.out.cell 1
      have tq2 := Bt6.out.cell 2
      have tq3 := Bt6.out.cell 3
      have tq4 := Bt6.out.cell 4
      simp only [List.getElem?_toArray, List.getElem?_cons_succ, List.getElem?_cons_zero] at tq0 tq1 tq2 tq3 tq4
      have uq0 := Bu6.out.cell 0
      have uq1 := Bu6.out.cell 1
      have uq2 := Bu6.out.cell 2
      have uq3 := Bu6.out.cell 3
      have uq4 := Bu6.out.cell 4
      simp only [List.getElem?_toArray, List.getElem?_cons_succ, List.getElem?_cons_zero] at uq0 uq1 uq2 uq3 uq4
      go_wp2_with fail
      go_ret
      exact ⟨rfl, L6.out⟩
    · have HK := Lib.hid hK
      have HR := Lib.hid hR
      have HU := Lib.hid hU
      have HP := Lib.hid hP
      have HR2 := Lib.hid hR2
      clear hK hR hU hP hR2
      unfold St.zero at HU
      simp only at HU
      have Bs0 := Lib.hid (blk_new' w (g := w.heap.size) (by simp) 24 #[.int .i64 s.mode, .int .i64 s.source, .bool s.hold, .int .i64 s.flags, .int .u64 s.epoch])
      have L0 := Lib.hid ((Below.refl w.heap.size w).alloc (by first | exact Nat.le_refl _ | (simp; done) | (simp; omega)) (.cells #[.int .i64 s.mode, .int .i64 s.source, .bool s.hold, .int .i64 s.flags, .int .u64 s.epoch] 24))
      have T0 := Lib.hid (HT.out.below L0.out)
      go_enter Tryd.func3, Tryd.ntmps3
      go_wp2_with fail
      refine (HK.out _).mono ?_; rintro e wq1 ⟨rfl, hb1⟩
      have Bs1 := Lib.hid (Bs0.out.bl hb1)
      have L1 := Lib.hid (bl L0.out hb1)
      have T1 := Lib.hid (T0.out.below hb1)
      clear hb1 Bs0 L0 T0
      have sq0 := Bs1.out.cell 0
      have sq1 := Bs1.out.cell 1
      have sq2 := Bs1.out.cell 2
      have sq3 := Bs1.out.cell 3
      have sq4 := Bs1.out.cell 4
      simp only [List.getElem?_toArray, List.getElem?_cons_succ, List.getElem?_cons_zero] at sq0 sq1 sq2 sq3 sq4
      go_wp2_with fail
      refine (HR.out _).mono ?_; rintro e wq2 ⟨rfl, hb2⟩
      have Bs2 := Lib.hid (Bs1.out.bl hb2)
      have L2 := Lib.hid (bl L1.out hb2)
      have T2 := Lib.hid (T1.out.below hb2)
      clear sq0 sq1 sq2 sq3 sq4
      clear hb2 Bs1 L1 T1
      have sq0 := Bs2.out.cell 0
      have sq1 := Bs2.out.cell 1
      have sq2 := Bs2.out.cell 2
      have sq3 := Bs2.out.cell 3
      have sq4 := Bs2.out.cell 4
      simp only [List.getElem?_toArray, List.getElem?_cons_succ, List.getElem?_cons_zero] at sq0 sq1 sq2 sq3 sq4
      go_wp2_with fail
      refine (HU.out _).mono ?_; rintro e wq3 ⟨rfl, hb3⟩
      have Bs3 := Lib.hid (Bs2.out.bl hb3)
      have L3 := Lib.hid (bl L2.out hb3)
      have T3 := Lib.hid (T2.out.below hb3)
      clear sq0 sq1 sq2 sq3 sq4
      clear hb3 Bs2 L2 T2
      have sq0 := Bs3.out.cell 0
      have sq1 := Bs3.out.cell 1
      have sq2 := Bs3.out.cell 2
      have sq3 := Bs3.out.cell 3
      have sq4 := Bs3.out.cell 4
      simp only [List.getElem?_toArray, List.getElem?_cons_succ, List.getElem?_cons_zero] at sq0 sq1 sq2 sq3 sq4
      have tge := Lib.hid (show w.heap.size ≤ wq3.heap.size from L3.out.size)
      have sn1 : ¬ w.heap.size = wq3.heap.size := by have := Bs3.out.lt; omega
      have stne := Lib.hid sn1
      have sn2 : w.heap.size < wq3.heap.size := Bs3.out.lt
      have As3 := Lib.hid (Bs3.out.alloc (.cells #[.int .i64 0, .int .i64 0, .bool false, .int .i64 0, .int .u64 0] 24))
      have Ta3 := Lib.hid (T3.out.below ((Below.refl _ _).alloc (Nat.le_refl _) (.cells #[.int .i64 0, .int .i64 0, .bool false, .int .i64 0, .int .u64 0] 24)))
      have At3 := Lib.hid (Blk.new wq3 24 #[.int .i64 0, .int .i64 0, .bool false, .int .i64 0, .int .u64 0])
      have M3 := Lib.hid (L3.out.alloc L3.out.size (.cells #[.int .i64 0, .int .i64 0, .bool false, .int .i64 0, .int .u64 0] 24))
      clear Bs3 L3 T3
      go_wp2_with fail
      refine (HP.out _).mono ?_; rintro e wq4 ⟨rfl, hb4⟩
      have Bs4 := Lib.hid (As3.out.bl hb4)
      have Bt4 := Lib.hid (At3.out.bl hb4)
      have L4 := Lib.hid (bl M3.out hb4)
      have T4 := Lib.hid (Ta3.out.below hb4)
      clear sq0 sq1 sq2 sq3 sq4 sn1 sn2
      clear hb4 As3 At3 M3 Ta3
      generalize wq3.heap.size = gt at tge stne Bt4 ⊢
      have sq0 := Bs4.out.cell 0
      have sq1 := Bs4.out.cell 1
      have sq2 := Bs4.out.cell 2
      have sq3 := Bs4.out.cell 3
      have sq4 := Bs4.out.cell 4
      simp only [List.getElem?_toArray, List.getElem?_cons_succ, List.getElem?_cons_zero] at sq0 sq1 sq2 sq3 sq4
      have tq0 := Bt4.out.cell 0
      have tq1 := Bt4.out.cell 1
      have tq2 := Bt4.out.cell 2
      have tq3 := Bt4.out.cell 3
      have tq4 := Bt4.out.cell 4
      simp only [List.getElem?_toArray, List.getElem?_cons_succ, List.getElem?_cons_zero] at tq0 tq1 tq2 tq3 tq4
      have uge := Lib.hid (show w.heap.size ≤ wq4.heap.size from L4.out.size)
      have sn1 : ¬ w.heap.size = wq4.heap.size := by have := Bs4.out.lt; omega
      have sune := Lib.hid sn1
      have sn2 : w.heap.size < wq4.heap.size := Bs4.out.lt
      have tn1 : ¬ gt = wq4.heap.size := by have := Bt4.out.lt; omega
      have tune := Lib.hid tn1
      have tn2 : gt < wq4.heap.size := Bt4.out.lt
      have As4 := Lib.hid (Bs4.out.alloc (.cells #[.int .i64 P.mode, .int .i64 P.source, .bool P.hold, .int .i64 P.flags, .int .u64 P.epoch] 24))
      have At4 := Lib.hid (Bt4.out.alloc (.cells #[.int .i64 P.mode, .int .i64 P.source, .bool P.hold, .int .i64 P.flags, .int .u64 P.epoch] 24))
      have Ta4 := Lib.hid (T4.out.below ((Below.refl _ _).alloc (Nat.le_refl _) (.cells #[.int .i64 P.mode, .int .i64 P.source, .bool P.hold, .int .i64 P.flags, .int .u64 P.epoch] 24)))
      have Au4 := Lib.hid (Blk.new wq4 24 #[.int .i64 P.mode, .int .i64 P.source, .bool P.hold, .int .i64 P.flags, .int .u64 P.epoch])
      have M4 := Lib.hid (L4.out.alloc L4.out.size (.cells #[.int .i64 P.mode, .int .i64 P.source, .bool P.hold, .int .i64 P.flags, .int .u64 P.epoch] 24))
      clear Bs4 Bt4 L4 T4
      go_wp2_with fail
      refine (HR2.out _).mono ?_; rintro e wq5 ⟨rfl, hb5⟩
      have Bs5 := Lib.hid (As4.out.bl hb5)
      have Bt5 := Lib.hid (At4.out.bl hb5)
      have Bu5 := Lib.hid (Au4.out.bl hb5)
      have L5 := Lib.hid (bl M4.out hb5)
      have T5 := Lib.hid (Ta4.out.below hb5)
      clear sq0 sq1 sq2 sq3 sq4 tq0 tq1 tq2 tq3 tq4 sn1 sn2 tn1 tn2
      clear hb5 As4 At4 Au4 M4 Ta4
      generalize wq4.heap.size = gu at uge sune tune Bu5 ⊢
      have sq0 := Bs5.out.cell 0
      have sq1 := Bs5.out.cell 1
      have sq2 := Bs5.out.cell 2
      have sq3 := Bs5.out.cell 3
      have sq4 := Bs5.out.cell 4
      simp only [List.getElem?_toArray, List.getElem?_cons_succ, List.getElem?_cons_zero] at sq0 sq1 sq2 sq3 sq4
      have tq0 := Bt5.out.cell 0
      have tq1 := Bt5.out.cell 1
      have tq2 := Bt5.out.cell 2
      have tq3 := Bt5.out.cell 3
      have tq4 := Bt5.out.cell 4
      simp only [List.getElem?_toArray, List.getElem?_cons_succ, List.getElem?_cons_zero] at tq0 tq1 tq2 tq3 tq4
      have uq0 := Bu5.out.cell 0
      have uq1 := Bu5.out.cell 1
      have uq2 := Bu5.out.cell 2
      have uq3 := Bu5.out.cell 3
      have uq4 := Bu5.out.cell 4
      simp only [List.getElem?_toArray, List.getElem?_cons_succ, List.getElem?_cons_zero] at uq0 uq1 uq2 uq3 uq4
      go_wp2_with fail
      refine (awake_any _ T5.out).mono ?_; rintro e wq6 ⟨rfl, hb6⟩
      have Bs6 := Lib.hid (Bs5.out.bl hb6)
      have Bt6 := Lib.hid (Bt5.out.bl hb6)
      have Bu6 := Lib.hid (Bu5.out.bl hb6)
      have L6 := Lib.hid (bl L5.out hb6)
      have T6 := Lib.hid (T5.out.below hb6)
      clear sq0 sq1 sq2 sq3 sq4 tq0 tq1 tq2 tq3 tq4 uq0 uq1 uq2 uq3 uq4
      clear hb6 Bs5 Bt5 Bu5 L5 T5
      have sq0 := Bs6.out.cell 0
      have sq1 := Bs6.out.cell 1
      have sq2 := Bs6.out.cell 2
      have sq3 := Bs6.out.cell 3
      have sq4 := Bs6.out.cell 4
      simp only [List.getElem?_toArray, List.getElem?_cons_succ, List.getElem?_cons_zero] at sq0 sq1 sq2 sq3 sq4
      have tq0 := Bt6.out.cell 0
      have tq1 := Bt6.out.cell 1
      have tq2 := Bt6.out.cell 2
      have tq3 := Bt6.out.cell 3
      have tq4 := Bt6.out.cell 4
      simp only [List.getElem?_toArray, List.getElem?_cons_succ, List.getElem?_cons_zero] at tq0 tq1 tq2 tq3 tq4
      have uq0 := Bu6.out.cell 0
      have uq1 := Bu6.out.cell 1
      have uq2 := Bu6.out.cell 2
      have uq3 := Bu6.out.cell 3
      have uq4 := Bu6.out.cell 4
      simp only [List.getElem?_toArray, List.getElem?_cons_succ, List.getElem?_cons_zero] at uq0 uq1 uq2 uq3 uq4
      go_wp2_with fail
      go_ret
      exact ⟨rfl, L6.out⟩
  · rcases hu with ⟨rfl, rfl, rfl⟩ | ⟨rfl, rfl, rfl⟩
    · have HK := Lib.hid hK
      have HR := Lib.hid hR
      have HU := Lib.hid hU
      have HP := Lib.hid hP
      have HR2 := Lib.hid hR2
      clear hK hR hU hP hR2
      have Ue0 : (U.mode == U.mode) = true := by simp
      have Ue1 : (U.source == U.source) = true := by simp
      have Ue2 : (U.hold == U.hold) = true := by simp
      have Ue3 : (U.flags == U.flags) = true := by simp
      have Ue4 : (U.epoch == U.epoch) = true := by simp
      have Bs0 := Lib.hid (blk_new' w (g := w.heap.size) (by simp) 24 #[.int .i64 s.mode, .int .i64 s.source, .bool s.hold, .int .i64 s.flags, .int .u64 s.epoch])
      have L0 := Lib.hid ((Below.refl w.heap.size w).alloc (by first | exact Nat.le_refl _ | (simp; done) | (simp; omega)) (.cells #[.int .i64 s.mode, .int .i64 s.source, .bool s.hold, .int .i64 s.flags, .int .u64 s.epoch] 24))
      have T0 := Lib.hid (HT.out.below L0.out)
      go_enter Tryd.func3, Tryd.ntmps3
      go_wp2_with fail
      refine (HK.out _).mono ?_; rintro e wq1 ⟨rfl, hb1⟩
      have Bs1 := Lib.hid (Bs0.out.bl hb1)
      have L1 := Lib.hid (bl L0.out hb1)
      have T1 := Lib.hid (T0.out.below hb1)
      clear hb1 Bs0 L0 T0
      have sq0 := Bs1.out.cell 0
      have sq1 := Bs1.out.cell 1
      have sq2 := Bs1.out.cell 2
      have sq3 := Bs1.out.cell 3
      have sq4 := Bs1.out.cell 4
      simp only [List.getElem?_toArray, List.getElem?_cons_succ, List.getElem?_cons_zero] at sq0 sq1 sq2 sq3 sq4
      go_wp2_with fail
      refine (HR.out _).mono ?_; rintro e wq2 ⟨rfl, hb2⟩
      have Bs2 := Lib.hid (Bs1.out.bl hb2)
      have L2 := Lib.hid (bl L1.out hb2)
      have T2 := Lib.hid (T1.out.below hb2)
      clear sq0 sq1 sq2 sq3 sq4
      clear hb2 Bs1 L1 T1
      have sq0 := Bs2.out.cell 0
      have sq1 := Bs2.out.cell 1
      have sq2 := Bs2.out.cell 2
      have sq3 := Bs2.out.cell 3
      have sq4 := Bs2.out.cell 4
      simp only [List.getElem?_toArray, List.getElem?_cons_succ, List.getElem?_cons_zero] at sq0 sq1 sq2 sq3 sq4
      go_wp2_with fail
      refine (HU.out _).mono ?_; rintro e wq3 ⟨rfl, hb3⟩
      have Bs3 := Lib.hid (Bs2.out.bl hb3)
      have L3 := Lib.hid (bl L2.out hb3)
      have T3 := Lib.hid (T2.out.below hb3)
      clear sq0 sq1 sq2 sq3 sq4
      clear hb3 Bs2 L2 T2
      have sq0 := Bs3.out.cell 0
      have sq1 := Bs3.out.cell 1
      have sq2 := Bs3.out.cell 2
      have sq3 := Bs3.out.cell 3
      have sq4 := Bs3.out.cell 4
      simp only [List.getElem?_toArray, List.getElem?_cons_succ, List.getElem?_cons_zero] at sq0 sq1 sq2 sq3 sq4
      have tge := Lib.hid (show w.heap.size ≤ wq3.heap.size from L3.out.size)
      have sn1 : ¬ w.heap.size = wq3.heap.size := by have := Bs3.out.lt; omega
      have stne := Lib.hid sn1
      have sn2 : w.heap.size < wq3.heap.size := Bs3.out.lt
      have As3 := Lib.hid (Bs3.out.alloc (.cells #[.int .i64 U.mode, .int .i64 U.source, .bool U.hold, .int .i64 U.flags, .int .u64 U.epoch] 24))
      have Ta3 := Lib.hid (T3.out.below ((Below.refl _ _).alloc (Nat.le_refl _) (.cells #[.int .i64 U.mode, .int .i64 U.source, .bool U.hold, .int .i64 U.flags, .int .u64 U.epoch] 24)))
      have At3 := Lib.hid (Blk.new wq3 24 #[.int .i64 U.mode, .int .i64 U.source, .bool U.hold, .int .i64 U.flags, .int .u64 U.epoch])
      have M3 := Lib.hid (L3.out.alloc L3.out.size (.cells #[.int .i64 U.mode, .int .i64 U.source, .bool U.hold, .int .i64 U.flags, .int .u64 U.epoch] 24))
      clear Bs3 L3 T3
      go_wp2_with fail
      refine (HP.out _).mono ?_; rintro e wq4 ⟨rfl, hb4⟩
      have Bs4 := Lib.hid (As3.out.bl hb4)
      have Bt4 := Lib.hid (At3.out.bl hb4)
      have L4 := Lib.hid (bl M3.out hb4)
      have T4 := Lib.hid (Ta3.out.below hb4)
      clear sq0 sq1 sq2 sq3 sq4 sn1 sn2
      clear hb4 As3 At3 M3 Ta3
      generalize wq3.heap.size = gt at tge stne Bt4 ⊢
      have sq0 := Bs4.out.cell 0
      have sq1 := Bs4.out.cell 1
      have sq2 := Bs4.out.cell 2
      have sq3 := Bs4.out.cell 3
      have sq4 := Bs4.out.cell 4
      simp only [List.getElem?_toArray, List.getElem?_cons_succ, List.getElem?_cons_zero] at sq0 sq1 sq2 sq3 sq4
      have tq0 := Bt4.out.cell 0
      have tq1 := Bt4.out.cell 1
      have tq2 := Bt4.out.cell 2
      have tq3 := Bt4.out.cell 3
      have tq4 := Bt4.out.cell 4
      simp only [List.getElem?_toArray, List.getElem?_cons_succ, List.getElem?_cons_zero] at tq0 tq1 tq2 tq3 tq4
      have uge := Lib.hid (show w.heap.size ≤ wq4.heap.size from L4.out.size)
      have sn1 : ¬ w.heap.size = wq4.heap.size := by have := Bs4.out.lt; omega
      have sune := Lib.hid sn1
      have sn2 : w.heap.size < wq4.heap.size := Bs4.out.lt
      have tn1 : ¬ gt = wq4.heap.size := by have := Bt4.out.lt; omega
      have tune := Lib.hid tn1
      have tn2 : gt < wq4.heap.size := Bt4.out.lt
      have As4 := Lib.hid (Bs4.out.alloc (.cells #[.int .i64 U.mode, .int .i64 U.source, .bool U.hold, .int .i64 U.flags, .int .u64 U.epoch] 24))
      have At4 := Lib.hid (Bt4.out.alloc (.cells #[.int .i64 U.mode, .int .i64 U.source, .bool U.hold, .int .i64 U.flags, .int .u64 U.epoch] 24))
      have Ta4 := Lib.hid (T4.out.below ((Below.refl _ _).alloc (Nat.le_refl _) (.cells #[.int .i64 U.mode, .int .i64 U.source, .bool U.hold, .int .i64 U.flags, .int .u64 U.epoch] 24)))
      have Au4 := Lib.hid (Blk.new wq4 24 #[.int .i64 U.mode, .int .i64 U.source, .bool U.hold, .int .i64 U.flags, .int .u64 U.epoch])
      have M4 := Lib.hid (L4.out.alloc L4.out.size (.cells #[.int .i64 U.mode, .int .i64 U.source, .bool U.hold, .int .i64 U.flags, .int .u64 U.epoch] 24))
      clear Bs4 Bt4 L4 T4
      go_wp2_with fail
      refine (HR2.out _).mono ?_; rintro e wq5 ⟨rfl, hb5⟩
      have Bs5 := Lib.hid (As4.out.bl hb5)
      have Bt5 := Lib.hid (At4.out.bl hb5)
      have Bu5 := Lib.hid (Au4.out.bl hb5)
      have L5 := Lib.hid (bl M4.out hb5)
      have T5 := Lib.hid (Ta4.out.below hb5)
      clear sq0 sq1 sq2 sq3 sq4 tq0 tq1 tq2 tq3 tq4 sn1 sn2 tn1 tn2
      clear hb5 As4 At4 Au4 M4 Ta4
      generalize wq4.heap.size = gu at uge sune tune Bu5 ⊢
      have sq0 := Bs5.out.cell 0
      have sq1 := Bs5.out.cell 1
      have sq2 := Bs5.out.cell 2
      have sq3 := Bs5.out.cell 3
      have sq4 := Bs5.out.cell 4
      simp only [List.getElem?_toArray, List.getElem?_cons_succ, List.getElem?_cons_zero] at sq0 sq1 sq2 sq3 sq4
      have tq0 := Bt5.out.cell 0
      have tq1 := Bt5.out.cell 1
      have tq2 := Bt5.out.cell 2
      have tq3 := Bt5.out.cell 3
      have tq4 := Bt5.out.cell 4
      simp only [List.getElem?_toArray, List.getElem?_cons_succ, List.getElem?_cons_zero] at tq0 tq1 tq2 tq3 tq4
      have uq0 := Bu5.out.cell 0
      have uq1 := Bu5.out.cell 1
      have uq2 := Bu5.out.cell 2
      have uq3 := Bu5.out.cell 3
      have uq4 := Bu5.out.cell 4
      simp only [List.getElem?_toArray, List.getElem?_cons_succ, List.getElem?_cons_zero] at uq0 uq1 uq2 uq3 uq4
      go_wp2_with fail
      refine (awake_any _ T5.out).mono ?_; rintro e wq6 ⟨rfl, hb6⟩
      have Bs6 := Lib.hid (Bs5.out.bl hb6)
      have Bt6 := Lib.hid (Bt5.out.bl hb6)
      have Bu6 := Lib.hid (Bu5.out.bl hb6)
      have L6 := Lib.hid (bl L5.out hb6)
      have T6 := Lib.hid (T5.out.below hb6)
      clear sq0 sq1 sq2 sq3 sq4 tq0 tq1 tq2 tq3 tq4 uq0 uq1 uq2 uq3 uq4
      clear hb6 Bs5 Bt5 Bu5 L5 T5
      have sq0 := Bs6.out.cell 0
      have sq1 := Bs6.out.cell 1
      have sq2 := Bs6.out.cell 2
      have sq3 := Bs6.out.cell 3
      have sq4 := Bs6.out.cell 4
      simp only [List.getElem?_toArray, List.getElem?_cons_succ, List.getElem?_cons_zero] at sq0 sq1 sq2 sq3 sq4
      have tq0 := Bt6.out.cell 0
      have tq1 := Bt6.out.cell 1
      have tq2 := Bt6.out.cell 2
      have tq3 := Bt6.out.cell 3
      have tq4 := Bt6.out.cell 4
      simp only [List.getElem?_toArray, List.getElem?_cons_succ, List.getElem?_cons_zero] at tq0 tq1 tq2 tq3 tq4
      have uq0 := Bu6.out.cell 0
      have uq1 := Bu6.out.cell 1
      have uq2 := Bu6.out.cell 2
      have uq3 := Bu6.out.cell 3
      have uq4 := Bu6.out.cell 4
      simp only [List.getElem?_toArray, List.getElem?_cons_succ, List.getElem?_cons_zero] at uq0 uq1 uq2 uq3 uq4
      go_wp2_with fail
      go_ret
      exact ⟨rfl, L6.out⟩
    · have HK := Lib.hid hK
      have HR := Lib.hid hR
      have HU := Lib.hid hU
      have HP := Lib.hid hP
      have HR2 := Lib.hid hR2
      clear hK hR hU hP hR2
      unfold St.zero at HU
      simp only at HU
      have Bs0 := Lib.hid (blk_new' w (g := w.heap.size) (by simp) 24 #[.int .i64 s.mode, .int .i64 s.source, .bool s.hold, .int .i64 s.flags, .int .u64 s.epoch])
      have L0 := Lib.hid ((Below.refl w.heap.size w).alloc (by first | exact Nat.le_refl _ | (simp; done) | (simp; omega)) (.cells #[.int .i64 s.mode, .int .i64 s.source, .bool s.hold, .int .i64 s.flags, .int .u64 s.epoch] 24))
      have T0 := Lib.hid (HT.out.below L0.out)
      go_enter Tryd.func3, Tryd.ntmps3
      go_wp2_with fail
      refine (HK.out _).mono ?_; rintro e wq1 ⟨rfl, hb1⟩
      have Bs1 := Lib.hid (Bs0.out.bl hb1)
      have L1 := Lib.hid (bl L0.out hb1)
      have T1 := Lib.hid (T0.out.below hb1)
      clear hb1 Bs0 L0 T0
      have sq0 := Bs1.out.cell 0
      have sq1 := Bs1.out.cell 1
      have sq2 := Bs1.out.cell 2
      have sq3 := Bs1.out.cell 3
      have sq4 := Bs1.out.cell 4
      simp only [List.getElem?_toArray, List.getElem?_cons_succ, List.getElem?_cons_zero] at sq0 sq1 sq2 sq3 sq4
      go_wp2_with fail
      refine (HR.out _).mono ?_; rintro e wq2 ⟨rfl, hb2⟩
      have Bs2 := Lib.hid (Bs1.out.bl hb2)
      have L2 := Lib.hid (bl L1.out hb2)
      have T2 := Lib.hid (T1.out.below hb2)
      clear sq0 sq1 sq2 sq3 sq4
      clear hb2 Bs1 L1 T1
      have sq0 := Bs2.out.cell 0
      have sq1 := Bs2.out.cell 1
      have sq2 := Bs2.out.cell 2
      have sq3 := Bs2.out.cell 3
      have sq4 := Bs2.out.cell 4
      simp only [List.getElem?_toArray, List.getElem?_cons_succ, List.getElem?_cons_zero] at sq0 sq1 sq2 sq3 sq4
      go_wp2_with fail
      refine (HU.out _).mono ?_; rintro e wq3 ⟨rfl, hb3⟩
      have Bs3 := Lib.hid (Bs2.out.bl hb3)
      have L3 := Lib.hid (bl L2.out hb3)
      have T3 := Lib.hid (T2.out.below hb3)
      clear sq0 sq1 sq2 sq3 sq4
      clear hb3 Bs2 L2 T2
      have sq0 := Bs3.out.cell 0
      have sq1 := Bs3.out.cell 1
      have sq2 := Bs3.out.cell 2
      have sq3 := Bs3.out.cell 3
      have sq4 := Bs3.out.cell 4
      simp only [List.getElem?_toArray, List.getElem?_cons_succ, List.getElem?_cons_zero] at sq0 sq1 sq2 sq3 sq4
      have tge := Lib.hid (show w.heap.size ≤ wq3.heap.size from L3.out.size)
      have sn1 : ¬ w.heap.size = wq3.heap.size := by have := Bs3.out.lt; omega
      have stne := Lib.hid sn1
      have sn2 : w.heap.size < wq3.heap.size := Bs3.out.lt
      have As3 := Lib.hid (Bs3.out.alloc (.cells #[.int .i64 0, .int .i64 0, .bool false, .int .i64 0, .int .u64 0] 24))
      have Ta3 := Lib.hid (T3.out.below ((Below.refl _ _).alloc (Nat.le_refl _) (.cells #[.int .i64 0, .int .i64 0, .bool false, .int .i64 0, .int .u64 0] 24)))
      have At3 := Lib.hid (Blk.new wq3 24 #[.int .i64 0, .int .i64 0, .bool false, .int .i64 0, .int .u64 0])
      have M3 := Lib.hid (L3.out.alloc L3.out.size (.cells #[.int .i64 0, .int .i64 0, .bool false, .int .i64 0, .int .u64 0] 24))
      clear Bs3 L3 T3
      go_wp2_with fail
      refine (HP.out _).mono ?_; rintro e wq4 ⟨rfl, hb4⟩
      have Bs4 := Lib.hid (As3.out.bl hb4)
      have Bt4 := Lib.hid (At3.out.bl hb4)
      have L4 := Lib.hid (bl M3.out hb4)
      have T4 := Lib.hid (Ta3.out.below hb4)
      clear sq0 sq1 sq2 sq3 sq4 sn1 sn2
      clear hb4 As3 At3 M3 Ta3
      generalize wq3.heap.size = gt at tge stne Bt4 ⊢
      have sq0 := Bs4.out.cell 0
      have sq1 := Bs4.out.cell 1
      have sq2 := Bs4.out.cell 2
      have sq3 := Bs4.out.cell 3
      have sq4 := Bs4.out.cell 4
      simp only [List.getElem?_toArray, List.getElem?_cons_succ, List.getElem?_cons_zero] at sq0 sq1 sq2 sq3 sq4
      have tq0 := Bt4.out.cell 0
      have tq1 := Bt4.out.cell 1
      have tq2 := Bt4.out.cell 2
      have tq3 := Bt4.out.cell 3
      have tq4 := Bt4.out.cell 4
      simp only [List.getElem?_toArray, List.getElem?_cons_succ, List.getElem?_cons_zero] at tq0 tq1 tq2 tq3 tq4
      have uge := Lib.hid (show w.heap.size ≤ wq4.heap.size from L4.out.size)
      have sn1 : ¬ w.heap.size = wq4.heap.size := by have := Bs4.out.lt; omega
      have sune := Lib.hid sn1
      have sn2 : w.heap.size < wq4.heap.size := Bs4.out.lt
      have tn1 : ¬ gt = wq4.heap.size := by have := Bt4.out.lt; omega
      have tune := Lib.hid tn1
      have tn2 : gt < wq4.heap.size := Bt4.out.lt
      have As4 := Lib.hid (Bs4.out.alloc (.cells #[.int .i64 P.mode, .int .i64 P.source, .bool P.hold, .int .i64 P.flags, .int .u64 P.epoch] 24))
      have At4 := Lib.hid (Bt4.out.alloc (.cells #[.int .i64 P.mode, .int .i64 P.source, .bool P.hold, .int .i64 P.flags, .int .u64 P.epoch] 24))
      have Ta4 := Lib.hid (T4.out.below ((Below.refl _ _).alloc (Nat.le_refl _) (.cells #[.int .i64 P.mode, .int .i64 P.source, .bool P.hold, .int .i64 P.flags, .int .u64 P.epoch] 24)))
      have Au4 := Lib.hid (Blk.new wq4 24 #[.int .i64 P.mode, .int .i64 P.source, .bool P.hold, .int .i64 P.flags, .int .u64 P.epoch])
      have M4 := Lib.hid (L4.out.alloc L4.out.size (.cells #[.int .i64 P.mode, .int .i64 P.source, .bool P.hold, .int .i64 P.flags, .int .u64 P.epoch] 24))
      clear Bs4 Bt4 L4 T4
      go_wp2_with fail
      refine (HR2.out _).mono ?_; rintro e wq5 ⟨rfl, hb5⟩
      have Bs5 := Lib.hid (As4.out.bl hb5)
      have Bt5 := Lib.hid (At4.out.bl hb5)
      have Bu5 := Lib.hid (Au4.out.bl hb5)
      have L5 := Lib.hid (bl M4.out hb5)
      have T5 := Lib.hid (Ta4.out.below hb5)
      clear sq0 sq1 sq2 sq3 sq4 tq0 tq1 tq2 tq3 tq4 sn1 sn2 tn1 tn2
      clear hb5 As4 At4 Au4 M4 Ta4
      generalize wq4.heap.size = gu at uge sune tune Bu5 ⊢
      have sq0 := Bs5.out.cell 0
      have sq1 := Bs5.out.cell 1
      have sq2 := Bs5.out.cell 2
      have sq3 := Bs5.out.cell 3
      have sq4 := Bs5.out.cell 4
      simp only [List.getElem?_toArray, List.getElem?_cons_succ, List.getElem?_cons_zero] at sq0 sq1 sq2 sq3 sq4
      have tq0 := Bt5.out.cell 0
      have tq1 := Bt5.out.cell 1
      have tq2 := Bt5.out.cell 2
      have tq3 := Bt5.out.cell 3
      have tq4 := Bt5.out.cell 4
      simp only [List.getElem?_toArray, List.getElem?_cons_succ, List.getElem?_cons_zero] at tq0 tq1 tq2 tq3 tq4
      have uq0 := Bu5.out.cell 0
      have uq1 := Bu5.out.cell 1
      have uq2 := Bu5.out.cell 2
      have uq3 := Bu5.out.cell 3
      have uq4 := Bu5.out.cell 4
      simp only [List.getElem?_toArray, List.getElem?_cons_succ, List.getElem?_cons_zero] at uq0 uq1 uq2 uq3 uq4
      go_wp2_with fail
      refine (awake_any _ T5.out).mono ?_; rintro e wq6 ⟨rfl, hb6⟩
      have Bs6 := Lib.hid (Bs5.out.bl hb6)
      have Bt6 := Lib.hid (Bt5.out.bl hb6)
      have Bu6 := Lib.hid (Bu5.out.bl hb6)
      have L6 := Lib.hid (bl L5.out hb6)
      have T6 := Lib.hid (T5.out.below hb6)
      clear sq0 sq1 sq2 sq3 sq4 tq0 tq1 tq2 tq3 tq4 uq0 uq1 uq2 uq3 uq4
      clear hb6 Bs5 Bt5 Bu5 L5 T5
      have sq0 := Bs6.out.cell 0
      have sq1 := Bs6.out.cell 1
      have sq2 := Bs6.out.cell 2
      have sq3 := Bs6.out.cell 3
      have sq4 := Bs6.out.cell 4
      simp only [List.getElem?_toArray, List.getElem?_cons_succ, List.getElem?_cons_zero] at sq0 sq1 sq2 sq3 sq4
      have tq0 := Bt6.out.cell 0
      have tq1 := Bt6.out.cell 1
      have tq2 := Bt6.out.cell 2
      have tq3 := Bt6.out.cell 3
      have tq4 := Bt6.out.cell 4
      simp only [List.getElem?_toArray, List.getElem?_cons_succ, List.getElem?_cons_zero] at tq0 tq1 tq2 tq3 tq4
      have uq0 := Bu6.out.cell 0
      have uq1 := Bu6.out.cell 1
      have uq2 := Bu6.out.cell 2
      have uq3 := Bu6.out.cell 3
      have uq4 := Bu6.out.cell 4
      simp only [List.getElem?_toArray, List.getElem?_cons_succ, List.getElem?_cons_zero] at uq0 uq1 uq2 uq3 uq4
      go_wp2_with fail
      go_ret
      exact ⟨rfl, L6.out⟩
  · rcases hu with ⟨rfl, rfl, rfl⟩ | ⟨rfl, rfl, rfl⟩
    · have HK := Lib.hid hK
      have HR := Lib.hid hR
      have HU := Lib.hid hU
      have HP := Lib.hid hP
      have HR2 := Lib.hid hR2
      clear hK hR hU hP hR2
      have HWd := Lib.hid hWd
      clear hWd
      have n0 : (wi != wi) = false := by simp
      have Ue0 : (U.mode == U.mode) = true := by simp
      have Ue1 : (U.source == U.source) = true := by simp
      have Ue2 : (U.hold == U.hold) = true := by simp
      have Ue3 : (U.flags == U.flags) = true := by simp
      have Ue4 : (U.epoch == U.epoch) = true := by simp
      have Bs0 := Lib.hid (blk_new' w (g := w.heap.size) (by simp) 24 #[.int .i64 s.mode, .int .i64 s.source, .bool s.hold, .int .i64 s.flags, .int .u64 s.epoch])
      have L0 := Lib.hid ((Below.refl w.heap.size w).alloc (by first | exact Nat.le_refl _ | (simp; done) | (simp; omega)) (.cells #[.int .i64 s.mode, .int .i64 s.source, .bool s.hold, .int .i64 s.flags, .int .u64 s.epoch] 24))
      have T0 := Lib.hid (HT.out.below L0.out)
      go_enter Tryd.func3, Tryd.ntmps3
      go_wp2_with fail
      refine (HK.out _).mono ?_; rintro e wq1 ⟨rfl, hb1⟩
      have Bs1 := Lib.hid (Bs0.out.bl hb1)
      have L1 := Lib.hid (bl L0.out hb1)
      have T1 := Lib.hid (T0.out.below hb1)
      clear hb1 Bs0 L0 T0
      have sq0 := Bs1.out.cell 0
      have sq1 := Bs1.out.cell 1
      have sq2 := Bs1.out.cell 2
      have sq3 := Bs1.out.cell 3
      have sq4 := Bs1.out.cell 4
      simp only [List.getElem?_toArray, List.getElem?_cons_succ, List.getElem?_cons_zero] at sq0 sq1 sq2 sq3 sq4
      go_wp2_with fail
      refine (HR.out _).mono ?_; rintro e wq2 ⟨rfl, hb2⟩
      have Bs2 := Lib.hid (Bs1.out.bl hb2)
      have L2 := Lib.hid (bl L1.out hb2)
      have T2 := Lib.hid (T1.out.below hb2)
      clear sq0 sq1 sq2 sq3 sq4
      clear hb2 Bs1 L1 T1
      have sq0 := Bs2.out.cell 0
      have sq1 := Bs2.out.cell 1
      have sq2 := Bs2.out.cell 2
      have sq3 := Bs2.out.cell 3
      have sq4 := Bs2.out.cell 4
      simp only [List.getElem?_toArray, List.getElem?_cons_succ, List.getElem?_cons_zero] at sq0 sq1 sq2 sq3 sq4
      go_wp2_with fail
      refine (HWd.out _).mono ?_; rintro e wq3 ⟨rfl, hb3⟩
      have Bs3 := Lib.hid (Bs2.out.bl hb3)
      have L3 := Lib.hid (bl L2.out hb3)
      have T3 := Lib.hid (T2.out.below hb3)
      clear sq0 sq1 sq2 sq3 sq4
      clear hb3 Bs2 L2 T2
      have sq0 := Bs3.out.cell 0
      have sq1 := Bs3.out.cell 1
      have sq2 := Bs3.out.cell 2
      have sq3 := Bs3.out.cell 3
      have sq4 := Bs3.out.cell 4
      simp only [List.getElem?_toArray, List.getElem?_cons_succ, List.getElem?_cons_zero] at sq0 sq1 sq2 sq3 sq4
      go_wp2_with fail
      refine (HU.out _).mono ?_; rintro e wq4 ⟨rfl, hb4⟩
      have Bs4 := Lib.hid (Bs3.out.bl hb4)
      have L4 := Lib.hid (bl L3.out hb4)
      have T4 := Lib.hid (T3.out.below hb4)
      clear sq0 sq1 sq2 sq3 sq4
      clear hb4 Bs3 L3 T3
      have sq0 := Bs4.out.cell 0
      have sq1 := Bs4.out.cell 1
      have sq2 := Bs4.out.cell 2
      have sq3 := Bs4.out.cell 3
      have sq4 := Bs4.out.cell 4
      simp only [List.getElem?_toArray, List.getElem?_cons_succ, List.getElem?_cons_zero] at sq0 sq1 sq2 sq3 sq4
      have tge := Lib.hid (show w.heap.size ≤ wq4.heap.size from L4.out.size)
      have sn1 : ¬ w.heap.size = wq4.heap.size := by have := Bs4.out.lt; omega
      have stne := Lib.hid sn1
      have sn2 : w.heap.size < wq4.heap.size := Bs4.out.lt
      have As4 := Lib.hid (Bs4.out.alloc (.cells #[.int .i64 U.mode, .int .i64 U.source, .bool U.hold, .int .i64 U.flags, .int .u64 U.epoch] 24))
      have Ta4 := Lib.hid (T4.out.below ((Below.refl _ _).alloc (Nat.le_refl _) (.cells #[.int .i64 U.mode, .int .i64 U.source, .bool U.hold, .int .i64 U.flags, .int .u64 U.epoch] 24)))
      have At4 := Lib.hid (Blk.new wq4 24 #[.int .i64 U.mode, .int .i64 U.source, .bool U.hold, .int .i64 U.flags, .int .u64 U.epoch])
      have M4 := Lib.hid (L4.out.alloc L4.out.size (.cells #[.int .i64 U.mode, .int .i64 U.source, .bool U.hold, .int .i64 U.flags, .int .u64 U.epoch] 24))
      clear Bs4 L4 T4
      go_wp2_with fail
      refine (HP.out _).mono ?_; rintro e wq5 ⟨rfl, hb5⟩
      have Bs5 := Lib.hid (As4.out.bl hb5)
      have Bt5 := Lib.hid (At4.out.bl hb5)
      have L5 := Lib.hid (bl M4.out hb5)
      have T5 := Lib.hid (Ta4.out.below hb5)
      clear sq0 sq1 sq2 sq3 sq4 sn1 sn2
      clear hb5 As4 At4 M4 Ta4
      generalize wq4.heap.size = gt at tge stne Bt5 ⊢
      have sq0 := Bs5.out.cell 0
      have sq1 := Bs5.out.cell 1
      have sq2 := Bs5.out.cell 2
      have sq3 := Bs5.out.cell 3
      have sq4 := Bs5.out.cell 4
      simp only [List.getElem?_toArray, List.getElem?_cons_succ, List.getElem?_cons_zero] at sq0 sq1 sq2 sq3 sq4
      have tq0 := Bt5.out.cell 0
      have tq1 := Bt5.out.cell 1
      have tq2 := Bt5.out.cell 2
      have tq3 := Bt5.out.cell 3
      have tq4 := Bt5.out.cell 4
      simp only [List.getElem?_toArray, List.getElem?_cons_succ, List.getElem?_cons_zero] at tq0 tq1 tq2 tq3 tq4
      have uge := Lib.hid (show w.heap.size ≤ wq5.heap.size from L5.out.size)
      have sn1 : ¬ w.heap.size = wq5.heap.size := by have := Bs5.out.lt; omega
      have sune := Lib.hid sn1
      have sn2 : w.heap.size < wq5.heap.size := Bs5.out.lt
      have tn1 : ¬ gt = wq5.heap.size := by have := Bt5.out.lt; omega
      have tune := Lib.hid tn1
      have tn2 : gt < wq5.heap.size := Bt5.out.lt
      have As5 := Lib.hid (Bs5.out.alloc (.cells #[.int .i64 U.mode, .int .i64 U.source, .bool U.hold, .int .i64 U.flags, .int .u64 U.epoch] 24))
      have At5 := Lib.hid (Bt5.out.alloc (.cells #[.int .i64 U.mode, .int .i64 U.source, .bool U.hold, .int .i64 U.flags, .int .u64 U.epoch] 24))
      have Ta5 := Lib.hid (T5.out.below ((Below.refl _ _).alloc (Nat.le_refl _) (.cells #[.int .i64 U.mode, .int .i64 U.source, .bool U.hold, .int .i64 U.flags, .int .u64 U.epoch] 24)))
      have Au5 := Lib.hid (Blk.new wq5 24 #[.int .i64 U.mode, .int .i64 U.source, .bool U.hold, .int .i64 U.flags, .int .u64 U.epoch])
      have M5 := Lib.hid (L5.out.alloc L5.out.size (.cells #[.int .i64 U.mode, .int .i64 U.source, .bool U.hold, .int .i64 U.flags, .int .u64 U.epoch] 24))
      clear Bs5 Bt5 L5 T5
      go_wp2_with fail
      refine (HR2.out _).mono ?_; rintro e wq6 ⟨rfl, hb6⟩
      have Bs6 := Lib.hid (As5.out.bl hb6)
      have Bt6 := Lib.hid (At5.out.bl hb6)
      have Bu6 := Lib.hid (Au5.out.bl hb6)
      have L6 := Lib.hid (bl M5.out hb6)
      have T6 := Lib.hid (Ta5.out.below hb6)
      clear sq0 sq1 sq2 sq3 sq4 tq0 tq1 tq2 tq3 tq4 sn1 sn2 tn1 tn2
      clear hb6 As5 At5 Au5 M5 Ta5
      generalize wq5.heap.size = gu at uge sune tune Bu6 ⊢
      have sq0 := Bs6.out.cell 0
      have sq1 := Bs6.out.cell 1
      have sq2 := Bs6.out.cell 2
      have sq3 := Bs6.out.cell 3
      have sq4 := Bs6.out.cell 4
      simp only [List.getElem?_toArray, List.getElem?_cons_succ, List.getElem?_cons_zero] at sq0 sq1 sq2 sq3 sq4
      have tq0 := Bt6.out.cell 0
      have tq1 := Bt6.out.cell 1
      have tq2 := Bt6.out.cell 2
      have tq3 := Bt6.out.cell 3
      have tq4 := Bt6.out.cell 4
      simp only [List.getElem?_toArray, List.getElem?_cons_succ, List.getElem?_cons_zero] at tq0 tq1 tq2 tq3 tq4
      have uq0 := Bu6.out.cell 0
      have uq1 := Bu6.out.cell 1
      have uq2 := Bu6.out.cell 2
      have uq3 := Bu6.out.cell 3
      have uq4 := Bu6.out.cell 4
      simp only [List.getElem?_toArray, List.getElem?_cons_succ, List.getElem?_cons_zero] at uq0 uq1 uq2 uq3 uq4
      go_wp2_with fail
      refine (awake_any _ T6.out).mono ?_; rintro e wq7 ⟨rfl, hb7⟩
      have Bs7 := Lib.hid (Bs6.out.bl hb7)
      have Bt7 := Lib.hid (Bt6.out.bl hb7)
      have Bu7 := Lib.hid (Bu6.out.bl hb7)
      have L7 := Lib.hid (bl L6.out hb7)
      have T7 := Lib.hid (T6.out.below hb7)
      clear sq0 sq1 sq2 sq3 sq4 tq0 tq1 tq2 tq3 tq4 uq0 uq1 uq2 uq3 uq4
      clear hb7 Bs6 Bt6 Bu6 L6 T6
      have sq0 := Bs7.out.cell 0
      have sq1 := Bs7.out.cell 1
      have sq2 := Bs7.out.cell 2
      have sq3 := Bs7.out.cell 3
      have sq4 := Bs7.out.cell 4
      simp only [List.getElem?_toArray, List.getElem?_cons_succ, List.getElem?_cons_zero] at sq0 sq1 sq2 sq3 sq4
      have tq0 := Bt7.out.cell 0
      have tq1 := Bt7.out.cell 1
      have tq2 := Bt7.out.cell 2
      have tq3 := Bt7.out.cell 3
      have tq4 := Bt7.out.cell 4
      simp only [List.getElem?_toArray, List.getElem?_cons_succ, List.getElem?_cons_zero] at tq0 tq1 tq2 tq3 tq4
      have uq0 := Bu7.out.cell 0
      have uq1 := Bu7.out.cell 1
      have uq2 := Bu7.out.cell 2
      have uq3 := Bu7.out.cell 3
      have uq4 := Bu7.out.cell 4
      simp only [List.getElem?_toArray, List.getElem?_cons_succ, List.getElem?_cons_zero] at uq0 uq1 uq2 uq3 uq4
      go_wp2_with fail
      go_ret
      exact ⟨rfl, L7.out⟩
    · have HK := Lib.hid hK
      have HR := Lib.hid hR
      have HU := Lib.hid hU
      have HP := Lib.hid hP
      have HR2 := Lib.hid hR2
      clear hK hR hU hP hR2
      have HWd := Lib.hid hWd
      clear hWd
      have n0 : (wi != wi) = false := by simp
      unfold St.zero at HU
      simp only at HU
      have Bs0 := Lib.hid (blk_new' w (g := w.heap.size) (by simp) 24 #[.int .i64 s.mode, .int .i64 s.source, .bool s.hold, .int .i64 s.flags, .int .u64 s.epoch])
      have L0 := Lib.hid ((Below.refl w.heap.size w).alloc (by first | exact Nat.le_refl _ | (simp; done) | (simp; omega)) (.cells #[.int .i64 s.mode, .int .i64 s.source, .bool s.hold, .int .i64 s.flags, .int .u64 s.epoch] 24))
      have T0 := Lib.hid (HT.out.below L0.out)
      go_enter Tryd.func3, Tryd.ntmps3
      go_wp2_with fail
      refine (HK.out _).mono ?_; rintro e wq1 ⟨rfl, hb1⟩
      have Bs1 := Lib.hid (Bs0.out.bl hb1)
      have L1 := Lib.hid (bl L0.out hb1)
      have T1 := Lib.hid (T0.out.below hb1)
      clear hb1 Bs0 L0 T0
      have sq0 := Bs1.out.cell 0
      have sq1 := Bs1.out.cell 1
      have sq2 := Bs1.out.cell 2
      have sq3 := Bs1.out.cell 3
      have sq4 := Bs1.out.cell 4
      simp only [List.getElem?_toArray, List.getElem?_cons_succ, List.getElem?_cons_zero] at sq0 sq1 sq2 sq3 sq4
      go_wp2_with fail
      refine (HR.out _).mono ?_; rintro e wq2 ⟨rfl, hb2⟩
      have Bs2 := Lib.hid (Bs1.out.bl hb2)
      have L2 := Lib.hid (bl L1.out hb2)
      have T2 := Lib.hid (T1.out.below hb2)
      clear sq0 sq1 sq2 sq3 sq4
      clear hb2 Bs1 L1 T1
      have sq0 := Bs2.out.cell 0
      have sq1 := Bs2.out.cell 1
      have sq2 := Bs2.out.cell 2
      have sq3 := Bs2.out.cell 3
      have sq4 := Bs2.out.cell 4
      simp only [List.getElem?_toArray, List.getElem?_cons_succ, List.getElem?_cons_zero] at sq0 sq1 sq2 sq3 sq4
      go_wp2_with fail
      refine (HWd.out _).mono ?_; rintro e wq3 ⟨rfl, hb3⟩
      have Bs3 := Lib.hid (Bs2.out.bl hb3)
      have L3 := Lib.hid (bl L2.out hb3)
      have T3 := Lib.hid (T2.out.below hb3)
      clear sq0 sq1 sq2 sq3 sq4
      clear hb3 Bs2 L2 T2
      have sq0 := Bs3.out.cell 0
      have sq1 := Bs3.out.cell 1
      have sq2 := Bs3.out.cell 2
      have sq3 := Bs3.out.cell 3
      have sq4 := Bs3.out.cell 4
      simp only [List.getElem?_toArray, List.getElem?_cons_succ, List.getElem?_cons_zero] at sq0 sq1 sq2 sq3 sq4
      go_wp2_with fail
      refine (HU.out _).mono ?_; rintro e wq4 ⟨rfl, hb4⟩
      have Bs4 := Lib.hid (Bs3.out.bl hb4)
      have L4 := Lib.hid (bl L3.out hb4)
      have T4 := Lib.hid (T3.out.below hb4)
      clear sq0 sq1 sq2 sq3 sq4
      clear hb4 Bs3 L3 T3
      have sq0 := Bs4.out.cell 0
      have sq1 := Bs4.out.cell 1
      have sq2 := Bs4.out.cell 2
      have sq3 := Bs4.out.cell 3
      have sq4 := Bs4.out.cell 4
      simp only [List.getElem?_toArray, List.getElem?_cons_succ, List.getElem?_cons_zero] at sq0 sq1 sq2 sq3 sq4
      have tge := Lib.hid (show w.heap.size ≤ wq4.heap.size from L4.out.size)
      have sn1 : ¬ w.heap.size = wq4.heap.size := by have := Bs4.out.lt; omega
      have stne := Lib.hid sn1
      have sn2 : w.heap.size < wq4.heap.size := Bs4.out.lt
      have As4 := Lib.hid (Bs4.out.alloc (.cells #[.int .i64 0, .int .i64 0, .bool false, .int .i64 0, .int .u64 0] 24))
      have Ta4 := Lib.hid (T4.out.below ((Below.refl _ _).alloc (Nat.le_refl _) (.cells #[.int .i64 0, .int .i64 0, .bool false, .int .i64 0, .int .u64 0] 24)))
      have At4 := Lib.hid (Blk.new wq4 24 #[.int .i64 0, .int .i64 0, .bool false, .int .i64 0, .int .u64 0])
      have M4 := Lib.hid (L4.out.alloc L4.out.size (.cells #[.int .i64 0, .int .i64 0, .bool false, .int .i64 0, .int .u64 0] 24))
      clear Bs4 L4 T4
      go_wp2_with fail
      refine (HP.out _).mono ?_; rintro e wq5 ⟨rfl, hb5⟩
      have Bs5 := Lib.hid (As4.out.bl hb5)
      have Bt5 := Lib.hid (At4.out.bl hb5)
      have L5 := Lib.hid (bl M4.out hb5)
      have T5 := Lib.hid (Ta4.out.below hb5)
      clear sq0 sq1 sq2 sq3 sq4 sn1 sn2
      clear hb5 As4 At4 M4 Ta4
      generalize wq4.heap.size = gt at tge stne Bt5 ⊢
      have sq0 := Bs5.out.cell 0
      have sq1 := Bs5.out.cell 1
      have sq2 := Bs5.out.cell 2
      have sq3 := Bs5.out.cell 3
      have sq4 := Bs5.out.cell 4
      simp only [List.getElem?_toArray, List.getElem?_cons_succ, List.getElem?_cons_zero] at sq0 sq1 sq2 sq3 sq4
      have tq0 := Bt5.out.cell 0
      have tq1 := Bt5.out.cell 1
      have tq2 := Bt5.out.cell 2
      have tq3 := Bt5.out.cell 3
      have tq4 := Bt5.out.cell 4
      simp only [List.getElem?_toArray, List.getElem?_cons_succ, List.getElem?_cons_zero] at tq0 tq1 tq2 tq3 tq4
      have uge := Lib.hid (show w.heap.size ≤ wq5.heap.size from L5.out.size)
      have sn1 : ¬ w.heap.size = wq5.heap.size := by have := Bs5.out.lt; omega
      have sune := Lib.hid sn1
      have sn2 : w.heap.size < wq5.heap.size := Bs5.out.lt
      have tn1 : ¬ gt = wq5.heap.size := by have := Bt5.out.lt; omega
      have tune := Lib.hid tn1
      have tn2 : gt < wq5.heap.size := Bt5.out.lt
      have As5 := Lib.hid (Bs5.out.alloc (.cells #[.int .i64 P.mode, .int .i64 P.source, .bool P.hold, .int .i64 P.flags, .int .u64 P.epoch] 24))
      have At5 := Lib.hid (Bt5.out.alloc (.cells #[.int .i64 P.mode, .int .i64 P.source, .bool P.hold, .int .i64 P.flags, .int .u64 P.epoch] 24))
      have Ta5 := Lib.hid (T5.out.below ((Below.refl _ _).alloc (Nat.le_refl _) (.cells #[.int .i64 P.mode, .int .i64 P.source, .bool P.hold, .int .i64 P.flags, .int .u64 P.epoch] 24)))
      have Au5 := Lib.hid (Blk.new wq5 24 #[.int .i64 P.mode, .int .i64 P.source, .bool P.hold, .int .i64 P.flags, .int .u64 P.epoch])
      have M5 := Lib.hid (L5.out.alloc L5.out.size (.cells #[.int .i64 P.mode, .int .i64 P.source, .bool P.hold, .int .i64 P.flags, .int .u64 P.epoch] 24))
      clear Bs5 Bt5 L5 T5
      go_wp2_with fail
      refine (HR2.out _).mono ?_; rintro e wq6 ⟨rfl, hb6⟩
      have Bs6 := Lib.hid (As5.out.bl hb6)
      have Bt6 := Lib.hid (At5.out.bl hb6)
      have Bu6 := Lib.hid (Au5.out.bl hb6)
      have L6 := Lib.hid (bl M5.out hb6)
      have T6 := Lib.hid (Ta5.out.below hb6)
      clear sq0 sq1 sq2 sq3 sq4 tq0 tq1 tq2 tq3 tq4 sn1 sn2 tn1 tn2
      clear hb6 As5 At5 Au5 M5 Ta5
      generalize wq5.heap.size = gu at uge sune tune Bu6 ⊢
      have sq0 := Bs6.out.cell 0
      have sq1 := Bs6.out.cell 1
      have sq2 := Bs6.out.cell 2
      have sq3 := Bs6.out.cell 3
      have sq4 := Bs6.out.cell 4
      simp only [List.getElem?_toArray, List.getElem?_cons_succ, List.getElem?_cons_zero] at sq0 sq1 sq2 sq3 sq4
      have tq0 := Bt6.out.cell 0
      have tq1 := Bt6.out.cell 1
      have tq2 := Bt6.out.cell 2
      have tq3 := Bt6.out.cell 3
      have tq4 := Bt6.out.cell 4
      simp only [List.getElem?_toArray, List.getElem?_cons_succ, List.getElem?_cons_zero] at tq0 tq1 tq2 tq3 tq4
      have uq0 := Bu6.out.cell 0
      have uq1 := Bu6.out.cell 1
      have uq2 := Bu6.out.cell 2
      have uq3 := Bu6.out.cell 3
      have uq4 := Bu6.out.cell 4
      simp only [List.getElem?_toArray, List.getElem?_cons_succ, List.getElem?_cons_zero] at uq0 uq1 uq2 uq3 uq4
      go_wp2_with fail
      refine (awake_any _ T6.out).mono ?_; rintro e wq7 ⟨rfl, hb7⟩
      have Bs7 := Lib.hid (Bs6.out.bl hb7)
      have Bt7 := Lib.hid (Bt6.out.bl hb7)
      have Bu7 := Lib.hid (Bu6.out.bl hb7)
      have L7 := Lib.hid (bl L6.out hb7)
      have T7 := Lib.hid (T6.out.below hb7)
      clear sq0 sq1 sq2 sq3 sq4 tq0 tq1 tq2 tq3 tq4 uq0 uq1 uq2 uq3 uq4
      clear hb7 Bs6 Bt6 Bu6 L6 T6
      have sq0 := Bs7.out.cell 0
      have sq1 := Bs7.out.cell 1
      have sq2 := Bs7.out.cell 2
      have sq3 := Bs7.out.cell 3
      have sq4 := Bs7.out.cell 4
      simp only [List.getElem?_toArray, List.getElem?_cons_succ, List.getElem?_cons_zero] at sq0 sq1 sq2 sq3 sq4
      have tq0 := Bt7.out.cell 0
      have tq1 := Bt7.out.cell 1
      have tq2 := Bt7.out.cell 2
      have tq3 := Bt7.out.cell 3
      have tq4 := Bt7.out.cell 4
      simp only [List.getElem?_toArray, List.getElem?_cons_succ, List.getElem?_cons_zero] at tq0 tq1 tq2 tq3 tq4
      have uq0 := Bu7.out.cell 0
      have uq1 := Bu7.out.cell 1
      have uq2 := Bu7.out.cell 2
      have uq3 := Bu7.out.cell 3
      have uq4 := Bu7.out.cell 4
      simp only [List.getElem?_toArray, List.getElem?_cons_succ, List.getElem?_cons_zero] at uq0 uq1 uq2 uq3 uq4
      go_wp2_with fail
      go_ret
      exact ⟨rfl, L7.out⟩
theorem RegPacks_law (v : Value) (s : St) (x : Int) (hx : 0 ≤ x ∧ x ≤ 18446744073709551615) (w : World) (hs : s.Ok ∧ v = s.val) (ht : Modes.Tab w) : Calls Tryd.prog 3 #[v, .int .u64 x] w fun e w' => e = .returned (.bool true) ∧ Below w.heap.size w w' := by
  obtain ⟨hs, rfl⟩ := hs
  exact RegPacks_walk s hs x hx w ht
end Go.Proofs.YtjnhmoafljfnkaaDoor.Reg
