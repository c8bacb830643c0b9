/-
  Law 6: the chapter's example. Conditions stand at each. By an AI agent.
-/
import Derived.Test.YtgdfhgoenemanaaDoorPlI
namespace Go.Proofs.YtgdfhgoenemanaaDoor.Plan
set_option linter.unusedVariables false
set_option linter.unusedSimpArgs false
open Go Go.RowKit Go.Proofs.YtgdfhgoenemanaaDoor.Base
def poseT : Tc := ⟨⟨#[112, 111, 115, 101]⟩, 6, 4⟩
def cf0 : Cf := ⟨1, 1, fun _ => poseT, 1, 8⟩
theorem name0 : nameB poseT.nm = true := by decide +kernel
theorem fault0 : (faultF cf0).2 = 0 := by
  have h : topicE cf0.l 0 = 0 := by
    unfold topicE
    rw [show (cf0.l 0).nm = poseT.nm from rfl, name0]
    rfl
  rw [fault_none (c := cf0) (fun j hj => by rcases (show j = 0 ∨ j = 1 ∨ j = 2 by omega) with e | e | e <;> subst e <;> decide) (fun j hj => by have hj : j < 1 := hj; rw [show j = 0 by omega]; exact h)]
theorem of0 (b : Nat) (w : World) (hb : b < w.heap.size) (h : w.cell? ⟨b, 0, none⟩ = some (.string ⟨#[112, 111, 115, 101]⟩) ∧ w.cell? ⟨b, 1, none⟩ = some (.int .i64 6) ∧ w.cell? ⟨b, 2, none⟩ = some (.int .i64 4)) :
    Calls Tryd.prog 11 #[.agg #[.int .i64 1, .slice (some ⟨b, 0, none⟩) 1 1, .int .i64 1, .int .i64 8]] w fun e w' => Below w.heap.size w w' ∧
      ∃ g cp, e = .returned (.tuple #[.agg #[.int .i64 0, .int .i64 1, .int .i64 8, .slice (some ⟨g, 0, none⟩) 1 cp, .int .i64 35], .int .i64 0]) ∧ g < w'.heap.size ∧
        w'.cell? ⟨g, 0, none⟩ = some (.int .i64 9) ∧ w'.cell? ⟨g, 1, none⟩ = some (.int .i64 10) ∧ w'.cell? ⟨g, 2, none⟩ = some (.int .i64 11) ∧ w'.cell? ⟨g, 3, none⟩ = some (.int .i64 6) ∧ w'.cell? ⟨g, 4, none⟩ = some (.int .i64 4) := by
  have ht : Tcs w (some ⟨b, 0, none⟩) cf0.n cf0.l := fun _ => ⟨b, 0, rfl, hb, fun i hi => by
    have hi : i < 1 := hi
    obtain rfl : i = 0 := by omega
    exact h⟩
  refine (Of_any cf0 (some ⟨b, 0, none⟩) 1 w ht (by decide) (fun q => by show (4 : Nat) ≤ maxLen; unfold maxLen; omega)).mono ?_
  rintro e w' ⟨hl, ⟨h1, _⟩ | ⟨_, g, cp, he, hg, hs⟩⟩
  · exact absurd fault0 h1
  · have h5 := hs.five (i := 0) (by decide)
    exact ⟨hl, g, cp, he, hs.1, h5⟩
theorem at0 (w : World) : Calls Tryd.prog 14 #[.agg #[.int .i64 9, .int .i64 10, .int .i64 11, .int .i64 6, .int .i64 4], .int .u64 5] w fun e w' => e = .returned (.int .i64 17) ∧ Below w.heap.size w w' :=
  At_any ⟨9, 10, 11, 6, 4⟩ 5 w (by omega)
theorem entry0 (A : Option Addr) (cp : Nat) (w : World) : Calls Tryd.prog 16 #[.agg #[.int .i64 0, .int .i64 1, .int .i64 8, .slice A 1 cp, .int .i64 35], .int .u64 9] w fun e w' => e = .returned (.int .i64 2) ∧ Below w.heap.size w w' :=
  Entry_any 0 1 8 35 A 1 cp 9 w (by omega)
set_option maxRecDepth 100000 in
set_option maxHeartbeats 4000000 in
theorem awake_any (w : World) : Calls Tryd.prog 10 #[] w fun e w' => e = .returned (.bool true) ∧ Below w.heap.size w w' := by
  go_enter Tryd.func10, Tryd.ntmps10
  go_wp2_with fail
  have TB := Blk.new w 59 #[.string ⟨#[112, 111, 115, 101]⟩, .int .i64 6, .int .i64 4]
  have L0 := Lib.hid ((Below.refl w.heap.size w).alloc (Nat.le_refl _) (.cells #[.string ⟨#[112, 111, 115, 101]⟩, .int .i64 6, .int .i64 4] 59))
  refine (of0 w.heap.size _ TB.lt ⟨TB.cell 0, TB.cell 1, TB.cell 2⟩).mono ?_; rintro e w1 ⟨hl, g, cp, rfl, hg, c0, c1, c2, c3, c4⟩
  have L1 := Lib.hid (bl L0.out hl)
  clear hl L0 TB
  go_upto_region 2 with fail
  have PB := Lib.hid (Blk.new w1 29 #[.int .i64 0, .int .i64 1, .int .i64 8, .slice (some ⟨g, 0, none⟩) 1 cp, .int .i64 35])
  have L2 := Lib.hid (L1.out.alloc L1.out.size (.cells #[.int .i64 0, .int .i64 1, .int .i64 8, .slice (some ⟨g, 0, none⟩) 1 cp, .int .i64 35] 29))
  have e1 : Below w1.heap.size w1 (w1.alloc (.cells #[.int .i64 0, .int .i64 1, .int .i64 8, .slice (some ⟨g, 0, none⟩) 1 cp, .int .i64 35] 29)) := (Below.refl _ _).alloc (Nat.le_refl _) _
  have d0 := (e1.cell (p := ⟨g, 0, none⟩) hg).trans c0
  have d1 := (e1.cell (p := ⟨g, 1, none⟩) hg).trans c1
  have d2 := (e1.cell (p := ⟨g, 2, none⟩) hg).trans c2
  have d3 := (e1.cell (p := ⟨g, 3, none⟩) hg).trans c3
  have d4 := (e1.cell (p := ⟨g, 4, none⟩) hg).trans c4
  clear e1 c0 c1 c2 c3 c4 hg L1
  generalize (w1.alloc (.cells #[.int .i64 0, .int .i64 1, .int .i64 8, .slice (some ⟨g, 0, none⟩) 1 cp, .int .i64 35] 29)) = w2 at *
  generalize w1.heap.size = pb at *
  have p0 := PB.out.cell 0
  have p1 := PB.out.cell 1
  have p2 := PB.out.cell 2
  have p3 := PB.out.cell 3
  have p4 := PB.out.cell 4
  simp only [List.getElem?_toArray, List.getElem?_cons_succ, List.getElem?_cons_zero] at p0 p1 p2 p3 p4
  go_wp2_with fail
  refine (at0 w2).mono ?_; rintro e w3 ⟨rfl, hl3⟩
  have L3 := Lib.hid (bl L2.out hl3)
  have PB3 := Lib.hid (PB.out.bl hl3)
  have q0 := PB3.out.cell 0
  have q1 := PB3.out.cell 1
  have q2 := PB3.out.cell 2
  have q3 := PB3.out.cell 3
  have q4 := PB3.out.cell 4
  simp only [List.getElem?_toArray, List.getElem?_cons_succ, List.getElem?_cons_zero] at q0 q1 q2 q3 q4
  clear hl3 d0 d1 d2 d3 d4 p0 p1 p2 p3 p4 PB L2
  go_wp2_with fail
  refine (entry0 (some ⟨g, 0, none⟩) cp w3).mono ?_; rintro e w4 ⟨rfl, hl4⟩
  have L4 := Lib.hid (bl L3.out hl4)
  clear hl4 q0 q1 q2 q3 q4
  go_wp2_with fail
  go_ret
  exact ⟨rfl, L4.out⟩
end Go.Proofs.YtgdfhgoenemanaaDoor.Plan
