/-
  PlanWhose, walked. Conditions stand at each. By an AI agent; by mkplwh.py.
-/
import Derived.Test.YtgdfhgoenemanaaDoorPlO
import Derived.Test.YtgdfhgoenemanaaDoorPlK
import Derived.Test.YtgdfhgoenemanaaDoorPlW
namespace Go.Proofs.YtgdfhgoenemanaaDoor.Plan
set_option linter.unusedVariables false
set_option linter.unusedSimpArgs false
open Go Go.RowKit Go.Proofs.YtgdfhgoenemanaaDoor.Base
set_option maxRecDepth 100000 in
set_option maxHeartbeats 16000000 in
theorem PlanWhose_walk (v : Value) (c : Cf) (q : Int) (bq : -9223372036854775808 ≤ q ∧ q ≤ 9223372036854775807) (w : World) (hv : CfAt w v c) :
    Calls Tryd.prog 6 #[v, .int .i64 q] w fun e w' => e = .returned (.bool true) ∧ Below w.heap.size w w' := by
  clear bq
  obtain ⟨A, k, rfl, ht, hn⟩ := hv.form
  have HNM := Lib.hid hv.nms
  have HT := Lib.hid ht
  have HN := Lib.hid hn
  clear hv ht hn
  have HFEW := Lib.hid (fun W hW => Few_any c A k W hW HN.out)
  have HOF := Lib.hid (fun W hW h => Of_any c A k W hW h HNM.out)
  have HRO := Lib.hid (fun W hW h => refOf_any c A k W hW h)
  unfold cfV at HFEW HOF HRO ⊢
  go_enter Tryd.func6, Tryd.ntmps6
  go_upto_region 1 with fail
  obtain ⟨B, hB⟩ : ∃ B, w.heap.size = B := ⟨_, rfl⟩
  have hcb : Blk (w.alloc (.cells #[.int .i64 c.tasks, .slice A c.n k, .int .i64 c.tries, .int .i64 c.log] 24)) B 24 #[.int .i64 c.tasks, .slice A c.n k, .int .i64 c.tries, .int .i64 c.log] := hB ▸ (Blk.new w 24 #[.int .i64 c.tasks, .slice A c.n k, .int .i64 c.tries, .int .i64 c.log])
  have hl : Below w.heap.size w (w.alloc (.cells #[.int .i64 c.tasks, .slice A c.n k, .int .i64 c.tries, .int .i64 c.log] 24)) := (Below.refl w.heap.size w).alloc (Nat.le_refl _) _
  simp only [hB] at ⊢
  have CB := Lib.hid hcb
  have L0 := Lib.hid hl
  clear hcb hl
  generalize (w.alloc (.cells #[.int .i64 c.tasks, .slice A c.n k, .int .i64 c.tries, .int .i64 c.log] 24)) = w0 at *
  have HT0 := Lib.hid (HT.out.bl L0.out)
  clear hB HT
  have g0 := CB.out.cell 0
  have g1 := CB.out.cell 1
  have g2 := CB.out.cell 2
  have g3 := CB.out.cell 3
  simp only [List.getElem?_toArray, List.getElem?_cons_succ, List.getElem?_cons_zero] at g0 g1 g2 g3
  go_wp2_with fail
  refine (HFEW.out w0 HT0.out).mono ?_; rintro e w1 ⟨rfl, hl1⟩
  have L1 := Lib.hid (bl L0.out hl1)
  have CB1 := Lib.hid (CB.out.bl hl1)
  have HT1 := Lib.hid (HT0.out.bl hl1)
  clear hl1 CB HT0 L0 g0 g1 g2 g3
  obtain ⟨fw, hfw⟩ : ∃ b, fewB c = b := ⟨_, rfl⟩
  rw [hfw]
  have HFW := Lib.hid hfw
  clear hfw
  cases fw with
  | false =>
    go_wp2_with fail
    refine (awake_any _).mono ?_; rintro e w2 ⟨rfl, hl2⟩
    have L2 := Lib.hid (bl L1.out hl2)
    clear hl2
    go_wp2_with fail
    go_ret
    exact ⟨rfl, L2.out⟩
  | true =>
    have H80 := Lib.hid (few_ok HFW.out)
    have g0 := CB1.out.cell 0
    have g1 := CB1.out.cell 1
    have g2 := CB1.out.cell 2
    have g3 := CB1.out.cell 3
    simp only [List.getElem?_toArray, List.getElem?_cons_succ, List.getElem?_cons_zero] at g0 g1 g2 g3
    go_wp2_with fail
    refine (HRO.out w1 HT1.out (by have := H80.out; omega)).mono ?_; rintro e w2 ⟨hl2, hr⟩
    have L2 := Lib.hid (bl L1.out hl2)
    have CB2 := Lib.hid (CB1.out.bl hl2)
    have HT2 := Lib.hid (HT1.out.bl hl2)
    have HR := Lib.hid hr
    clear hl2 CB1 HT1 L1 g0 g1 g2 g3 hr
    rcases HR.out with ⟨hz, rfl⟩ | ⟨hz, rb, tb, tc, wb, cw, rfl, hrb, hrp, hts, hwi⟩
    · have HZ := Lib.hid hz
      clear hz HR
      have g0 := CB2.out.cell 0
      have g1 := CB2.out.cell 1
      have g2 := CB2.out.cell 2
      have g3 := CB2.out.cell 3
      simp only [List.getElem?_toArray, List.getElem?_cons_succ, List.getElem?_cons_zero] at g0 g1 g2 g3
      go_wp2_with fail
      refine (HOF.out w2 HT2.out (by have := H80.out; omega)).mono ?_; rintro e w3 ⟨hl3, hr3⟩
      have L3 := Lib.hid (bl L2.out hl3)
      rcases hr3 with ⟨_, rfl⟩ | ⟨hz3, _⟩
      case inr => exact absurd hz3 HZ.out
      obtain ⟨fb, hfb⟩ : ∃ z, (faultF c).2 = z := ⟨_, rfl⟩
      rw [hfb] at HZ
      simp only [hfb]
      have kb : (fb != 0) = true := by simp [HZ.out]
      have kbb : (fb == fb) = true := by simp
      have L4 := Lib.hid (L3.out.alloc L3.out.size (.cells #[.int .i64 0, .int .i64 0, .int .i64 0, .slice none 0 0, .int .i64 0] 29))
      clear hl3 hfb g0 g1 g2 g3 L3
      go_wp2_with fail
      refine (awake_any _).mono ?_; rintro e w5 ⟨rfl, hl5⟩
      have L5 := Lib.hid (bl L4.out hl5)
      clear hl5
      go_wp2_with fail
      go_ret
      exact ⟨rfl, L5.out⟩
    · have HZ := Lib.hid hz
      have OK := Lib.hid (fault_ok hz).2
      have RB := Lib.hid hrp
      have WI := Lib.hid hwi
      clear hz HR hrb hrp hts hwi
      have g0 := CB2.out.cell 0
      have g1 := CB2.out.cell 1
      have g2 := CB2.out.cell 2
      have g3 := CB2.out.cell 3
      simp only [List.getElem?_toArray, List.getElem?_cons_succ, List.getElem?_cons_zero] at g0 g1 g2 g3
      go_wp2_with fail
      refine (HOF.out w2 HT2.out (by have := H80.out; omega)).mono ?_; rintro e w3 ⟨hl3, hr3⟩
      have L3 := Lib.hid (bl L2.out hl3)
      have RB3 := Lib.hid (RB.out.bl hl3)
      have WI3 := Lib.hid (WI.out.below hl3)
      rcases hr3 with ⟨hz3, _⟩ | ⟨_, sb, cp, rfl, hsb, hsp⟩
      case inl => exact absurd HZ.out hz3
      have SP3 := Lib.hid hsp
      clear hl3 hsb hsp g0 g1 g2 g3 CB2 HT2 L2 RB WI
      have hpl := Blk.new w3 29 #[.int .i64 0, .int .i64 1, .int .i64 c.log, .slice (some ⟨sb, 0, none⟩) c.n cp, .int .i64 (offP c c.n)]
      have el : Below w3.heap.size w3 (w3.alloc (.cells #[.int .i64 0, .int .i64 1, .int .i64 c.log, .slice (some ⟨sb, 0, none⟩) c.n cp, .int .i64 (offP c c.n)] 29)) := (Below.refl _ _).alloc (Nat.le_refl _) _
      go_upto_region 5 with fail
      have PV := Lib.hid hpl
      have RB4 := Lib.hid (RB3.out.bl el)
      have WI4 := Lib.hid (WI3.out.below el)
      have SP4 := Lib.hid (SP3.out.bl el)
      have L4 := Lib.hid (bl L3.out el)
      clear hpl el RB3 WI3 SP3 L3
      generalize (w3.alloc (.cells #[.int .i64 0, .int .i64 1, .int .i64 c.log, .slice (some ⟨sb, 0, none⟩) c.n cp, .int .i64 (offP c c.n)] 29)) = w4 at *
      generalize w3.heap.size = pv at *
      have HWH := Lib.hid (Whose_any sb cp c OK.out (offP c c.n) q w4 SP4.out)
      have HLN := Lib.hid (whL_len OK.out c.n (Nat.le_refl _))
      have HN64 := Lib.hid OK.out.n
      have HWW := Lib.hid (who_wh OK.out q)
      have p0 := PV.out.cell 0
      have p1 := PV.out.cell 1
      have p2 := PV.out.cell 2
      have p3 := PV.out.cell 3
      have p4 := PV.out.cell 4
      have r0 := RB4.out.cell 0
      have r4 := RB4.out.cell 4
      simp only [rpC, List.getElem?_toArray, List.getElem?_cons_succ, List.getElem?_cons_zero] at p0 p1 p2 p3 p4 r0 r4
      obtain ⟨a, ha⟩ : ∃ z, whoF c q = z := ⟨_, rfl⟩
      rw [ha] at HWH HWW
      obtain ⟨ln, hln⟩ : ∃ z, (whL c c.n).length = z := ⟨_, rfl⟩
      rw [hln] at r4 HLN HWW
      have HLNN := Lib.hid hln
      have kaa : (a == a) = true := by simp
      clear ha hln
      by_cases h0 : q < 0
      · have ka : decide (q ≥ 0) = false := decide_eq_false (by omega)
        have HA := Lib.hid (HWW.out.1 (.inl h0))
        have k3 : (a == (-3 : Int)) = true := by rw [HA.out]; rfl
        clear h0
        go_wp2_with fail
        refine HWH.out.mono ?_; rintro e w5 ⟨rfl, hl5⟩
        have L5 := Lib.hid (bl L4.out hl5)
        clear hl5
        go_wp2_with fail
        refine (awake_any _).mono ?_; rintro e w6 ⟨rfl, hl6⟩
        have L6 := Lib.hid (bl L5.out hl6)
        clear hl6
        go_wp2_with fail
        go_ret
        exact ⟨rfl, L6.out⟩
      have ka : decide (q ≥ 0) = true := decide_eq_true (by omega)
      by_cases h1 : q < (ln : Int)
      · have kl : decide (q < (ln : Int)) = true := decide_eq_true h1
        obtain ⟨m, rfl⟩ : ∃ m : Nat, q = (m : Int) := ⟨q.toNat, by omega⟩
        have HA := Lib.hid (HWW.out.2 m rfl (by omega))
        have hx := WI4.out.at_ m (by rw [HLNN.out]; omega)
        rw [← HA.out] at hx
        have km0 : (0 : Int) ≤ (m : Int) := by omega
        have km1 : (m : Int) < (ln : Int) := h1
        have km2 : m < ln := by omega
        have km3 : decide (m < ln) = true := decide_eq_true km2
        clear h0 h1
        go_wp2_with fail
        refine HWH.out.mono ?_; rintro e w5 ⟨rfl, hl5⟩
        have L5 := Lib.hid (bl L4.out hl5)
        clear hl5
        go_wp2_with fail
        refine (awake_any _).mono ?_; rintro e w6 ⟨rfl, hl6⟩
        have L6 := Lib.hid (bl L5.out hl6)
        clear hl6
        go_wp2_with fail
        go_ret
        exact ⟨rfl, L6.out⟩
      · have kl : decide (q < (ln : Int)) = false := decide_eq_false h1
        have HA := Lib.hid (HWW.out.1 (.inr (by omega)))
        have k3 : (a == (-3 : Int)) = true := by rw [HA.out]; rfl
        clear h0 h1
        go_wp2_with fail
        refine HWH.out.mono ?_; rintro e w5 ⟨rfl, hl5⟩
        have L5 := Lib.hid (bl L4.out hl5)
        clear hl5
        go_wp2_with fail
        refine (awake_any _).mono ?_; rintro e w6 ⟨rfl, hl6⟩
        have L6 := Lib.hid (bl L5.out hl6)
        clear hl6
        go_wp2_with fail
        go_ret
        exact ⟨rfl, L6.out⟩
end Go.Proofs.YtgdfhgoenemanaaDoor.Plan
