/-
  PlanApart, walked. Conditions stand at each. By an AI agent; by mkplap.py.
-/
import Derived.Test.YtgdfhgoenemanaaDoorPlY
import Derived.Test.YtgdfhgoenemanaaDoorPlK
namespace Go.Proofs.YtgdfhgoenemanaaDoor.Plan
set_option linter.unusedVariables false
set_option linter.unusedSimpArgs false
open Go Go.RowKit Go.Proofs.YtgdfhgoenemanaaDoor.Base
set_option maxRecDepth 100000 in
set_option maxHeartbeats 30000000 in
theorem PlanApart_walk (v : Value) (c : Cf) (v2 : Value) (y : Int × Int) (v3 : Value) (x : (Int × Int) × (Int × Int)) (w : World) (hv : CfAt w v c) (hy : v2 = .agg #[.int .i64 y.1, .int .i64 y.2])
    (hx : v3 = .agg #[.int .u64 x.1.1, .int .u64 x.1.2, .int .i64 x.2.1, .int .i64 x.2.2] ∧ (0 ≤ x.1.1 ∧ x.1.1 ≤ 18446744073709551615) ∧ (0 ≤ x.1.2 ∧ x.1.2 ≤ 18446744073709551615)) :
    Calls Tryd.prog 7 #[v, v2, v3] w fun e w' => e = .returned (.bool true) ∧ Below w.heap.size w w' := by
  obtain ⟨A, k, rfl, ht, hn⟩ := hv.form
  obtain ⟨t0, t1⟩ := y
  obtain ⟨⟨g0, g1⟩, ⟨v0, v1⟩⟩ := x
  obtain ⟨rfl, hg0, hg1⟩ := hx
  subst hy
  simp only at hg0 hg1 ⊢
  have HG0 := Lib.hid hg0
  have HG1 := Lib.hid hg1
  have HNM := Lib.hid hv.nms
  have HT := Lib.hid ht
  have HN := Lib.hid hn
  clear hv ht hn hg0 hg1
  have HFEW := Lib.hid (fun W hW => Few_any c A k W hW HN.out)
  have HOF := Lib.hid (fun W hW h => Of_any c A k W hW h HNM.out)
  unfold cfV at HFEW HOF ⊢
  go_enter Tryd.func7, Tryd.ntmps7
  go_upto_region 1 with fail
  obtain ⟨B, hB⟩ : ∃ B, w.heap.size = B := ⟨_, rfl⟩
  have z1 : (w.alloc (.cells #[.int .i64 c.tasks, .slice A c.n k, .int .i64 c.tries, .int .i64 c.log] 24)).heap.size = B + 1 := by simp [hB]
  have z2 : ((w.alloc (.cells #[.int .i64 c.tasks, .slice A c.n k, .int .i64 c.tries, .int .i64 c.log] 24)).alloc (.cells #[.int .i64 t0, .int .i64 t1] 44)).heap.size = B + 1 + 1 := by simp [hB]
  have hcb : Blk (((w.alloc (.cells #[.int .i64 c.tasks, .slice A c.n k, .int .i64 c.tries, .int .i64 c.log] 24)).alloc (.cells #[.int .i64 t0, .int .i64 t1] 44)).alloc (.cells #[.int .u64 g0, .int .u64 g1, .int .i64 v0, .int .i64 v1] 55)) B 24 #[.int .i64 c.tasks, .slice A c.n k, .int .i64 c.tries, .int .i64 c.log] := hB ▸ ((Blk.new w 24 #[.int .i64 c.tasks, .slice A c.n k, .int .i64 c.tries, .int .i64 c.log]).alloc _).alloc _
  have htw : Blk (((w.alloc (.cells #[.int .i64 c.tasks, .slice A c.n k, .int .i64 c.tries, .int .i64 c.log] 24)).alloc (.cells #[.int .i64 t0, .int .i64 t1] 44)).alloc (.cells #[.int .u64 g0, .int .u64 g1, .int .i64 v0, .int .i64 v1] 55)) (B + 1) 44 #[.int .i64 t0, .int .i64 t1] := z1 ▸ (Blk.new (w.alloc (.cells #[.int .i64 c.tasks, .slice A c.n k, .int .i64 c.tries, .int .i64 c.log] 24)) 44 #[.int .i64 t0, .int .i64 t1]).alloc _
  have hxx : Blk (((w.alloc (.cells #[.int .i64 c.tasks, .slice A c.n k, .int .i64 c.tries, .int .i64 c.log] 24)).alloc (.cells #[.int .i64 t0, .int .i64 t1] 44)).alloc (.cells #[.int .u64 g0, .int .u64 g1, .int .i64 v0, .int .i64 v1] 55)) (B + 1 + 1) 55 #[.int .u64 g0, .int .u64 g1, .int .i64 v0, .int .i64 v1] := z2 ▸ Blk.new ((w.alloc (.cells #[.int .i64 c.tasks, .slice A c.n k, .int .i64 c.tries, .int .i64 c.log] 24)).alloc (.cells #[.int .i64 t0, .int .i64 t1] 44)) 55 #[.int .u64 g0, .int .u64 g1, .int .i64 v0, .int .i64 v1]
  have hl : Below w.heap.size w (((w.alloc (.cells #[.int .i64 c.tasks, .slice A c.n k, .int .i64 c.tries, .int .i64 c.log] 24)).alloc (.cells #[.int .i64 t0, .int .i64 t1] 44)).alloc (.cells #[.int .u64 g0, .int .u64 g1, .int .i64 v0, .int .i64 v1] 55)) := (((Below.refl w.heap.size w).alloc (Nat.le_refl _) _).alloc (by rw [z1, hB]; omega) _).alloc (by rw [z2, hB]; omega) _
  simp only [hB] at ⊢
  have CB := Lib.hid hcb
  have TW := Lib.hid htw
  have XB := Lib.hid hxx
  have L0 := Lib.hid hl
  clear hcb htw hxx hl z1 z2
  generalize (((w.alloc (.cells #[.int .i64 c.tasks, .slice A c.n k, .int .i64 c.tries, .int .i64 c.log] 24)).alloc (.cells #[.int .i64 t0, .int .i64 t1] 44)).alloc (.cells #[.int .u64 g0, .int .u64 g1, .int .i64 v0, .int .i64 v1] 55)) = w0 at *
  have HT0 := Lib.hid (HT.out.bl L0.out)
  clear hB HT
  have g_0 := CB.out.cell 0
  have g_1 := CB.out.cell 1
  have g_2 := CB.out.cell 2
  have g_3 := CB.out.cell 3
  simp only [List.getElem?_toArray, List.getElem?_cons_succ, List.getElem?_cons_zero] at g_0 g_1 g_2 g_3
  go_wp2_with fail
  refine (HFEW.out w0 HT0.out).mono ?_; rintro e w1 ⟨rfl, hl1⟩
  have L1 := Lib.hid (bl L0.out hl1)
  have CB1 := Lib.hid (CB.out.bl hl1)
  have TW1 := Lib.hid (TW.out.bl hl1)
  have XB1 := Lib.hid (XB.out.bl hl1)
  have HT1 := Lib.hid (HT0.out.bl hl1)
  clear hl1 CB TW XB HT0 L0 g_0 g_1 g_2 g_3
  obtain ⟨fw, hfw⟩ : ∃ b, fewB c = b := ⟨_, rfl⟩
  rw [hfw]
  have HFW := Lib.hid hfw
  clear hfw
  cases fw with
  | false =>
    go_wp2_with fail
    refine (awake_any _).mono ?_; rintro e w9 ⟨rfl, hl9⟩
    have L9 := Lib.hid (bl L1.out hl9)
    clear hl9
    go_wp2_with fail
    go_ret
    exact ⟨rfl, L9.out⟩
  | true =>
    have H80 := Lib.hid (few_ok HFW.out)
    have g_0 := CB1.out.cell 0
    have g_1 := CB1.out.cell 1
    have g_2 := CB1.out.cell 2
    have g_3 := CB1.out.cell 3
    simp only [List.getElem?_toArray, List.getElem?_cons_succ, List.getElem?_cons_zero] at g_0 g_1 g_2 g_3
    go_wp2_with fail
    refine (HOF.out w1 HT1.out (by have := H80.out; omega)).mono ?_; rintro e w2 ⟨hl2, hr⟩
    have L2 := Lib.hid (bl L1.out hl2)
    have CB2 := Lib.hid (CB1.out.bl hl2)
    have TW2 := Lib.hid (TW1.out.bl hl2)
    have XB2 := Lib.hid (XB1.out.bl hl2)
    have HR := Lib.hid hr
    clear hl2 CB1 TW1 XB1 HT1 L1 g_0 g_1 g_2 g_3 hr
    rcases HR.out with ⟨hz, rfl⟩ | ⟨hz, sb, cp, rfl, hsb, hsp⟩
    · obtain ⟨fb, hfb⟩ : ∃ z, (faultF c).2 = z := ⟨_, rfl⟩
      rw [hfb] at hz
      simp only [hfb]
      have kb : (fb != 0) = true := by simp [hz]
      have L3 := Lib.hid (L2.out.alloc L2.out.size (.cells #[.int .i64 0, .int .i64 0, .int .i64 0, .slice none 0 0, .int .i64 0] 29))
      clear hz hfb HR
      go_wp2_with fail
      refine (awake_any _).mono ?_; rintro e w9 ⟨rfl, hl9⟩
      have L9 := Lib.hid (bl L3.out hl9)
      clear hl9
      go_wp2_with fail
      go_ret
      exact ⟨rfl, L9.out⟩
    · have OK := Lib.hid (fault_ok hz).2
      have SP2 := Lib.hid hsp
      clear hz HR hsp hsb
      have hpl := Blk.new w2 29 #[.int .i64 0, .int .i64 1, .int .i64 c.log, .slice (some ⟨sb, 0, none⟩) c.n cp, .int .i64 (offP c c.n)]
      have el : Below w2.heap.size w2 (w2.alloc (.cells #[.int .i64 0, .int .i64 1, .int .i64 c.log, .slice (some ⟨sb, 0, none⟩) c.n cp, .int .i64 (offP c c.n)] 29)) := (Below.refl _ _).alloc (Nat.le_refl _) _
      go_upto_region 6 with fail
      have PV := Lib.hid hpl
      have SP := Lib.hid (SP2.out.bl el)
      have CB := Lib.hid (CB2.out.bl el)
      have TW := Lib.hid (TW2.out.bl el)
      have XB := Lib.hid (XB2.out.bl el)
      have L3 := Lib.hid (bl L2.out el)
      clear hpl el SP2 CB2 TW2 XB2 L2
      generalize (w2.alloc (.cells #[.int .i64 0, .int .i64 1, .int .i64 c.log, .slice (some ⟨sb, 0, none⟩) c.n cp, .int .i64 (offP c c.n)] 29)) = w3 at *
      obtain ⟨pv, hpv⟩ : ∃ z, w2.heap.size = z := ⟨_, rfl⟩
      rw [hpv] at PV
      simp only [hpv]
      clear hpv
      have HN64 := Lib.hid OK.out.n
      have HLOG := Lib.hid OK.out.log
      have HOFB := Lib.hid (offP_bounds OK.out c.n (Nat.le_refl _))
      have HWHO := Lib.hid (fun q W h => Whose_any sb cp c OK.out (offP c c.n) q W h)
      have HENT := Lib.hid (fun g hg W => Entry_any 0 1 c.log (offP c c.n) (some ⟨sb, 0, none⟩) c.n cp g W hg)
      have HEF := Lib.hid (show ∀ g, entryF 1 c.log g = 1 + g % c.log from fun g => if_pos ⟨HLOG.out, by omega, by omega⟩)
      have HEP := Lib.hid (show ∀ g, 0 ≤ g % c.log from fun g => Int.emod_nonneg g (by have := HLOG.out; omega))
      have HLV := Lib.hid (fun (j : Nat) (hj : j < c.n) (g u : Int) (hu : 0 ≤ u ∧ u < (c.l j).words) (i : Nat) (hi : i < 3) (e : Int) => lvF_facts OK.out hj g u hu hi e)
      obtain ⟨lg, hlg⟩ : ∃ z, c.log = z := ⟨_, rfl⟩
      obtain ⟨sz, hsz⟩ : ∃ z, offP c c.n = z := ⟨_, rfl⟩
      rw [hlg, hsz] at PV HWHO HENT HOFB
      rw [hlg] at HEF HEP HLV HLOG
      rw [hsz] at HLV
      clear hlg hsz
      obtain ⟨e0, he0⟩ : ∃ z, entryF 1 lg g0 = z := ⟨_, rfl⟩
      have E0C := Lib.hid (HENT.out g0 HG0.out)
      rw [he0] at E0C
      obtain ⟨e1, he1⟩ : ∃ z, entryF 1 lg g1 = z := ⟨_, rfl⟩
      have E1C := Lib.hid (HENT.out g1 HG1.out)
      rw [he1] at E1C
      have HE1 := Lib.hid (show e1 = 1 + g1 % lg by rw [← he1]; exact HEF.out g1)
      have kn : ((c.n : Int) != (c.n : Int)) = false := by simp
      have k1 : decide (sz < 1) = false := decide_eq_false (by have := HOFB.out; have := HLOG.out; omega)
      have k2 : decide (sz > 1048576) = false := decide_eq_false (by have := HOFB.out; have := HN64.out; omega)
      have k3 : (e0 == 0) = false := beq_eq_false_iff_ne.2 (by rw [← he0, HEF.out]; have := HEP.out g0; omega)
      clear he0 he1
      have hne : Nonempty (Held (Below w3.heap.size w3)) := ⟨⟨w3, Below.refl _ _⟩⟩
      have p0 : ∀ y : Held (Below w3.heap.size w3), y.w.cell? ⟨pv, 0, none⟩ = some (.int .i64 0) := fun y => by rw [(PV.out.bl y.ok).cell]; rfl
      have p1 : ∀ y : Held (Below w3.heap.size w3), y.w.cell? ⟨pv, 1, none⟩ = some (.int .i64 1) := fun y => by rw [(PV.out.bl y.ok).cell]; rfl
      have p2 : ∀ y : Held (Below w3.heap.size w3), y.w.cell? ⟨pv, 2, none⟩ = some (.int .i64 lg) := fun y => by rw [(PV.out.bl y.ok).cell]; rfl
      have p3 : ∀ y : Held (Below w3.heap.size w3), y.w.cell? ⟨pv, 3, none⟩ = some (.slice (some ⟨sb, 0, none⟩) c.n cp) := fun y => by rw [(PV.out.bl y.ok).cell]; rfl
      have p4 : ∀ y : Held (Below w3.heap.size w3), y.w.cell? ⟨pv, 4, none⟩ = some (.int .i64 sz) := fun y => by rw [(PV.out.bl y.ok).cell]; rfl
      have q1 : ∀ y : Held (Below w3.heap.size w3), y.w.cell? ⟨B, 1, none⟩ = some (.slice A c.n k) := fun y => by rw [(CB.out.bl y.ok).cell]; rfl
      have x0 : ∀ y : Held (Below w3.heap.size w3), y.w.cell? ⟨B + 1 + 1, 0, none⟩ = some (.int .u64 g0) := fun y => by rw [(XB.out.bl y.ok).cell]; rfl
      refine drawn_bars (S := Below w3.heap.size w3) [([0, 1, 2, 3, 4, 5, 6, 7, 8, 9, 10, 11, 12, 13, 14, 15, 16, 17, 18, 19, 20, 21, 23, 24], 22)] [25, 26] (by kernel_rfl) (by kernel_rfl) (by kernel_rfl) rfl (Below.refl _ _).drew ?_
      refine Phased.go ?_
      simp only [pick, List.map_cons, List.map_nil, List.getElem?_cons_zero, List.getElem?_cons_succ, Option.getD_some]
      repeat (go_big_quiet_step (fail))
      refine wpQuiet_nil ?_
      go_wp2_with fail
      refine (E0C.out _).mono ?_; rintro e w4 ⟨rfl, hl4⟩
      have E4 := Lib.hid (bl (Below.refl w3.heap.size w3).drew hl4)
      clear hl4
      go_wp2_with fail
      refine behind_normal ⟨Below w3.heap.size w3, fun W h => h, E4.out, ?_⟩
      refine Phased.end_ ?_
      have hne5 : Nonempty (Held (fun W => W = w4)) := ⟨⟨_, rfl⟩⟩
      simp only [pick, List.map_cons, List.map_nil, List.getElem?_cons_zero, List.getElem?_cons_succ, Option.getD_some]
      repeat (go_big_quiet_step (fail))
      refine wpQuiet_nil ?_
      clear hne hne5 p0 p1 p2 p3 p4 q1 x0
      have PV4 := Lib.hid (PV.out.bl E4.out)
      have SP4 := Lib.hid (SP.out.bl E4.out)
      have TW4 := Lib.hid (TW.out.bl E4.out)
      have XB4 := Lib.hid (XB.out.bl E4.out)
      have L4 := Lib.hid (bl L3.out E4.out)
      clear E4 PV SP CB TW XB L3 kn k1 k2 k3
      have t0c := TW4.out.cell 0
      have t1c := TW4.out.cell 1
      have p3 := PV4.out.cell 3
      simp only [List.getElem?_toArray, List.getElem?_cons_succ, List.getElem?_cons_zero] at t0c t1c p3
      by_cases a1 : t0 < 0
      · have d1 : decide (t0 < 0) = true := decide_eq_true a1
        clear a1
        go_wp2_with fail
        refine (awake_any _).mono ?_; rintro e w9 ⟨rfl, hl9⟩
        have L9 := Lib.hid (bl L4.out hl9)
        clear hl9
        go_wp2_with fail
        go_ret
        exact ⟨rfl, L9.out⟩
      have d1 : decide (t0 < 0) = false := decide_eq_false a1
      by_cases a2 : t0 ≥ (c.n : Int)
      · have d2 : decide (t0 ≥ (c.n : Int)) = true := decide_eq_true a2
        clear a1 a2
        go_wp2_with fail
        refine (awake_any _).mono ?_; rintro e w9 ⟨rfl, hl9⟩
        have L9 := Lib.hid (bl L4.out hl9)
        clear hl9
        go_wp2_with fail
        go_ret
        exact ⟨rfl, L9.out⟩
      have d2 : decide (t0 ≥ (c.n : Int)) = false := decide_eq_false a2
      by_cases a3 : t1 < 0
      · have d3 : decide (t1 < 0) = true := decide_eq_true a3
        clear a1 a2 a3
        go_wp2_with fail
        refine (awake_any _).mono ?_; rintro e w9 ⟨rfl, hl9⟩
        have L9 := Lib.hid (bl L4.out hl9)
        clear hl9
        go_wp2_with fail
        go_ret
        exact ⟨rfl, L9.out⟩
      have d3 : decide (t1 < 0) = false := decide_eq_false a3
      by_cases a4 : t1 ≥ (c.n : Int)
      · have d4 : decide (t1 ≥ (c.n : Int)) = true := decide_eq_true a4
        clear a1 a2 a3 a4
        go_wp2_with fail
        refine (awake_any _).mono ?_; rintro e w9 ⟨rfl, hl9⟩
        have L9 := Lib.hid (bl L4.out hl9)
        clear hl9
        go_wp2_with fail
        go_ret
        exact ⟨rfl, L9.out⟩
      have d4 : decide (t1 ≥ (c.n : Int)) = false := decide_eq_false a4
      have i0 : 0 ≤ t0 := by omega
      have i1 : t0 < (c.n : Int) := by omega
      have i2 : 0 ≤ t1 := by omega
      have i3 : t1 < (c.n : Int) := by omega
      obtain ⟨j0, hj0⟩ : ∃ z : Nat, t0 = (z : Int) := ⟨t0.toNat, by omega⟩
      obtain ⟨j1, hj1⟩ : ∃ z : Nat, t1 = (z : Int) := ⟨t1.toNat, by omega⟩
      have HJ0 := Lib.hid (show j0 < c.n ∧ t0 = (j0 : Int) from ⟨by omega, hj0⟩)
      have HJ1 := Lib.hid (show j1 < c.n ∧ t1 = (j1 : Int) from ⟨by omega, hj1⟩)
      have HW0 := Lib.hid (OK.out.l j0 HJ0.out.1)
      have HW1 := Lib.hid (OK.out.l j1 HJ1.out.1)
      have HB0 := Lib.hid (offP_bounds OK.out j0 (by have := HJ0.out.1; omega))
      have HB1 := Lib.hid (offP_bounds OK.out j1 (by have := HJ1.out.1; omega))
      obtain ⟨sa0, sa1, sa2, sa3, sa4⟩ := SP4.out.five HJ0.out.1
      obtain ⟨sb0, sb1, sb2, sb3, sb4⟩ := SP4.out.five HJ1.out.1
      have HA := Lib.hid (show (spF c j0).owners = offP c j0 ∧ (spF c j0).seq = offP c j0 + 1 ∧ (spF c j0).words = (c.l j0).words ∧ (spF c j0).depth = (c.l j0).depth from ⟨rfl, rfl, rfl, rfl⟩)
      have HBB := Lib.hid (show (spF c j1).owners = offP c j1 ∧ (spF c j1).seq = offP c j1 + 1 ∧ (spF c j1).words = (c.l j1).words ∧ (spF c j1).depth = (c.l j1).depth from ⟨rfl, rfl, rfl, rfl⟩)
      have AT0 := Lib.hid (fun W => At_any (spF c j0) g0 W HG0.out)
      have AT1 := Lib.hid (fun W => At_any (spF c j1) g1 W HG1.out)
      rw [atF_sp OK.out HJ0.out.1] at AT0
      rw [atF_sp OK.out HJ1.out.1] at AT1
      have HP0 := Lib.hid (prod_part OK.out HJ0.out.1 g0)
      have HP1 := Lib.hid (prod_part OK.out HJ1.out.1 g1)
      have HC0 := Lib.hid (at_bounds OK.out HJ0.out.1 g0)
      have HC1 := Lib.hid (at_bounds OK.out HJ1.out.1 g1)
      generalize hs0 : spF c j0 = s0 at *
      generalize hs1 : spF c j1 = s1 at *
      obtain ⟨ao, aq, af, aw, ad⟩ := s0
      obtain ⟨bo, bq, bf, bw, bd⟩ := s1
      unfold Sp.val at AT0 AT1
      simp only at AT0 AT1 HA HBB sa0 sa1 sa2 sa3 sa4 sb0 sb1 sb2 sb3 sb4
      obtain ⟨aa, haa⟩ : ∃ z, offP c j0 + 2 + g0 % (c.l j0).depth * (c.l j0).words = z := ⟨_, rfl⟩
      obtain ⟨ba, hba⟩ : ∃ z, offP c j1 + 2 + g1 % (c.l j1).depth * (c.l j1).words = z := ⟨_, rfl⟩
      rw [haa] at AT0 HC0
      rw [hba] at AT1 HC1
      have HAA := Lib.hid haa
      have HBA := Lib.hid hba
      have hj0' : t0 = (j0 : Int) := hj0
      subst hj0
      subst hj1
      have kj0 : (0 : Int) ≤ (j0 : Int) := by omega
      have kj1 : (0 : Int) ≤ (j1 : Int) := by omega
      have kj2 : (j0 : Int) ≤ 64 := by have := HN64.out; omega
      have kj3 : (j1 : Int) ≤ 64 := by have := HN64.out; omega
      have kl0 : (j0 : Int) < (c.n : Int) := i1
      have kl1 : (j1 : Int) < (c.n : Int) := i3
      have km0 : j0 < c.n := HJ0.out.1
      have km1 : j1 < c.n := HJ1.out.1
      have kn0 : decide (j0 < c.n) = true := decide_eq_true km0
      have kn1 : decide (j1 < c.n) = true := decide_eq_true km1
      have kge0 : decide (c.n ≤ j0) = false := decide_eq_false (by omega)
      have kge1 : decide (c.n ≤ j1) = false := decide_eq_false (by omega)
      clear a1 a2 a3 a4 i0 i1 i2 i3 haa hba hj0'
      go_upto_region 11 with fail
      have hab := Blk.new w4 43 #[.int .i64 ao, .int .i64 aq, .int .i64 af, .int .i64 aw, .int .i64 ad]
      have el : Below w4.heap.size w4 (w4.alloc (.cells #[.int .i64 ao, .int .i64 aq, .int .i64 af, .int .i64 aw, .int .i64 ad] 43)) := (Below.refl _ _).alloc (Nat.le_refl _) _
      have hsb : sb < w4.heap.size := SP4.out.1
      have AB := Lib.hid hab
      have PV5 := Lib.hid (PV4.out.bl el)
      have TW5 := Lib.hid (TW4.out.bl el)
      have XB5 := Lib.hid (XB4.out.bl el)
      have SP5 := Lib.hid (SP4.out.bl el)
      have L5 := Lib.hid (bl L4.out el)
      have u0 := (el.cell (p := ⟨sb, j1 * 5, none⟩) hsb).trans sb0
      have u1 := (el.cell (p := ⟨sb, j1 * 5 + 1, none⟩) hsb).trans sb1
      have u2 := (el.cell (p := ⟨sb, j1 * 5 + 2, none⟩) hsb).trans sb2
      have u3 := (el.cell (p := ⟨sb, j1 * 5 + 3, none⟩) hsb).trans sb3
      have u4 := (el.cell (p := ⟨sb, j1 * 5 + 4, none⟩) hsb).trans sb4
      clear sa0 sa1 sa2 sa3 sa4 sb0 sb1 sb2 sb3 sb4 hab el hsb t0c t1c p3 PV4 TW4 XB4 SP4 L4 d1 d2 d3 d4
      generalize (w4.alloc (.cells #[.int .i64 ao, .int .i64 aq, .int .i64 af, .int .i64 aw, .int .i64 ad] 43)) = w5 at *
      generalize w4.heap.size = ab at *
      have t1c := TW5.out.cell 1
      have p3 := PV5.out.cell 3
      simp only [List.getElem?_toArray, List.getElem?_cons_succ, List.getElem?_cons_zero] at t1c p3
      go_upto_region 12 with fail
      have hbb := Blk.new w5 43 #[.int .i64 bo, .int .i64 bq, .int .i64 bf, .int .i64 bw, .int .i64 bd]
      have el : Below w5.heap.size w5 (w5.alloc (.cells #[.int .i64 bo, .int .i64 bq, .int .i64 bf, .int .i64 bw, .int .i64 bd] 43)) := (Below.refl _ _).alloc (Nat.le_refl _) _
      have BB := Lib.hid hbb
      have AB6 := Lib.hid (AB.out.bl el)
      have PV6 := Lib.hid (PV5.out.bl el)
      have TW6 := Lib.hid (TW5.out.bl el)
      have XB6 := Lib.hid (XB5.out.bl el)
      have SP6 := Lib.hid (SP5.out.bl el)
      have L6 := Lib.hid (bl L5.out el)
      clear u0 u1 u2 u3 u4 hbb el t1c p3 PV5 TW5 XB5 SP5 L5 AB
      generalize (w5.alloc (.cells #[.int .i64 bo, .int .i64 bq, .int .i64 bf, .int .i64 bw, .int .i64 bd] 43)) = w6 at *
      generalize w5.heap.size = bb at *
      clear kge0 kge1 kl0 kl1 km0 km1 kn0 kn1
      have x2c := XB6.out.cell 2
      have x3c := XB6.out.cell 3
      have a3c := AB6.out.cell 3
      have b3c := BB.out.cell 3
      simp only [List.getElem?_toArray, List.getElem?_cons_succ, List.getElem?_cons_zero] at x2c x3c a3c b3c
      by_cases a1 : v0 < 0
      · have d1 : decide (v0 < 0) = true := decide_eq_true a1
        clear a1
        go_wp2_with fail
        refine (awake_any _).mono ?_; rintro e w9 ⟨rfl, hl9⟩
        have L9 := Lib.hid (bl L6.out hl9)
        clear hl9
        go_wp2_with fail
        go_ret
        exact ⟨rfl, L9.out⟩
      have d1 : decide (v0 < 0) = false := decide_eq_false a1
      by_cases a2 : v0 ≥ aw
      · have d2 : decide (v0 ≥ aw) = true := decide_eq_true a2
        clear a1 a2
        go_wp2_with fail
        refine (awake_any _).mono ?_; rintro e w9 ⟨rfl, hl9⟩
        have L9 := Lib.hid (bl L6.out hl9)
        clear hl9
        go_wp2_with fail
        go_ret
        exact ⟨rfl, L9.out⟩
      have d2 : decide (v0 ≥ aw) = false := decide_eq_false a2
      by_cases a3 : v1 < 0
      · have d3 : decide (v1 < 0) = true := decide_eq_true a3
        clear a1 a2 a3
        go_wp2_with fail
        refine (awake_any _).mono ?_; rintro e w9 ⟨rfl, hl9⟩
        have L9 := Lib.hid (bl L6.out hl9)
        clear hl9
        go_wp2_with fail
        go_ret
        exact ⟨rfl, L9.out⟩
      have d3 : decide (v1 < 0) = false := decide_eq_false a3
      by_cases a4 : v1 ≥ bw
      · have d4 : decide (v1 ≥ bw) = true := decide_eq_true a4
        clear a1 a2 a3 a4
        go_wp2_with fail
        refine (awake_any _).mono ?_; rintro e w9 ⟨rfl, hl9⟩
        have L9 := Lib.hid (bl L6.out hl9)
        clear hl9
        go_wp2_with fail
        go_ret
        exact ⟨rfl, L9.out⟩
      have d4 : decide (v1 ≥ bw) = false := decide_eq_false a4
      have HV0 := Lib.hid (show 0 ≤ v0 ∧ v0 < (c.l j0).words from ⟨by omega, by rw [← HA.out.2.2.1]; omega⟩)
      have HV1 := Lib.hid (show 0 ≤ v1 ∧ v1 < (c.l j1).words from ⟨by omega, by rw [← HBB.out.2.2.1]; omega⟩)
      have c0 : 0 ≤ v0 := HV0.out.1
      have c1 : v0 ≤ 64 := by have := HV0.out; have := HW0.out; omega
      have c2 : 0 ≤ v1 := HV1.out.1
      have c3 : v1 ≤ 64 := by have := HV1.out; have := HW1.out; omega
      have c4 : 0 ≤ aa := HC0.out.1
      have c5 : aa ≤ 100000 := HC0.out.2
      have c6 : 0 ≤ ba := HC1.out.1
      have c7 : ba ≤ 100000 := HC1.out.2
      clear a1 a2 a3 a4
      go_upto_region 14 with fail
      clear d1 d2 d3 d4 x2c x3c a3c b3c
      skip
      go_cut [11] from 119 to 132 (fun s11 wx => ∃ lb, s11 = .pointer (some ⟨lb, 0, none⟩) ∧ w6.heap.size ≤ lb ∧ Blk wx lb 56 #[.int .i64 ao, .int .i64 aq, .int .i64 (aa + v0)] ∧ Below w6.heap.size w6 wx)
      case first =>
        have hne : Nonempty (Held (Below w6.heap.size w6)) := ⟨⟨w6, Below.refl _ _⟩⟩
        have s0 : ∀ y : Held (Below w6.heap.size w6), y.w.cell? ⟨ab, 0, none⟩ = some (.int .i64 ao) := fun y => by rw [(AB6.out.bl y.ok).cell]; rfl
        have s1 : ∀ y : Held (Below w6.heap.size w6), y.w.cell? ⟨ab, 1, none⟩ = some (.int .i64 aq) := fun y => by rw [(AB6.out.bl y.ok).cell]; rfl
        have s2 : ∀ y : Held (Below w6.heap.size w6), y.w.cell? ⟨ab, 2, none⟩ = some (.int .i64 af) := fun y => by rw [(AB6.out.bl y.ok).cell]; rfl
        have s3 : ∀ y : Held (Below w6.heap.size w6), y.w.cell? ⟨ab, 3, none⟩ = some (.int .i64 aw) := fun y => by rw [(AB6.out.bl y.ok).cell]; rfl
        have s4 : ∀ y : Held (Below w6.heap.size w6), y.w.cell? ⟨ab, 4, none⟩ = some (.int .i64 ad) := fun y => by rw [(AB6.out.bl y.ok).cell]; rfl
        have q0 : ∀ y : Held (Below w6.heap.size w6), y.w.cell? ⟨B + 1 + 1, 0, none⟩ = some (.int .u64 g0) := fun y => by rw [(XB6.out.bl y.ok).cell]; rfl
        have q1 : ∀ y : Held (Below w6.heap.size w6), y.w.cell? ⟨B + 1 + 1, 2, none⟩ = some (.int .i64 v0) := fun y => by rw [(XB6.out.bl y.ok).cell]; rfl
        refine drawn_sch (S := Below w6.heap.size w6) [] (.two [0, 1, 2, 3, 4, 5, 6, 7, 9, 10, 11] 8 (.bar [12, 13] 14 (.bar [] 15 (.fin []))) 14 (.bar [] 8 (.bar [12, 13] 15 (.fin [])))) (by kernel_rfl) (by kernel_rfl) (by kernel_rfl) rfl (Below.refl _ _).drew ?_
        refine PhasedC.two_ ?_
        simp only [pick, List.map_cons, List.map_nil, List.getElem?_cons_zero, List.getElem?_cons_succ, Option.getD_some]
        repeat (go_big_quiet_step (fail))
        refine wpQuiet_nil ?_
        clear q0 q1 s0 s1 s2 s3 s4
        have E0 := Lib.hid (Below.refl w6.heap.size w6).drew
        generalize w6.drew = x0_ at *
        refine ⟨?_, ?_⟩
        · skip
          go_wp2_with fail
          refine (AT0.out _).mono ?_; rintro e x1_ ⟨rfl, hl_⟩
          have E1 := Lib.hid (bl E0.out hl_)
          clear hl_
          go_wp2_with fail
          refine behind_normal ⟨Below w6.heap.size w6, fun W h => h, by first | exact E1.out | exact fun _ => E1.out, ?_⟩
          refine PhasedC.bar_ ?_
          simp only [pick, List.map_cons, List.map_nil, List.getElem?_cons_zero, List.getElem?_cons_succ, Option.getD_some]
          repeat (go_big_quiet_step (fail))
          refine wpQuiet_nil ?_
          go_wp2_with fail
          have LB := Lib.hid (Blk.new x1_ 56 #[.int .i64 0, .int .i64 0, .int .i64 0])
          have LBL := Lib.hid E1.out.size
          have E2 := Lib.hid (E1.out.alloc E1.out.size (.cells #[.int .i64 0, .int .i64 0, .int .i64 0] 56))
          refine behind_normal ⟨Below w6.heap.size w6, fun W h => h, by first | exact E2.out | exact fun _ => E2.out, ?_⟩
          refine PhasedC.bar_ ?_
          simp only [pick, List.map_cons, List.map_nil, List.getElem?_cons_zero, List.getElem?_cons_succ, Option.getD_some]
          repeat (go_big_quiet_step (fail))
          refine wpQuiet_nil ?_
          generalize (x1_.alloc (.cells #[.int .i64 0, .int .i64 0, .int .i64 0] 56)) = x2_ at *
          generalize x1_.heap.size = lb at *
          have h0 := LB.out.cell 0
          have r0 := LB.out.frozen 0
          have h1 := LB.out.cell 1
          have r1 := LB.out.frozen 1
          have h2 := LB.out.cell 2
          have r2 := LB.out.frozen 2
          simp only [List.getElem?_toArray, List.getElem?_cons_succ, List.getElem?_cons_zero] at h0 h1 h2
          go_wp2_with fail
          have HZ := Lib.hid (set3_blk (x0 := .int .i64 ao) (x1 := .int .i64 aq) (x2 := .int .i64 (aa + v0)) LB.out)
          have HX := Lib.hid (set3_below (x0 := .int .i64 ao) (x1 := .int .i64 aq) (x2 := .int .i64 (aa + v0)) E2.out LBL.out)
          refine behind_normal ⟨Below w6.heap.size w6, fun W h => h, by first | exact HX.out | exact fun _ => HX.out, ?_⟩
          refine PhasedC.fin_ ?_
          clear h0 h1 h2 r0 r1 r2
          simp only [pick, List.map_cons, List.map_nil, List.getElem?_cons_zero, List.getElem?_cons_succ, Option.getD_some]
          repeat (go_big_quiet_step (fail))
          refine wpQuiet_nil ?_
          go_wp2_with fail
          go_meet
          exact ⟨lb, rfl, LBL.out, HZ.out, HX.out⟩
        · skip
          go_wp2_with fail
          have LB0 := Lib.hid (Blk.new x0_ 56 #[.int .i64 0, .int .i64 0, .int .i64 0])
          have LBL := Lib.hid E0.out.size
          have E1 := Lib.hid (E0.out.alloc E0.out.size (.cells #[.int .i64 0, .int .i64 0, .int .i64 0] 56))
          refine behind_normal ⟨Below w6.heap.size w6, fun W h => h, by first | exact E1.out | exact fun _ => E1.out, ?_⟩
          refine PhasedC.bar_ ?_
          simp only [pick, List.map_cons, List.map_nil, List.getElem?_cons_zero, List.getElem?_cons_succ, Option.getD_some]
          repeat (go_big_quiet_step (fail))
          refine wpQuiet_nil ?_
          generalize (x0_.alloc (.cells #[.int .i64 0, .int .i64 0, .int .i64 0] 56)) = x1_ at *
          generalize x0_.heap.size = lb at *
          go_wp2_with fail
          refine (AT0.out _).mono ?_; rintro e x2_ ⟨rfl, hl_⟩
          have E2 := Lib.hid (bl E1.out hl_)
          have LB := Lib.hid (LB0.out.bl hl_)
          clear hl_
          go_wp2_with fail
          refine behind_normal ⟨Below w6.heap.size w6, fun W h => h, by first | exact E2.out | exact fun _ => E2.out, ?_⟩
          refine PhasedC.bar_ ?_
          simp only [pick, List.map_cons, List.map_nil, List.getElem?_cons_zero, List.getElem?_cons_succ, Option.getD_some]
          repeat (go_big_quiet_step (fail))
          refine wpQuiet_nil ?_
          have h0 := LB.out.cell 0
          have r0 := LB.out.frozen 0
          have h1 := LB.out.cell 1
          have r1 := LB.out.frozen 1
          have h2 := LB.out.cell 2
          have r2 := LB.out.frozen 2
          simp only [List.getElem?_toArray, List.getElem?_cons_succ, List.getElem?_cons_zero] at h0 h1 h2
          go_wp2_with fail
          have HZ := Lib.hid (set3_blk (x0 := .int .i64 ao) (x1 := .int .i64 aq) (x2 := .int .i64 (aa + v0)) LB.out)
          have HX := Lib.hid (set3_below (x0 := .int .i64 ao) (x1 := .int .i64 aq) (x2 := .int .i64 (aa + v0)) E2.out LBL.out)
          refine behind_normal ⟨Below w6.heap.size w6, fun W h => h, by first | exact HX.out | exact fun _ => HX.out, ?_⟩
          refine PhasedC.fin_ ?_
          clear h0 h1 h2 r0 r1 r2
          simp only [pick, List.map_cons, List.map_nil, List.getElem?_cons_zero, List.getElem?_cons_succ, Option.getD_some]
          repeat (go_big_quiet_step (fail))
          refine wpQuiet_nil ?_
          go_wp2_with fail
          go_meet
          exact ⟨lb, rfl, LBL.out, HZ.out, HX.out⟩
      obtain ⟨la, rfl, hla, hbla, hlla⟩ := hcut
      have LA := Lib.hid hbla
      have AB7 := Lib.hid (AB6.out.bl hlla)
      have BB7 := Lib.hid (BB.out.bl hlla)
      have PV7 := Lib.hid (PV6.out.bl hlla)
      have TW7 := Lib.hid (TW6.out.bl hlla)
      have XB7 := Lib.hid (XB6.out.bl hlla)
      have SP7 := Lib.hid (SP6.out.bl hlla)
      have L7 := Lib.hid (bl L6.out hlla)
      clear hla hbla hlla AB6 BB PV6 TW6 XB6 SP6 L6
      obtain ⟨w7, rfl⟩ : ∃ W : World, W = wc := ⟨_, rfl⟩
      go_upto_region 15 with fail
      go_cut [12] from 133 to 146 (fun s12 wx => ∃ lb, s12 = .pointer (some ⟨lb, 0, none⟩) ∧ w7.heap.size ≤ lb ∧ Blk wx lb 56 #[.int .i64 bo, .int .i64 bq, .int .i64 (ba + v1)] ∧ Below w7.heap.size w7 wx)
      case first =>
        have hne : Nonempty (Held (Below w7.heap.size w7)) := ⟨⟨w7, Below.refl _ _⟩⟩
        have s0 : ∀ y : Held (Below w7.heap.size w7), y.w.cell? ⟨bb, 0, none⟩ = some (.int .i64 bo) := fun y => by rw [(BB7.out.bl y.ok).cell]; rfl
        have s1 : ∀ y : Held (Below w7.heap.size w7), y.w.cell? ⟨bb, 1, none⟩ = some (.int .i64 bq) := fun y => by rw [(BB7.out.bl y.ok).cell]; rfl
        have s2 : ∀ y : Held (Below w7.heap.size w7), y.w.cell? ⟨bb, 2, none⟩ = some (.int .i64 bf) := fun y => by rw [(BB7.out.bl y.ok).cell]; rfl
        have s3 : ∀ y : Held (Below w7.heap.size w7), y.w.cell? ⟨bb, 3, none⟩ = some (.int .i64 bw) := fun y => by rw [(BB7.out.bl y.ok).cell]; rfl
        have s4 : ∀ y : Held (Below w7.heap.size w7), y.w.cell? ⟨bb, 4, none⟩ = some (.int .i64 bd) := fun y => by rw [(BB7.out.bl y.ok).cell]; rfl
        have q0 : ∀ y : Held (Below w7.heap.size w7), y.w.cell? ⟨B + 1 + 1, 1, none⟩ = some (.int .u64 g1) := fun y => by rw [(XB7.out.bl y.ok).cell]; rfl
        have q1 : ∀ y : Held (Below w7.heap.size w7), y.w.cell? ⟨B + 1 + 1, 3, none⟩ = some (.int .i64 v1) := fun y => by rw [(XB7.out.bl y.ok).cell]; rfl
        refine drawn_sch (S := Below w7.heap.size w7) [] (.two [0, 1, 2, 3, 4, 5, 6, 7, 9, 10, 11] 8 (.bar [12, 13] 14 (.bar [] 15 (.fin []))) 14 (.bar [] 8 (.bar [12, 13] 15 (.fin [])))) (by kernel_rfl) (by kernel_rfl) (by kernel_rfl) rfl (Below.refl _ _).drew ?_
        refine PhasedC.two_ ?_
        simp only [pick, List.map_cons, List.map_nil, List.getElem?_cons_zero, List.getElem?_cons_succ, Option.getD_some]
        repeat (go_big_quiet_step (fail))
        refine wpQuiet_nil ?_
        clear q0 q1 s0 s1 s2 s3 s4
        have E0 := Lib.hid (Below.refl w7.heap.size w7).drew
        generalize w7.drew = x0_ at *
        refine ⟨?_, ?_⟩
        · skip
          go_wp2_with fail
          refine (AT1.out _).mono ?_; rintro e x1_ ⟨rfl, hl_⟩
          have E1 := Lib.hid (bl E0.out hl_)
          clear hl_
          go_wp2_with fail
          refine behind_normal ⟨Below w7.heap.size w7, fun W h => h, by first | exact E1.out | exact fun _ => E1.out, ?_⟩
          refine PhasedC.bar_ ?_
          simp only [pick, List.map_cons, List.map_nil, List.getElem?_cons_zero, List.getElem?_cons_succ, Option.getD_some]
          repeat (go_big_quiet_step (fail))
          refine wpQuiet_nil ?_
          go_wp2_with fail
          have LB := Lib.hid (Blk.new x1_ 56 #[.int .i64 0, .int .i64 0, .int .i64 0])
          have LBL := Lib.hid E1.out.size
          have E2 := Lib.hid (E1.out.alloc E1.out.size (.cells #[.int .i64 0, .int .i64 0, .int .i64 0] 56))
          refine behind_normal ⟨Below w7.heap.size w7, fun W h => h, by first | exact E2.out | exact fun _ => E2.out, ?_⟩
          refine PhasedC.bar_ ?_
          simp only [pick, List.map_cons, List.map_nil, List.getElem?_cons_zero, List.getElem?_cons_succ, Option.getD_some]
          repeat (go_big_quiet_step (fail))
          refine wpQuiet_nil ?_
          generalize (x1_.alloc (.cells #[.int .i64 0, .int .i64 0, .int .i64 0] 56)) = x2_ at *
          generalize x1_.heap.size = lb at *
          have h0 := LB.out.cell 0
          have r0 := LB.out.frozen 0
          have h1 := LB.out.cell 1
          have r1 := LB.out.frozen 1
          have h2 := LB.out.cell 2
          have r2 := LB.out.frozen 2
          simp only [List.getElem?_toArray, List.getElem?_cons_succ, List.getElem?_cons_zero] at h0 h1 h2
          go_wp2_with fail
          have HZ := Lib.hid (set3_blk (x0 := .int .i64 bo) (x1 := .int .i64 bq) (x2 := .int .i64 (ba + v1)) LB.out)
          have HX := Lib.hid (set3_below (x0 := .int .i64 bo) (x1 := .int .i64 bq) (x2 := .int .i64 (ba + v1)) E2.out LBL.out)
          refine behind_normal ⟨Below w7.heap.size w7, fun W h => h, by first | exact HX.out | exact fun _ => HX.out, ?_⟩
          refine PhasedC.fin_ ?_
          clear h0 h1 h2 r0 r1 r2
          simp only [pick, List.map_cons, List.map_nil, List.getElem?_cons_zero, List.getElem?_cons_succ, Option.getD_some]
          repeat (go_big_quiet_step (fail))
          refine wpQuiet_nil ?_
          go_wp2_with fail
          go_meet
          exact ⟨lb, rfl, LBL.out, HZ.out, HX.out⟩
        · skip
          go_wp2_with fail
          have LB0 := Lib.hid (Blk.new x0_ 56 #[.int .i64 0, .int .i64 0, .int .i64 0])
          have LBL := Lib.hid E0.out.size
          have E1 := Lib.hid (E0.out.alloc E0.out.size (.cells #[.int .i64 0, .int .i64 0, .int .i64 0] 56))
          refine behind_normal ⟨Below w7.heap.size w7, fun W h => h, by first | exact E1.out | exact fun _ => E1.out, ?_⟩
          refine PhasedC.bar_ ?_
          simp only [pick, List.map_cons, List.map_nil, List.getElem?_cons_zero, List.getElem?_cons_succ, Option.getD_some]
          repeat (go_big_quiet_step (fail))
          refine wpQuiet_nil ?_
          generalize (x0_.alloc (.cells #[.int .i64 0, .int .i64 0, .int .i64 0] 56)) = x1_ at *
          generalize x0_.heap.size = lb at *
          go_wp2_with fail
          refine (AT1.out _).mono ?_; rintro e x2_ ⟨rfl, hl_⟩
          have E2 := Lib.hid (bl E1.out hl_)
          have LB := Lib.hid (LB0.out.bl hl_)
          clear hl_
          go_wp2_with fail
          refine behind_normal ⟨Below w7.heap.size w7, fun W h => h, by first | exact E2.out | exact fun _ => E2.out, ?_⟩
          refine PhasedC.bar_ ?_
          simp only [pick, List.map_cons, List.map_nil, List.getElem?_cons_zero, List.getElem?_cons_succ, Option.getD_some]
          repeat (go_big_quiet_step (fail))
          refine wpQuiet_nil ?_
          have h0 := LB.out.cell 0
          have r0 := LB.out.frozen 0
          have h1 := LB.out.cell 1
          have r1 := LB.out.frozen 1
          have h2 := LB.out.cell 2
          have r2 := LB.out.frozen 2
          simp only [List.getElem?_toArray, List.getElem?_cons_succ, List.getElem?_cons_zero] at h0 h1 h2
          go_wp2_with fail
          have HZ := Lib.hid (set3_blk (x0 := .int .i64 bo) (x1 := .int .i64 bq) (x2 := .int .i64 (ba + v1)) LB.out)
          have HX := Lib.hid (set3_below (x0 := .int .i64 bo) (x1 := .int .i64 bq) (x2 := .int .i64 (ba + v1)) E2.out LBL.out)
          refine behind_normal ⟨Below w7.heap.size w7, fun W h => h, by first | exact HX.out | exact fun _ => HX.out, ?_⟩
          refine PhasedC.fin_ ?_
          clear h0 h1 h2 r0 r1 r2
          simp only [pick, List.map_cons, List.map_nil, List.getElem?_cons_zero, List.getElem?_cons_succ, Option.getD_some]
          repeat (go_big_quiet_step (fail))
          refine wpQuiet_nil ?_
          go_wp2_with fail
          go_meet
          exact ⟨lb, rfl, LBL.out, HZ.out, HX.out⟩
      obtain ⟨lm, rfl, hlm, hblm, hllm⟩ := hcut
      have LM := Lib.hid hblm
      have LA8 := Lib.hid (LA.out.bl hllm)
      have AB8 := Lib.hid (AB7.out.bl hllm)
      have PV8 := Lib.hid (PV7.out.bl hllm)
      have TW8 := Lib.hid (TW7.out.bl hllm)
      have XB8 := Lib.hid (XB7.out.bl hllm)
      have SP8 := Lib.hid (SP7.out.bl hllm)
      have L8 := Lib.hid (bl L7.out hllm)
      clear hlm hblm hllm LA AB7 BB7 PV7 TW7 XB7 SP7 L7
      obtain ⟨w8, rfl⟩ : ∃ W : World, W = wc := ⟨_, rfl⟩
      skip
      have HAX := Lib.hid (show ao = offP c j0 ∧ aq = offP c j0 + 1 from ⟨HA.out.1, HA.out.2.1⟩)
      have HBX := Lib.hid (show bo = offP c j1 ∧ bq = offP c j1 + 1 from ⟨HBB.out.1, HBB.out.2.1⟩)
      have HLA := Lib.hid (show ∀ i, i < 3 → (#[Value.int .i64 ao, .int .i64 aq, .int .i64 (aa + v0)] : Array Value)[i]? = some (.int .i64 (lvF c j0 g0 v0 i)) from fun i hi => by
        rcases (show i = 0 ∨ i = 1 ∨ i = 2 by omega) with e | e | e <;> subst e
        · rw [HAX.out.1]; rfl
        · rw [HAX.out.2]; rfl
        · rw [← HAA.out]; rfl)
      have HLM := Lib.hid (show ∀ i, i < 3 → (#[Value.int .i64 bo, .int .i64 bq, .int .i64 (ba + v1)] : Array Value)[i]? = some (.int .i64 (lvF c j1 g1 v1 i)) from fun i hi => by
        rcases (show i = 0 ∨ i = 1 ∨ i = 2 by omega) with e | e | e <;> subst e
        · rw [HBX.out.1]; rfl
        · rw [HBX.out.2]; rfl
        · rw [← HBA.out]; rfl)
      have HAD := Lib.hid (show ad = (c.l j0).depth ∧ 2 ≤ ad ∧ ad ≤ 16 from ⟨HA.out.2.2.2, by rw [HA.out.2.2.2]; exact HW0.out.2⟩)
      have SAME := Lib.hid (fun (i k : Nat) (hi : i < 3) (hk : k < 3) => lvF_same OK.out HJ0.out.1 HJ1.out.1 g0 g1 v0 v1 HV0.out HV1.out hi hk)
      go_upto_region 17 with fail
      clear c0 c1 c2 c3 c4 c5 c6 c7
      go_loopw [13, 14, 15] (fun s13 s14 s15 wr => ∃ (i : Nat), i ≤ 3 ∧ s13 = .int .i64 i ∧ Blk wr la 56 #[.int .i64 ao, .int .i64 aq, .int .i64 (aa + v0)] ∧ Blk wr lm 56 #[.int .i64 bo, .int .i64 bq, .int .i64 (ba + v1)] ∧ Blk wr ab 43 #[.int .i64 ao, .int .i64 aq, .int .i64 af, .int .i64 aw, .int .i64 ad] ∧ Blk wr pv 29 #[.int .i64 0, .int .i64 1, .int .i64 lg, .slice (some ⟨sb, 0, none⟩) c.n cp, .int .i64 sz] ∧ Blk wr (B + 1) 44 #[.int .i64 j0, .int .i64 j1] ∧ Blk wr (B + 1 + 1) 55 #[.int .u64 g0, .int .u64 g1, .int .i64 v0, .int .i64 v1] ∧ SpAt wr sb c ∧ Below w.heap.size w wr) (fun s13 s14 s15 _ => 4 - (intOf s13).toNat)
      case atStart => exact ⟨0, by omega, rfl, LA8.out, LM.out, AB8.out, PV8.out, TW8.out, XB8.out, SP8.out, L8.out⟩
      case round =>
        clear LA8 LM AB8 PV8 TW8 XB8 SP8 L8
        obtain ⟨i, hi, rfl, h1, h2, h3, h4, h5, h6, h7, h8⟩ := hrel
        have LA0 := Lib.hid h1
        have LM0 := Lib.hid h2
        have AB0 := Lib.hid h3
        have PV0 := Lib.hid h4
        have TW0 := Lib.hid h5
        have XB0 := Lib.hid h6
        have SP0 := Lib.hid h7
        have L0 := Lib.hid h8
        clear h1 h2 h3 h4 h5 h6 h7 h8
        by_cases hlt : i < 3
        · have kd : decide ((i : Int) < 3) = true := decide_eq_true (by omega)
          have ki0 : (0 : Int) ≤ (i : Int) := by omega
          have ki1 : (i : Int) < 3 := by omega
          have HI := Lib.hid hlt
          obtain ⟨li, hli⟩ : ∃ z, lvF c j0 g0 v0 i = z := ⟨_, rfl⟩
          have hf := HLV.out j0 HJ0.out.1 g0 v0 HV0.out i hlt g1
          have hla := HLA.out i hlt
          rw [hli] at hf hla
          have HLI := Lib.hid hli
          have HWL := Lib.hid (fun W h => HWHO.out li W h)
          rw [hf.2.2.1] at HWL
          have d0 : decide (li < 0) = false := decide_eq_false (by omega)
          have d1 : decide (li ≥ sz) = false := decide_eq_false (by omega)
          have d2 : ((j0 : Int) != (j0 : Int)) = false := by simp
          have d3 : (li == 0) = false := beq_eq_false_iff_ne.2 (by omega)
          have d4 : (li == e1) = false := beq_eq_false_iff_ne.2 (by rw [HE1.out]; exact hf.2.2.2)
          clear hf hli hlt hi
          go_upto_region 19 with fail
          have hne : Nonempty (Held (Below wr.heap.size wr)) := ⟨⟨wr, Below.refl _ _⟩⟩
          have l0 : ∀ y : Held (Below wr.heap.size wr), y.w.cell? ⟨la, i, none⟩ = some (.int .i64 li) := fun y => by rw [(LA0.out.bl y.ok).cell]; exact hla
          have p0 : ∀ y : Held (Below wr.heap.size wr), y.w.cell? ⟨pv, 0, none⟩ = some (.int .i64 0) := fun y => by rw [(PV0.out.bl y.ok).cell]; rfl
          have p1 : ∀ y : Held (Below wr.heap.size wr), y.w.cell? ⟨pv, 1, none⟩ = some (.int .i64 1) := fun y => by rw [(PV0.out.bl y.ok).cell]; rfl
          have p2 : ∀ y : Held (Below wr.heap.size wr), y.w.cell? ⟨pv, 2, none⟩ = some (.int .i64 lg) := fun y => by rw [(PV0.out.bl y.ok).cell]; rfl
          have p3 : ∀ y : Held (Below wr.heap.size wr), y.w.cell? ⟨pv, 3, none⟩ = some (.slice (some ⟨sb, 0, none⟩) c.n cp) := fun y => by rw [(PV0.out.bl y.ok).cell]; rfl
          have p4 : ∀ y : Held (Below wr.heap.size wr), y.w.cell? ⟨pv, 4, none⟩ = some (.int .i64 sz) := fun y => by rw [(PV0.out.bl y.ok).cell]; rfl
          have t0_ : ∀ y : Held (Below wr.heap.size wr), y.w.cell? ⟨B + 1, 0, none⟩ = some (.int .i64 j0) := fun y => by rw [(TW0.out.bl y.ok).cell]; rfl
          have x1_ : ∀ y : Held (Below wr.heap.size wr), y.w.cell? ⟨B + 1 + 1, 1, none⟩ = some (.int .u64 g1) := fun y => by rw [(XB0.out.bl y.ok).cell]; rfl
          refine drawn_bars (S := Below wr.heap.size wr) [([0, 1, 2, 3, 4, 5, 6, 7, 8, 9, 10, 11, 12, 13, 14, 15, 16, 18, 19], 17), ([20, 21, 22, 23, 24, 25, 26, 27, 28, 29, 30, 31, 32, 33, 34, 35, 36, 37], 38)] [39, 40] (by kernel_rfl) (by kernel_rfl) (by kernel_rfl) rfl (Below.refl _ _).drew ?_
          refine Phased.go ?_
          simp only [pick, List.map_cons, List.map_nil, List.getElem?_cons_zero, List.getElem?_cons_succ, Option.getD_some]
          repeat (go_big_quiet_step (fail))
          refine wpQuiet_nil ?_
          go_wp2_with fail
          refine (HWL.out _ (SP0.out.bl (Below.refl wr.heap.size wr).drew)).mono ?_; rintro e y1 ⟨rfl, hl_⟩
          have E1_ := Lib.hid (bl (Below.refl wr.heap.size wr).drew hl_)
          clear hl_
          go_wp2_with fail
          refine behind_normal ⟨Below wr.heap.size wr, fun W h => h, E1_.out, ?_⟩
          refine Phased.go ?_
          simp only [pick, List.map_cons, List.map_nil, List.getElem?_cons_zero, List.getElem?_cons_succ, Option.getD_some]
          repeat (go_big_quiet_step (fail))
          refine wpQuiet_nil ?_
          go_wp2_with fail
          refine (E1C.out _).mono ?_; rintro e y2 ⟨rfl, hl_⟩
          have E2_ := Lib.hid (bl E1_.out hl_)
          clear hl_
          go_wp2_with fail
          refine behind_normal ⟨Below wr.heap.size wr, fun W h => h, E2_.out, ?_⟩
          refine Phased.end_ ?_
          have hne5 : Nonempty (Held (fun W => W = y2)) := ⟨⟨_, rfl⟩⟩
          simp only [pick, List.map_cons, List.map_nil, List.getElem?_cons_zero, List.getElem?_cons_succ, Option.getD_some]
          repeat (go_big_quiet_step (fail))
          refine wpQuiet_nil ?_
          clear hne hne5 l0 p0 p1 p2 p3 p4 t0_ x1_ hla
          have LA2 := Lib.hid (LA0.out.bl E2_.out)
          have LM2 := Lib.hid (LM0.out.bl E2_.out)
          have AB2 := Lib.hid (AB0.out.bl E2_.out)
          have PV2 := Lib.hid (PV0.out.bl E2_.out)
          have TW2 := Lib.hid (TW0.out.bl E2_.out)
          have XB2 := Lib.hid (XB0.out.bl E2_.out)
          have SP2 := Lib.hid (SP0.out.bl E2_.out)
          have L2 := Lib.hid (bl L0.out E2_.out)
          clear LA0 LM0 AB0 PV0 TW0 XB0 SP0 L0
          clear d0 d1 d2 d3 d4 E1_ E2_ HWL
          obtain ⟨y3, rfl⟩ : ∃ W : World, W = y2 := ⟨_, rfl⟩
          go_upto_region 22 with fail
          go_loopw [14, 15] (fun s14 s15 wr => ∃ (k : Nat), k ≤ 3 ∧ s14 = .int .i64 k ∧ Blk wr la 56 #[.int .i64 ao, .int .i64 aq, .int .i64 (aa + v0)] ∧ Blk wr lm 56 #[.int .i64 bo, .int .i64 bq, .int .i64 (ba + v1)] ∧ Blk wr ab 43 #[.int .i64 ao, .int .i64 aq, .int .i64 af, .int .i64 aw, .int .i64 ad] ∧ Blk wr pv 29 #[.int .i64 0, .int .i64 1, .int .i64 lg, .slice (some ⟨sb, 0, none⟩) c.n cp, .int .i64 sz] ∧ Blk wr (B + 1) 44 #[.int .i64 j0, .int .i64 j1] ∧ Blk wr (B + 1 + 1) 55 #[.int .u64 g0, .int .u64 g1, .int .i64 v0, .int .i64 v1] ∧ SpAt wr sb c ∧ Below w.heap.size w wr) (fun s14 s15 _ => 4 - (intOf s14).toNat)
          case atStart => exact ⟨0, by omega, rfl, LA2.out, LM2.out, AB2.out, PV2.out, TW2.out, XB2.out, SP2.out, L2.out⟩
          case round =>
            clear LA2 LM2 AB2 PV2 TW2 XB2 SP2 L2
            obtain ⟨q, hq, rfl, h1, h2, h3, h4, h5, h6, h7, h8⟩ := hrel
            have LA0 := Lib.hid h1
            have LM0 := Lib.hid h2
            have AB0 := Lib.hid h3
            have PV0 := Lib.hid h4
            have TW0 := Lib.hid h5
            have XB0 := Lib.hid h6
            have SP0 := Lib.hid h7
            have L0 := Lib.hid h8
            clear h1 h2 h3 h4 h5 h6 h7 h8
            by_cases hlt : q < 3
            · have kd : decide ((q : Int) < 3) = true := decide_eq_true (by omega)
              have kq0 : (0 : Int) ≤ (q : Int) := by omega
              have kq1 : (q : Int) < 3 := by omega
              have HQ := Lib.hid hlt
              obtain ⟨mk, hmk⟩ : ∃ z, lvF c j1 g1 v1 q = z := ⟨_, rfl⟩
              have hla := HLA.out i HI.out
              have hlm := HLM.out q hlt
              have hsm := SAME.out i q HI.out hlt
              rw [HLI.out] at hla hsm
              rw [hmk] at hlm hsm
              obtain ⟨sm, hsx⟩ : ∃ b, sameB c j0 j1 g0 g1 v0 v1 i q = b := ⟨_, rfl⟩
              rw [hsx] at hsm
              have HSX := Lib.hid hsx
              have HSM := Lib.hid hsm
              clear hlt hq hmk hsx hsm
              go_upto_region 24 with fail
              go_cut [15] from 196 to 235 (fun s15 wx => s15 = .bool sm ∧ wx = wr.drew)
              case first =>
                have hne : Nonempty (Held (fun W => W = wr.drew)) := ⟨⟨_, rfl⟩⟩
                have a4 : ∀ y : Held (fun W => W = wr.drew), y.w.cell? ⟨ab, 4, none⟩ = some (.int .i64 ad) := fun y => by rw [y.ok]; exact AB0.out.cell 4
                have t0_ : ∀ y : Held (fun W => W = wr.drew), y.w.cell? ⟨B + 1, 0, none⟩ = some (.int .i64 j0) := fun y => by rw [y.ok]; exact TW0.out.cell 0
                have t1_ : ∀ y : Held (fun W => W = wr.drew), y.w.cell? ⟨B + 1, 1, none⟩ = some (.int .i64 j1) := fun y => by rw [y.ok]; exact TW0.out.cell 1
                have x0_ : ∀ y : Held (fun W => W = wr.drew), y.w.cell? ⟨B + 1 + 1, 0, none⟩ = some (.int .u64 g0) := fun y => by rw [y.ok]; exact XB0.out.cell 0
                have x1_ : ∀ y : Held (fun W => W = wr.drew), y.w.cell? ⟨B + 1 + 1, 1, none⟩ = some (.int .u64 g1) := fun y => by rw [y.ok]; exact XB0.out.cell 1
                have x2_ : ∀ y : Held (fun W => W = wr.drew), y.w.cell? ⟨B + 1 + 1, 2, none⟩ = some (.int .i64 v0) := fun y => by rw [y.ok]; exact XB0.out.cell 2
                have x3_ : ∀ y : Held (fun W => W = wr.drew), y.w.cell? ⟨B + 1 + 1, 3, none⟩ = some (.int .i64 v1) := fun y => by rw [y.ok]; exact XB0.out.cell 3
                have hw1 : IntKind.u64.wrap ad = ad := u64_in (by have := HAD.out; omega)
                have hde : ¬ ad = 0 := by have := HAD.out; omega
                by_cases w1 : j0 = j1
                case neg =>
                  have m1 : ((j0 : Int) == (j1 : Int)) = false := beq_eq_false_iff_ne.2 (by omega)
                  have HS := Lib.hid (show sm = false by rw [← HSX.out]; unfold sameB; rw [decide_eq_false w1]; rfl)
                  clear w1
                  refine drawn_bars (S := fun _ => True) [] [0, 1, 2, 3, 4, 5, 6, 7, 8, 9, 10, 11, 12, 13, 14, 15, 16, 17, 18, 19, 20, 21, 22, 23, 24, 25, 26, 27, 28, 29, 30, 31, 32, 33, 34, 35, 36, 37, 38, 39, 40] (by kernel_rfl) (by kernel_rfl) (by kernel_rfl) rfl trivial ?_
                  refine Phased.end_ ?_
                  simp only [pick, List.map_cons, List.map_nil, List.getElem?_cons_zero, List.getElem?_cons_succ, Option.getD_some]
                  repeat (go_big_quiet_step (fail))
                  refine wpQuiet_nil ?_
                  go_wp2_with fail
                  go_meet
                  exact ⟨by rw [HS.out], rfl⟩
                have m1 : ((j0 : Int) == (j1 : Int)) = true := by rw [w1]; simp
                have HM1 := Lib.hid w1
                clear w1
                by_cases w2 : i = q
                case neg =>
                  have m2 : ((i : Int) == (q : Int)) = false := beq_eq_false_iff_ne.2 (by omega)
                  have HS := Lib.hid (show sm = false by rw [← HSX.out]; unfold sameB; rw [decide_eq_false w2]; simp)
                  clear w2
                  refine drawn_bars (S := fun _ => True) [] [0, 1, 2, 3, 4, 5, 6, 7, 8, 9, 10, 11, 12, 13, 14, 15, 16, 17, 18, 19, 20, 21, 22, 23, 24, 25, 26, 27, 28, 29, 30, 31, 32, 33, 34, 35, 36, 37, 38, 39, 40] (by kernel_rfl) (by kernel_rfl) (by kernel_rfl) rfl trivial ?_
                  refine Phased.end_ ?_
                  simp only [pick, List.map_cons, List.map_nil, List.getElem?_cons_zero, List.getElem?_cons_succ, Option.getD_some]
                  repeat (go_big_quiet_step (fail))
                  refine wpQuiet_nil ?_
                  go_wp2_with fail
                  go_meet
                  exact ⟨by rw [HS.out], rfl⟩
                have m2 : ((i : Int) == (q : Int)) = true := by rw [w2]; simp
                have HM2 := Lib.hid w2
                clear w2
                by_cases w3 : i < 2
                case pos =>
                  have m3 : decide ((i : Int) < 2) = true := decide_eq_true (by omega)
                  have HS := Lib.hid (show sm = true by rw [← HSX.out]; unfold sameB; rw [decide_eq_true HM1.out, decide_eq_true HM2.out, decide_eq_true w3]; rfl)
                  clear w3
                  refine drawn_bars (S := fun _ => True) [] [0, 1, 2, 3, 4, 5, 6, 7, 8, 9, 10, 11, 12, 13, 14, 15, 16, 17, 18, 19, 20, 21, 22, 23, 24, 25, 26, 27, 28, 29, 30, 31, 32, 33, 34, 35, 36, 37, 38, 39, 40] (by kernel_rfl) (by kernel_rfl) (by kernel_rfl) rfl trivial ?_
                  refine Phased.end_ ?_
                  simp only [pick, List.map_cons, List.map_nil, List.getElem?_cons_zero, List.getElem?_cons_succ, Option.getD_some]
                  repeat (go_big_quiet_step (fail))
                  refine wpQuiet_nil ?_
                  go_wp2_with fail
                  go_meet
                  exact ⟨by rw [HS.out], rfl⟩
                have m3 : decide ((i : Int) < 2) = false := decide_eq_false (by omega)
                have HM3 := Lib.hid (show decide (i < 2) = false from decide_eq_false w3)
                clear w3
                by_cases w4 : v0 = v1
                case neg =>
                  have m4 : (v0 == v1) = false := beq_eq_false_iff_ne.2 w4
                  have HS := Lib.hid (show sm = false by rw [← HSX.out]; unfold sameB; rw [HM3.out, decide_eq_false w4]; simp)
                  clear w4
                  refine drawn_bars (S := fun _ => True) [] [0, 1, 2, 3, 4, 5, 6, 7, 8, 9, 10, 11, 12, 13, 14, 15, 16, 17, 18, 19, 20, 21, 22, 23, 24, 25, 26, 27, 28, 29, 30, 31, 32, 33, 34, 35, 36, 37, 38, 39, 40] (by kernel_rfl) (by kernel_rfl) (by kernel_rfl) rfl trivial ?_
                  refine Phased.end_ ?_
                  simp only [pick, List.map_cons, List.map_nil, List.getElem?_cons_zero, List.getElem?_cons_succ, Option.getD_some]
                  repeat (go_big_quiet_step (fail))
                  refine wpQuiet_nil ?_
                  go_wp2_with fail
                  go_meet
                  exact ⟨by rw [HS.out], rfl⟩
                have m4 : (v0 == v1) = true := by rw [w4]; simp
                have HS := Lib.hid (show (g0.tmod ad == g1.tmod ad) = sm by
                  rw [← HSX.out]
                  unfold sameB
                  rw [decide_eq_true HM1.out, decide_eq_true HM2.out, HM3.out, decide_eq_true w4, Int.tmod_eq_emod_of_nonneg HG0.out.1, Int.tmod_eq_emod_of_nonneg HG1.out.1, HAD.out.1]
                  simp only [Bool.true_and, Bool.false_or]
                  rw [Bool.eq_iff_iff, beq_iff_eq, decide_eq_true_iff])
                clear w4
                refine drawn_bars (S := fun _ => True) [] [0, 1, 2, 3, 4, 5, 6, 7, 8, 9, 10, 11, 12, 13, 14, 15, 16, 17, 18, 19, 20, 21, 22, 23, 24, 25, 26, 27, 28, 29, 30, 31, 32, 33, 34, 35, 36, 37, 38, 39, 40] (by kernel_rfl) (by kernel_rfl) (by kernel_rfl) rfl trivial ?_
                refine Phased.end_ ?_
                simp only [pick, List.map_cons, List.map_nil, List.getElem?_cons_zero, List.getElem?_cons_succ, Option.getD_some]
                repeat (go_big_quiet_step (fail))
                refine wpQuiet_nil ?_
                go_wp2_with fail
                go_meet
                exact ⟨by rw [← HS.out], rfl⟩
              obtain ⟨rfl, hwx⟩ := hcut
              subst hwx
              have LA3 := Lib.hid (LA0.out.bl (Below.refl wr.heap.size wr).drew)
              have LM3 := Lib.hid (LM0.out.bl (Below.refl wr.heap.size wr).drew)
              have AB3 := Lib.hid (AB0.out.bl (Below.refl wr.heap.size wr).drew)
              have PV3 := Lib.hid (PV0.out.bl (Below.refl wr.heap.size wr).drew)
              have TW3 := Lib.hid (TW0.out.bl (Below.refl wr.heap.size wr).drew)
              have XB3 := Lib.hid (XB0.out.bl (Below.refl wr.heap.size wr).drew)
              have SP3 := Lib.hid (SP0.out.bl (Below.refl wr.heap.size wr).drew)
              have L3 := Lib.hid (bl L0.out (Below.refl wr.heap.size wr).drew)
              clear LA0 LM0 AB0 PV0 TW0 XB0 SP0 L0
              generalize wr.drew = y4 at *
              go_upto_region 25 with fail
              have hne : Nonempty (Held (fun W => W = y4.drew)) := ⟨⟨_, rfl⟩⟩
              have l0 : ∀ y : Held (fun W => W = y4.drew), y.w.cell? ⟨la, i, none⟩ = some (.int .i64 li) := fun y => by rw [y.ok]; exact (LA3.out.cell i).trans hla
              have l1 : ∀ y : Held (fun W => W = y4.drew), y.w.cell? ⟨lm, q, none⟩ = some (.int .i64 mk) := fun y => by rw [y.ok]; exact (LM3.out.cell q).trans hlm
              have kne := HSM.out
              have kss : (sm != sm) = false := by simp
              refine drawn_bars (S := fun _ => True) [] [0, 1, 2, 3, 4, 5, 6, 7, 8] (by kernel_rfl) (by kernel_rfl) (by kernel_rfl) rfl trivial ?_
              refine Phased.end_ ?_
              simp only [pick, List.map_cons, List.map_nil, List.getElem?_cons_zero, List.getElem?_cons_succ, Option.getD_some]
              repeat (go_big_quiet_step (fail))
              refine wpQuiet_nil ?_
              clear hne l0 l1 hla hlm
              have LA4 := Lib.hid (LA3.out.bl (Below.refl y4.heap.size y4).drew)
              have LM4 := Lib.hid (LM3.out.bl (Below.refl y4.heap.size y4).drew)
              have AB4 := Lib.hid (AB3.out.bl (Below.refl y4.heap.size y4).drew)
              have PV4 := Lib.hid (PV3.out.bl (Below.refl y4.heap.size y4).drew)
              have TW4 := Lib.hid (TW3.out.bl (Below.refl y4.heap.size y4).drew)
              have XB4 := Lib.hid (XB3.out.bl (Below.refl y4.heap.size y4).drew)
              have SP4 := Lib.hid (SP3.out.bl (Below.refl y4.heap.size y4).drew)
              have L4 := Lib.hid (bl L3.out (Below.refl y4.heap.size y4).drew)
              clear LA3 LM3 AB3 PV3 TW3 XB3 SP3 L3
              generalize y4.drew = y5 at *
              go_wp2_with fail
              exact ⟨⟨q + 1, HQ.out, by go_num, LA4.out, LM4.out, AB4.out, PV4.out, TW4.out, XB4.out, SP4.out, L4.out⟩, by have := HQ.out; simp [intOf]; omega⟩
            · have he : q = 3 := by omega
              have kd : decide ((q : Int) < 3) = false := decide_eq_false (by omega)
              clear he hlt hq
              go_wp2_with fail
              exact ⟨⟨i + 1, HI.out, by go_num, LA0.out, LM0.out, AB0.out, PV0.out, TW0.out, XB0.out, SP0.out, L0.out⟩, by have := HI.out; simp [intOf]; omega⟩
        · have he : i = 3 := by omega
          have kd : decide ((i : Int) < 3) = false := decide_eq_false (by omega)
          clear he hlt hi
          go_wp2_with fail
          refine (awake_any _).mono ?_; rintro e w9 ⟨rfl, hl9⟩
          have L9 := Lib.hid (bl L0.out hl9)
          clear hl9
          go_wp2_with fail
          go_ret
          exact ⟨rfl, L9.out⟩
end Go.Proofs.YtgdfhgoenemanaaDoor.Plan
