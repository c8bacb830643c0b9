/-
  PlanFull, walked. Conditions stand at each. By an AI agent; by mkplfu.py.
-/
import Derived.Test.YtgdfhgoenemanaaDoorPlX
import Derived.Test.YtgdfhgoenemanaaDoorPlK
namespace Go.Proofs.YtgdfhgoenemanaaDoor.Plan
set_option linter.unusedVariables false
set_option linter.unusedSimpArgs false
open Go Go.RowKit Go.Proofs.YtgdfhgoenemanaaDoor.Base
set_option maxRecDepth 100000 in
set_option maxHeartbeats 16000000 in
theorem PlanFull_walk (v : Value) (c : Cf) (w : World) (hv : CfAt w v c) :
    Calls Tryd.prog 8 #[v] w fun e w' => e = .returned (.bool true) ∧ Below w.heap.size w w' := by
  obtain ⟨A, k, rfl, ht, hn⟩ := hv.form
  have HNM := Lib.hid hv.nms
  have HT := Lib.hid ht
  have HN := Lib.hid hn
  clear hv ht hn
  have HFEW := Lib.hid (fun W hW => Few_any c A k W hW HN.out)
  have HOF := Lib.hid (fun W hW h => Of_any c A k W hW h HNM.out)
  unfold cfV at HFEW HOF ⊢
  go_enter Tryd.func8, Tryd.ntmps8
  go_upto_region 1 with fail
  obtain ⟨B, hB⟩ : ∃ B, w.heap.size = B := ⟨_, rfl⟩
  have hcb : Blk (w.alloc (.cells #[.int .i64 c.tasks, .slice A c.n k, .int .i64 c.tries, .int .i64 c.log] 24)) B 24 #[.int .i64 c.tasks, .slice A c.n k, .int .i64 c.tries, .int .i64 c.log] := hB ▸ (Blk.new w 24 #[.int .i64 c.tasks, .slice A c.n k, .int .i64 c.tries, .int .i64 c.log])
  have hl : Below w.heap.size w (w.alloc (.cells #[.int .i64 c.tasks, .slice A c.n k, .int .i64 c.tries, .int .i64 c.log] 24)) := (Below.refl w.heap.size w).alloc (Nat.le_refl _) _
  simp only [hB] at ⊢
  have CB := Lib.hid hcb
  have L0 := Lib.hid hl
  have HBB := Lib.hid hB
  clear hcb hl
  generalize (w.alloc (.cells #[.int .i64 c.tasks, .slice A c.n k, .int .i64 c.tries, .int .i64 c.log] 24)) = w0 at *
  have HT0 := Lib.hid (HT.out.bl L0.out)
  have TB0 := Lib.hid (show TcsB B w0 A c.n c.l by rw [← hB]; exact HT.out.to_b L0.out)
  clear hB HT
  have g0 := CB.out.cell 0
  have g1 := CB.out.cell 1
  have g2 := CB.out.cell 2
  have g3 := CB.out.cell 3
  simp only [List.getElem?_toArray, List.getElem?_cons_succ, List.getElem?_cons_zero] at g0 g1 g2 g3
  go_wp2_with fail
  refine (HFEW.out w0 HT0.out).mono ?_; rintro e w1 ⟨rfl, hl1⟩
  have L1 := Lib.hid (bl L0.out hl1)
  have CB1 := Lib.hid (CB.out.bl hl1)
  have HT1 := Lib.hid (HT0.out.bl hl1)
  have TB1 := Lib.hid (TB0.out.ex (T := fun _ => False) (Ex.of_below hl1) (fun b hb => hb.elim))
  clear hl1 CB HT0 L0 TB0 g0 g1 g2 g3
  obtain ⟨fw, hfw⟩ : ∃ b, fewB c = b := ⟨_, rfl⟩
  rw [hfw]
  have HFW := Lib.hid hfw
  clear hfw
  cases fw with
  | false =>
    go_wp2_with fail
    refine (awake_any _).mono ?_; rintro e w9 ⟨rfl, hl9⟩
    have L9 := Lib.hid (bl L1.out hl9)
    clear hl9
    go_wp2_with fail
    go_ret
    exact ⟨rfl, L9.out⟩
  | true =>
    have H80 := Lib.hid (few_ok HFW.out)
    have g0 := CB1.out.cell 0
    have g1 := CB1.out.cell 1
    have g2 := CB1.out.cell 2
    have g3 := CB1.out.cell 3
    simp only [List.getElem?_toArray, List.getElem?_cons_succ, List.getElem?_cons_zero] at g0 g1 g2 g3
    go_wp2_with fail
    refine (HOF.out w1 HT1.out (by have := H80.out; omega)).mono ?_; rintro e w2 ⟨hl2, hr⟩
    have L2 := Lib.hid (bl L1.out hl2)
    have CB2 := Lib.hid (CB1.out.bl hl2)
    have TB2 := Lib.hid (TB1.out.ex (T := fun _ => False) (Ex.of_below hl2) (fun b hb => hb.elim))
    have HR := Lib.hid hr
    clear hl2 CB1 HT1 L1 TB1 g0 g1 g2 g3 hr
    rcases HR.out with ⟨hz, rfl⟩ | ⟨hz, sb, cp, rfl, hsb, hsp⟩
    · obtain ⟨fb, hfb⟩ : ∃ z, (faultF c).2 = z := ⟨_, rfl⟩
      rw [hfb] at hz
      simp only [hfb]
      have kb : (fb != 0) = true := by simp [hz]
      have L3 := Lib.hid (L2.out.alloc L2.out.size (.cells #[.int .i64 0, .int .i64 0, .int .i64 0, .slice none 0 0, .int .i64 0] 29))
      clear hz hfb HR
      go_wp2_with fail
      refine (awake_any _).mono ?_; rintro e w9 ⟨rfl, hl9⟩
      have L9 := Lib.hid (bl L3.out hl9)
      clear hl9
      go_wp2_with fail
      go_ret
      exact ⟨rfl, L9.out⟩
    · have HZ := Lib.hid hz
      have OK := Lib.hid (fault_ok hz).2
      have SP2 := Lib.hid hsp
      have HSB := Lib.hid hsb
      clear hz HR hsp hsb
      have hpl := Blk.new w2 29 #[.int .i64 0, .int .i64 1, .int .i64 c.log, .slice (some ⟨sb, 0, none⟩) c.n cp, .int .i64 (offP c c.n)]
      have el : Below w2.heap.size w2 (w2.alloc (.cells #[.int .i64 0, .int .i64 1, .int .i64 c.log, .slice (some ⟨sb, 0, none⟩) c.n cp, .int .i64 (offP c c.n)] 29)) := (Below.refl _ _).alloc (Nat.le_refl _) _
      go_upto_region 4 with fail
      have PV := Lib.hid hpl
      have SP := Lib.hid (SP2.out.bl el)
      have CB := Lib.hid (CB2.out.bl el)
      have L3 := Lib.hid (bl L2.out el)
      have TB3 := Lib.hid (TB2.out.ex (T := fun _ => False) (Ex.of_below el) (fun b hb => hb.elim))
      have HWS := Lib.hid (show w.heap.size ≤ w2.heap.size from L2.out.size)
      clear hpl el SP2 CB2 L2 TB2
      generalize (w2.alloc (.cells #[.int .i64 0, .int .i64 1, .int .i64 c.log, .slice (some ⟨sb, 0, none⟩) c.n cp, .int .i64 (offP c c.n)] 29)) = w3 at *
      obtain ⟨pv, hpv⟩ : ∃ z, w2.heap.size = z := ⟨_, rfl⟩
      rw [hpv] at PV HWS
      simp only [hpv]
      clear hpv
      have HN64 := Lib.hid OK.out.n
      have HLOG := Lib.hid OK.out.log
      have HOFB := Lib.hid (offP_bounds OK.out c.n (Nat.le_refl _))
      obtain ⟨tb, tof, hA, htb, htc⟩ := TB3.out (by have := HN64.out; omega)
      subst hA
      have TC := Lib.hid (show TcC w3 tb tof c.n c.l from htc)
      have HTB := Lib.hid htb
      clear htb htc TB3
      have HWHO := Lib.hid (fun q W h => Whose_any sb cp c OK.out (offP c c.n) q W h)
      obtain ⟨sz, hsz⟩ : ∃ z, offP c c.n = z := ⟨_, rfl⟩
      rw [hsz] at PV HWHO HOFB
      have HSZ := Lib.hid hsz
      clear hsz
      have p0 := PV.out.cell 0
      have p1 := PV.out.cell 1
      have p2 := PV.out.cell 2
      have p3 := PV.out.cell 3
      have p4 := PV.out.cell 4
      simp only [List.getElem?_toArray, List.getElem?_cons_succ, List.getElem?_cons_zero] at p0 p1 p2 p3 p4
      have g1 := CB.out.cell 1
      simp only [List.getElem?_toArray, List.getElem?_cons_succ, List.getElem?_cons_zero] at g1
      by_cases h3 : sz > 3000
      · have k3 : decide (sz > 3000) = true := decide_eq_true h3
        clear h3
        go_wp2_with fail
        refine (awake_any _).mono ?_; rintro e w9 ⟨rfl, hl9⟩
        have L9 := Lib.hid (bl L3.out hl9)
        clear hl9
        go_wp2_with fail
        go_ret
        exact ⟨rfl, L9.out⟩
      have k3 : decide (sz > 3000) = false := decide_eq_false h3
      have kz : decide (sz < 0) = false := decide_eq_false (by have := HOFB.out; have := HLOG.out; omega)
      have knn : ((c.n : Int) != (c.n : Int)) = false := by simp
      have HZ3 := Lib.hid (show 2 ≤ sz ∧ sz ≤ 3000 by have := HOFB.out; have := HLOG.out; omega)
      have hmk := make_ints c.n (by have := HN64.out; omega) w3
      clear h3
      go_upto_region 12 with fail
      clear hmk k3 kz knn p0 p1 p2 p3 p4 g1
      have hgb := Blk.new w3 3 (cntR c.n (fun _ => 0))
      have el : Below w3.heap.size w3 (w3.alloc (.cells (cntR c.n (fun _ => 0)) 3)) := (Below.refl _ _).alloc (Nat.le_refl _) _
      have GB4 := Lib.hid (show Blk (w3.alloc (.cells (cntR c.n (fun _ => 0)) 3)) w3.heap.size 3 (cntR c.n (topC c 0)) by
        have e : cntR c.n (fun _ => 0) = cntR c.n (topC c 0) := cntR_congr _ _ _ (fun j hj => by
          have := offP_bounds OK.out j (by omega)
          have := HLOG.out
          unfold topC
          rw [if_pos (by omega)])
        rw [← e]; exact hgb)
      have PV4 := Lib.hid (PV.out.bl el)
      have SP4 := Lib.hid (SP.out.bl el)
      have CB4 := Lib.hid (CB.out.bl el)
      have TC4 := Lib.hid (TC.out.ex (T := fun _ => False) (Ex.of_below el) (fun h => h))
      have L4 := Lib.hid (bl L3.out el)
      have ORD := Lib.hid (show w.heap.size = B ∧ B < w3.heap.size ∧ sb < w3.heap.size ∧ pv < w3.heap.size from ⟨HBB.out, CB.out.lt, SP.out.1, PV.out.lt⟩)
      clear hgb el PV SP CB TC L3
      generalize (w3.alloc (.cells (cntR c.n (fun _ => 0)) 3)) = w4 at *
      obtain ⟨gb, hgb⟩ : ∃ z, w3.heap.size = z := ⟨_, rfl⟩
      rw [hgb] at GB4 ORD
      simp only [hgb]
      clear hgb
      go_loopw [6, 7, 8, 9] (fun s6 s7 s8 s9 wr => ∃ (q : Nat), (q : Int) ≤ sz ∧ s8 = .int .i64 q ∧ s6 = .int .i64 (regC q) ∧ s7 = .int .i64 (logC c q) ∧ Blk wr gb 3 (cntR c.n (topC c q)) ∧ Blk wr pv 29 #[.int .i64 0, .int .i64 1, .int .i64 c.log, .slice (some ⟨sb, 0, none⟩) c.n cp, .int .i64 sz] ∧ SpAt wr sb c ∧ Blk wr B 24 #[.int .i64 c.tasks, .slice (some ⟨tb, tof, none⟩) c.n k, .int .i64 c.tries, .int .i64 c.log] ∧ TcC wr tb tof c.n c.l ∧ Below w.heap.size w wr) (fun s6 s7 s8 s9 _ => 3001 - (intOf s8).toNat)
      case atStart => exact ⟨0, by have := HZ3.out; omega, rfl, rfl, rfl, GB4.out, PV4.out, SP4.out, CB4.out, TC4.out, L4.out⟩
      case round =>
        clear GB4 PV4 SP4 CB4 TC4 L4
        obtain ⟨q, hq, rfl, rfl, rfl, hgb, hpv, hsp, hcb, htc, hl⟩ := hrel
        have GB := Lib.hid hgb
        have PV := Lib.hid hpv
        have SP := Lib.hid hsp
        have CB := Lib.hid hcb
        have TC := Lib.hid htc
        have L0 := Lib.hid hl
        clear hgb hpv hsp hcb htc hl
        have p0 := PV.out.cell 0
        have p1 := PV.out.cell 1
        have p2 := PV.out.cell 2
        have p3 := PV.out.cell 3
        have p4 := PV.out.cell 4
        simp only [List.getElem?_toArray, List.getElem?_cons_succ, List.getElem?_cons_zero] at p0 p1 p2 p3 p4
        by_cases hlt : (q : Int) < sz
        · have kd : decide ((q : Int) < sz) = true := decide_eq_true hlt
          have kq0 : (0 : Int) ≤ (q : Int) := by omega
          have kq5 : (q : Int) ≤ 3000 := by have := HZ3.out; omega
          have HQ := Lib.hid (show (q : Int) < sz ∧ (q : Int) ≤ 3000 from ⟨hlt, kq5⟩)
          have hR := regC_bounds q
          have hLc := logC_bounds OK.out q
          obtain ⟨rg, hrg⟩ : ∃ z, regC q = z := ⟨_, rfl⟩
          obtain ⟨lc, hlc⟩ : ∃ z, logC c q = z := ⟨_, rfl⟩
          rw [hrg] at hR
          rw [hlc] at hLc
          obtain ⟨hR0, hR1⟩ := hR
          obtain ⟨hL0, hL1⟩ := hLc
          simp only [hrg, hlc]
          have HRG := Lib.hid hrg
          have HLC := Lib.hid hlc
          clear hlt hq hrg hlc
          rcases (show q = 0 ∨ (1 ≤ q ∧ (q : Int) < 1 + c.log) ∨ 1 + c.log ≤ (q : Int) by omega) with hc | ⟨hc1, hc2⟩ | hc
          · have HW := Lib.hid (show whoF c (q : Int) = -1 by rw [hc]; exact who_reg c)
            have hcnt := cnt_reg OK.out
            rw [← hc] at hcnt
            have HCN := Lib.hid hcnt
            clear hc hcnt
            go_wp2_with fail
            refine (HWHO.out (q : Int) wr SP.out).mono ?_; rintro e w5 ⟨rfl, hl5⟩
            rw [HW.out]
            have GB5 := Lib.hid (GB.out.bl hl5)
            have PV5 := Lib.hid (PV.out.bl hl5)
            have SP5 := Lib.hid (SP.out.bl hl5)
            have CB5 := Lib.hid (CB.out.bl hl5)
            have TC5 := Lib.hid (TC.out.ex (T := fun _ => False) (Ex.of_below hl5) (fun h => h))
            have L5 := Lib.hid (bl L0.out hl5)
            clear hl5 p0 p1 p2 p3 p4 GB PV SP CB TC L0
            go_wp2_with fail
            exact ⟨⟨q + 1, by have := HQ.out; push_cast; omega, by go_num, by rw [HCN.out.1, HRG.out], by rw [HCN.out.2.1, HLC.out], by rw [cntR_congr _ _ _ HCN.out.2.2]; exact GB5.out, PV5.out, SP5.out, CB5.out, TC5.out, L5.out⟩, by have := HQ.out; simp [intOf]; omega⟩
          · have HW := Lib.hid (who_log (c := c) (q := (q : Int)) (by omega) hc2)
            have HCN := Lib.hid (cnt_log OK.out hc1 hc2)
            clear hc1 hc2
            go_wp2_with fail
            refine (HWHO.out (q : Int) wr SP.out).mono ?_; rintro e w5 ⟨rfl, hl5⟩
            rw [HW.out]
            have GB5 := Lib.hid (GB.out.bl hl5)
            have PV5 := Lib.hid (PV.out.bl hl5)
            have SP5 := Lib.hid (SP.out.bl hl5)
            have CB5 := Lib.hid (CB.out.bl hl5)
            have TC5 := Lib.hid (TC.out.ex (T := fun _ => False) (Ex.of_below hl5) (fun h => h))
            have L5 := Lib.hid (bl L0.out hl5)
            clear hl5 p0 p1 p2 p3 p4 GB PV SP CB TC L0
            go_wp2_with fail
            exact ⟨⟨q + 1, by have := HQ.out; push_cast; omega, by go_num, by rw [HCN.out.1, HRG.out], by rw [HCN.out.2.1, HLC.out], by rw [cntR_congr _ _ _ HCN.out.2.2]; exact GB5.out, PV5.out, SP5.out, CB5.out, TC5.out, L5.out⟩, by have := HQ.out; simp [intOf]; omega⟩
          · obtain ⟨j, hj, hj1, hj2⟩ := find_topic OK.out c.n (Nat.le_refl _) (q : Int) hc (by rw [HSZ.out]; exact HQ.out.1)
            have HW := Lib.hid (who_topic OK.out hj hj1 hj2)
            have HCN := Lib.hid (cnt_topic OK.out hj hj1 hj2)
            have hT := topC_bounds OK.out q j hj
            obtain ⟨tc, htc⟩ : ∃ z, topC c q j = z := ⟨_, rfl⟩
            rw [htc] at hT
            obtain ⟨hT0, hT1⟩ := hT
            have HTC := Lib.hid htc
            have j0 : (0 : Int) ≤ (j : Int) := by omega
            have j1 : (j : Int) < (c.n : Int) := by omega
            have j5 : (j : Int) ≤ 64 := by have := HN64.out; omega
            have jm : j < c.n := hj
            have jd : decide (j < c.n) = true := decide_eq_true hj
            have jd2 : decide ((j : Int) < (c.n : Int)) = true := decide_eq_true j1
            have jd3 : decide ((j : Int) ≥ 0) = true := decide_eq_true j0
            have jn1 : ((j : Int) == -1) = false := beq_eq_false_iff_ne.2 (by omega)
            have jn2 : ((j : Int) == -2) = false := beq_eq_false_iff_ne.2 (by omega)
            clear hc hj1 hj2 hj htc
            go_wp2_with fail
            refine (HWHO.out (q : Int) wr SP.out).mono ?_; rintro e w5 ⟨rfl, hl5⟩
            rw [HW.out]
            have GB5 := Lib.hid (GB.out.bl hl5)
            have PV5 := Lib.hid (PV.out.bl hl5)
            have SP5 := Lib.hid (SP.out.bl hl5)
            have CB5 := Lib.hid (CB.out.bl hl5)
            have TC5 := Lib.hid (TC.out.ex (T := fun _ => False) (Ex.of_below hl5) (fun h => h))
            have L5 := Lib.hid (bl L0.out hl5)
            clear hl5 p0 p1 p2 p3 p4 GB PV SP CB TC L0
            have c0 : w5.cell? ⟨gb, j, none⟩ = some (.int .i64 tc) := by rw [GB5.out.cell, cntR_at _ _ _ jm, HTC.out]
            have f0 := GB5.out.frozen j
            have GB6 := Lib.hid (show Blk (w5.setCell ⟨gb, j, none⟩ (.int .i64 (tc + 1))) gb 3 (cntR c.n (topC c (q + 1))) by
              have h9 := GB5.out.set_ j (.int .i64 (topC c (q + 1) j))
              rw [cntR_set c.n j (topC c q) (topC c (q + 1)) HCN.out.2.2.2] at h9
              rw [HCN.out.2.2.1, HTC.out] at h9
              exact h9)
            have hx : Ex (fun b => b = gb) w5 (w5.setCell ⟨gb, j, none⟩ (.int .i64 (tc + 1))) := (Ex.refl (fun b => b = gb) w5).setCell (q := ⟨gb, j, none⟩) (.inl rfl) _
            have PV6 := Lib.hid (PV5.out.ex hx (by have := ORD.out; omega))
            have SP6 := Lib.hid (SP5.out.ex hx (by have := ORD.out; omega))
            have CB6 := Lib.hid (CB5.out.ex hx (by have := ORD.out; omega))
            have TC6 := Lib.hid (TC5.out.ex hx (by have := ORD.out; have := HTB.out; omega))
            have L6 := Lib.hid (Ex.below L5.out hx (fun b hb => by have := ORD.out; omega))
            clear hx GB5 PV5 SP5 CB5 TC5 L5
            go_wp2_with fail
            exact ⟨⟨q + 1, by have := HQ.out; push_cast; omega, by go_num, by rw [HCN.out.1, HRG.out], by rw [HCN.out.2.1, HLC.out], GB6.out, PV6.out, SP6.out, CB6.out, TC6.out, L6.out⟩, by have := HQ.out; simp [intOf]; omega⟩
        · have he : (q : Int) = sz := by omega
          have kd : decide ((q : Int) < sz) = false := decide_eq_false hlt
          have HEN := Lib.hid (cnt_end OK.out (by rw [HSZ.out]; exact he))
          have e1 := HEN.out.1
          have e2 := HEN.out.2.1
          obtain ⟨lg, hlg⟩ : ∃ z, c.log = z := ⟨_, rfl⟩
          rw [hlg] at e2
          simp only [e1, e2]
          have HLG := Lib.hid hlg
          clear hlt he hq e1 e2 hlg
          go_upto_region 23 with fail
          clear kd p0 p1 p2 p3 p4
          obtain ⟨wk, rfl⟩ : ∃ wk : World, wk = wr := ⟨_, rfl⟩
          go_loopw [10] (fun s10 wr => ∃ (i : Nat), i ≤ c.n ∧ s10 = .int .i64 i ∧ Blk wr gb 3 (cntR c.n (topC c q)) ∧ Blk wr pv 29 #[.int .i64 0, .int .i64 1, .int .i64 c.log, .slice (some ⟨sb, 0, none⟩) c.n cp, .int .i64 sz] ∧ SpAt wr sb c ∧ Blk wr B 24 #[.int .i64 c.tasks, .slice (some ⟨tb, tof, none⟩) c.n k, .int .i64 c.tries, .int .i64 c.log] ∧ TcC wr tb tof c.n c.l ∧ Below w.heap.size w wr) (fun s10 _ => c.n + 1 - (intOf s10).toNat)
          case atStart => exact ⟨0, by omega, rfl, GB.out, PV.out, SP.out, CB.out, TC.out, L0.out⟩
          case round =>
            clear GB PV SP CB TC L0
            obtain ⟨i, hi, rfl, hgb, hpv, hsp, hcb, htc, hl⟩ := hrel
            have GB := Lib.hid hgb
            have PV := Lib.hid hpv
            have SP := Lib.hid hsp
            have CB := Lib.hid hcb
            have TC := Lib.hid htc
            have L0 := Lib.hid hl
            clear hgb hpv hsp hcb htc hl
            by_cases hlt : i < c.n
            · have kd : decide ((i : Int) < (c.n : Int)) = true := decide_eq_true (by omega)
              have kdn : decide (i < c.n) = true := decide_eq_true hlt
              have kdm : i < c.n := hlt
              have ki0 : (0 : Int) ≤ (i : Int) := by omega
              have ki1 : (i : Int) < (c.n : Int) := by omega
              have ki5 : (i : Int) ≤ 64 := by have := HN64.out; omega
              obtain ⟨t0, t1, t2⟩ := TC.out i hlt
              have hpr := prod_bounds (OK.out.l i hlt)
              have htop := HEN.out.2.2 i hlt
              have hgc := GB.out.cell i
              rw [cntR_at _ _ _ hlt, htop] at hgc
              generalize (c.l i).words = wo at *
              generalize (c.l i).depth = de at *
              obtain ⟨m, hm⟩ : ∃ m, wo * de = m := ⟨_, rfl⟩
              rw [hm] at hpr hgc
              have hkm : wrap64 (wo * de) = m := by rw [hm]; unfold wrap64; omega
              obtain ⟨m0, m1⟩ := hpr
              have kmm : ((2 + m) != (2 + m)) = false := by simp
              have HI := Lib.hid hlt
              clear hlt hi hm htop
              go_upto_region 25 with fail
              have hne : Nonempty (Held (fun W => W = wr.drew)) := ⟨⟨_, rfl⟩⟩
              have q0 : ∀ x : Held (fun W => W = wr.drew), x.w.cell? ⟨gb, i, none⟩ = some (.int .i64 (2 + m)) := fun x => by rw [x.ok]; exact hgc
              have q1 : ∀ x : Held (fun W => W = wr.drew), x.w.cell? ⟨B, 1, none⟩ = some (.slice (some ⟨tb, tof, none⟩) c.n k) := fun x => by rw [x.ok]; exact CB.out.cell 1
              have q2 : ∀ x : Held (fun W => W = wr.drew), x.w.cell? ⟨tb, tof + i * 3 + 1, none⟩ = some (.int .i64 wo) := fun x => by rw [x.ok]; exact t1
              have q3 : ∀ x : Held (fun W => W = wr.drew), x.w.cell? ⟨tb, tof + i * 3 + 2, none⟩ = some (.int .i64 de) := fun x => by rw [x.ok]; exact t2
              refine drawn_bars (S := fun _ => True) [] [0, 1, 2, 3, 4, 5, 6, 7, 8, 9, 10, 11, 12, 13, 14, 15, 16, 17, 18] (by kernel_rfl) (by kernel_rfl) (by kernel_rfl) rfl trivial ?_
              refine Phased.end_ ?_
              simp only [pick, List.map_cons, List.map_nil, List.getElem?_cons_zero, List.getElem?_cons_succ, Option.getD_some]
              repeat (go_big_quiet_step (fail))
              refine wpQuiet_nil ?_
              clear hne q0 q1 q2 q3 t0 t1 t2 hgc kmm hkm m0 m1
              have GB6 := Lib.hid GB.out.drew
              have PV6 := Lib.hid PV.out.drew
              have SP6 := Lib.hid (SP.out.bl (Below.refl wr.heap.size wr).drew)
              have CB6 := Lib.hid CB.out.drew
              have TC6 := Lib.hid (show TcC wr.drew tb tof c.n c.l from TC.out)
              have L6 := Lib.hid L0.out.drew
              clear GB PV SP CB TC L0
              generalize wr.drew = w6 at *
              go_wp2_with fail
              exact ⟨⟨i + 1, HI.out, by go_num, GB6.out, PV6.out, SP6.out, CB6.out, TC6.out, L6.out⟩, by have := HI.out; simp [intOf]; omega⟩
            · have he : i = c.n := by omega
              have kd : decide ((i : Int) < (c.n : Int)) = false := decide_eq_false (by omega)
              have kdn : decide (i < c.n) = false := decide_eq_false hlt
              have kdm : ¬ i < c.n := hlt
              have kll : (lg == lg) = true := by simp
              have g3 := CB.out.cell 3
              simp only [List.getElem?_toArray, List.getElem?_cons_succ, List.getElem?_cons_zero] at g3
              rw [HLG.out] at g3
              have p0 := PV.out.cell 0
              have p1 := PV.out.cell 1
              have p2 := PV.out.cell 2
              have p3 := PV.out.cell 3
              have p4 := PV.out.cell 4
              simp only [List.getElem?_toArray, List.getElem?_cons_succ, List.getElem?_cons_zero] at p0 p1 p2 p3 p4
              have W1 := Lib.hid (who_out OK.out (q := -1) (.inl (by omega)))
              have W2 := Lib.hid (who_out OK.out (q := sz) (.inr (by rw [HSZ.out]; exact Int.le_refl _)))
              clear hlt he hi
              go_wp2_with fail
              refine (HWHO.out (-1) wr SP.out).mono ?_; rintro e w5 ⟨rfl, hl5⟩
              rw [W1.out]
              have PV5 := Lib.hid (PV.out.bl hl5)
              have SP5 := Lib.hid (SP.out.bl hl5)
              have L5 := Lib.hid (bl L0.out hl5)
              clear hl5 p0 p1 p2 p3 p4 g3 PV
              have p0 := PV5.out.cell 0
              have p1 := PV5.out.cell 1
              have p2 := PV5.out.cell 2
              have p3 := PV5.out.cell 3
              have p4 := PV5.out.cell 4
              simp only [List.getElem?_toArray, List.getElem?_cons_succ, List.getElem?_cons_zero] at p0 p1 p2 p3 p4
              go_wp2_with fail
              refine (HWHO.out sz w5 SP5.out).mono ?_; rintro e w6 ⟨rfl, hl6⟩
              rw [W2.out]
              have L6 := Lib.hid (bl L5.out hl6)
              clear hl6 p0 p1 p2 p3 p4
              go_wp2_with fail
              refine (awake_any _).mono ?_; rintro e w9 ⟨rfl, hl9⟩
              have L9 := Lib.hid (bl L6.out hl9)
              clear hl9
              go_wp2_with fail
              go_ret
              exact ⟨rfl, L9.out⟩
end Go.Proofs.YtgdfhgoenemanaaDoor.Plan
