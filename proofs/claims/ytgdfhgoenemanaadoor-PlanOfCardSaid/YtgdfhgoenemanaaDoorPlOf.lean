/-
  PlanOf, walked. Conditions stand at each. By an AI agent; by mkplof.py.
-/
import Derived.Test.YtgdfhgoenemanaaDoorPlO
import Derived.Test.YtgdfhgoenemanaaDoorPlK
namespace Go.Proofs.YtgdfhgoenemanaaDoor.Plan
set_option linter.unusedVariables false
set_option linter.unusedSimpArgs false
open Go Go.RowKit Go.Proofs.YtgdfhgoenemanaaDoor.Base
set_option maxRecDepth 100000 in
set_option maxHeartbeats 16000000 in
theorem PlanOf_walk (v : Value) (c : Cf) (w : World) (hv : CfAt w v c) :
    Calls Tryd.prog 3 #[v] w fun e w' => e = .returned (.bool true) ∧ Below w.heap.size w w' := by
  obtain ⟨A, k, rfl, ht, hn⟩ := hv.form
  have HNM := Lib.hid hv.nms
  have HT := Lib.hid ht
  have HN := Lib.hid hn
  clear hv ht hn
  have HFEW := Lib.hid (fun W hW => Few_any c A k W hW HN.out)
  have HOF := Lib.hid (fun W hW h => Of_any c A k W hW h HNM.out)
  have HRO := Lib.hid (fun W hW h => refOf_any c A k W hW h)
  unfold cfV at HFEW HOF HRO ⊢
  go_enter Tryd.func3, Tryd.ntmps3
  go_upto_region 1 with fail
  obtain ⟨B, hB⟩ : ∃ B, w.heap.size = B := ⟨_, rfl⟩
  have hcb : Blk (w.alloc (.cells #[.int .i64 c.tasks, .slice A c.n k, .int .i64 c.tries, .int .i64 c.log] 24)) B 24 #[.int .i64 c.tasks, .slice A c.n k, .int .i64 c.tries, .int .i64 c.log] := hB ▸ (Blk.new w 24 #[.int .i64 c.tasks, .slice A c.n k, .int .i64 c.tries, .int .i64 c.log])
  have hl : Below w.heap.size w (w.alloc (.cells #[.int .i64 c.tasks, .slice A c.n k, .int .i64 c.tries, .int .i64 c.log] 24)) := (Below.refl w.heap.size w).alloc (Nat.le_refl _) _
  simp only [hB] at ⊢
  have CB := Lib.hid hcb
  have L0 := Lib.hid hl
  clear hcb hl
  generalize (w.alloc (.cells #[.int .i64 c.tasks, .slice A c.n k, .int .i64 c.tries, .int .i64 c.log] 24)) = w0 at *
  have HT0 := Lib.hid (HT.out.bl L0.out)
  clear hB HT
  have g0 := CB.out.cell 0
  have g1 := CB.out.cell 1
  have g2 := CB.out.cell 2
  have g3 := CB.out.cell 3
  simp only [List.getElem?_toArray, List.getElem?_cons_succ, List.getElem?_cons_zero] at g0 g1 g2 g3
  go_wp2_with fail
  refine (HFEW.out w0 HT0.out).mono ?_; rintro e w1 ⟨rfl, hl1⟩
  have L1 := Lib.hid (bl L0.out hl1)
  have CB1 := Lib.hid (CB.out.bl hl1)
  have HT1 := Lib.hid (HT0.out.bl hl1)
  clear hl1 CB HT0 L0 g0 g1 g2 g3
  obtain ⟨fw, hfw⟩ : ∃ b, fewB c = b := ⟨_, rfl⟩
  rw [hfw]
  have HFW := Lib.hid hfw
  clear hfw
  cases fw with
  | false =>
    go_wp2_with fail
    refine (awake_any _).mono ?_; rintro e w2 ⟨rfl, hl2⟩
    have L2 := Lib.hid (bl L1.out hl2)
    clear hl2
    go_wp2_with fail
    go_ret
    exact ⟨rfl, L2.out⟩
  | true =>
    have H80 := Lib.hid (few_ok HFW.out)
    have g0 := CB1.out.cell 0
    have g1 := CB1.out.cell 1
    have g2 := CB1.out.cell 2
    have g3 := CB1.out.cell 3
    simp only [List.getElem?_toArray, List.getElem?_cons_succ, List.getElem?_cons_zero] at g0 g1 g2 g3
    go_wp2_with fail
    refine (HOF.out w1 HT1.out (by have := H80.out; omega)).mono ?_; rintro e w2 ⟨hl2, hr⟩
    have L2 := Lib.hid (bl L1.out hl2)
    have CB2 := Lib.hid (CB1.out.bl hl2)
    have HT2 := Lib.hid (HT1.out.bl hl2)
    clear hl2 CB1 HT1 L1 g0 g1 g2 g3
    have HR := Lib.hid hr
    clear hr
    rcases HR.out with ⟨hz, rfl⟩ | ⟨hz, sb, cp, rfl, hsb, hsp⟩
    · skip
      have HZ := Lib.hid hz
      clear hz
      have hpl := Blk.new w2 29 #[.int .i64 0, .int .i64 0, .int .i64 0, .slice none 0 0, .int .i64 0]
      have el : Below w2.heap.size w2 (w2.alloc (.cells #[.int .i64 0, .int .i64 0, .int .i64 0, .slice none 0 0, .int .i64 0] 29)) := (Below.refl _ _).alloc (Nat.le_refl _) _
      go_upto_region 4 with fail
      have PV := Lib.hid hpl
      have CB3 := Lib.hid (CB2.out.bl el)
      have HT3 := Lib.hid (HT2.out.bl el)
      have L3 := Lib.hid (bl L2.out el)
      skip
      clear hpl el CB2 HT2 L2
      generalize (w2.alloc (.cells #[.int .i64 0, .int .i64 0, .int .i64 0, .slice none 0 0, .int .i64 0] 29)) = w3 at *
      generalize w2.heap.size = pv at *
      have g0 := CB3.out.cell 0
      have g1 := CB3.out.cell 1
      have g2 := CB3.out.cell 2
      have g3 := CB3.out.cell 3
      simp only [List.getElem?_toArray, List.getElem?_cons_succ, List.getElem?_cons_zero] at g0 g1 g2 g3
      go_wp2_with fail
      refine (HRO.out w3 HT3.out (by have := H80.out; omega)).mono ?_; rintro e w4 ⟨hl4, hr4⟩
      have L4 := Lib.hid (bl L3.out hl4)
      have PV4 := Lib.hid (PV.out.bl hl4)
      rcases hr4 with ⟨hz4, rfl⟩ | ⟨hz4, _⟩
      case inr => exact absurd hz4 HZ.out
      obtain ⟨fb, hfb⟩ : ∃ z, (faultF c).2 = z := ⟨_, rfl⟩
      rw [hfb] at HZ
      simp only [hfb]
      have kb : (fb != 0) = true := by simp [HZ.out]
      have kbb : (fb == fb) = true := by simp
      have p3 := PV4.out.cell 3
      have p4 := PV4.out.cell 4
      simp only [List.getElem?_toArray, List.getElem?_cons_succ, List.getElem?_cons_zero] at p3 p4
      clear hz4 hl4 hfb HR PV L3 CB3 HT3 g0 g1 g2 g3
      go_wp2_with fail
      refine (awake_any _).mono ?_; rintro e w5 ⟨rfl, hl5⟩
      have L5 := Lib.hid (bl L4.out hl5)
      clear hl5
      go_wp2_with fail
      go_ret
      exact ⟨rfl, L5.out⟩
    · skip
      have HZ := Lib.hid hz
      have OK := Lib.hid (fault_ok hz).2
      clear hz
      have hpl := Blk.new w2 29 #[.int .i64 0, .int .i64 1, .int .i64 c.log, .slice (some ⟨sb, 0, none⟩) c.n cp, .int .i64 (offP c c.n)]
      have el : Below w2.heap.size w2 (w2.alloc (.cells #[.int .i64 0, .int .i64 1, .int .i64 c.log, .slice (some ⟨sb, 0, none⟩) c.n cp, .int .i64 (offP c c.n)] 29)) := (Below.refl _ _).alloc (Nat.le_refl _) _
      go_upto_region 4 with fail
      have PV := Lib.hid hpl
      have CB3 := Lib.hid (CB2.out.bl el)
      have HT3 := Lib.hid (HT2.out.bl el)
      have L3 := Lib.hid (bl L2.out el)
      have SP3 := Lib.hid (hsp.bl el)
      clear hpl el CB2 HT2 L2
      generalize (w2.alloc (.cells #[.int .i64 0, .int .i64 1, .int .i64 c.log, .slice (some ⟨sb, 0, none⟩) c.n cp, .int .i64 (offP c c.n)] 29)) = w3 at *
      generalize w2.heap.size = pv at *
      have g0 := CB3.out.cell 0
      have g1 := CB3.out.cell 1
      have g2 := CB3.out.cell 2
      have g3 := CB3.out.cell 3
      simp only [List.getElem?_toArray, List.getElem?_cons_succ, List.getElem?_cons_zero] at g0 g1 g2 g3
      go_wp2_with fail
      refine (HRO.out w3 HT3.out (by have := H80.out; omega)).mono ?_; rintro e w4 ⟨hl4, hr4⟩
      have L4 := Lib.hid (bl L3.out hl4)
      have PV4 := Lib.hid (PV.out.bl hl4)
      have SP4 := Lib.hid (SP3.out.bl hl4)
      rcases hr4 with ⟨hz4, _⟩ | ⟨_, rb, tb, tc, wb, cw, rfl, hrb, hrp, hts, hwi⟩
      case inl => exact absurd HZ.out hz4
      have RB := Lib.hid hrp
      have TS := Lib.hid hts
      have WI := Lib.hid hwi
      have HLN := Lib.hid (whL_len OK.out c.n (Nat.le_refl _))
      have HN64 := Lib.hid OK.out.n
      clear hl4 hrb hrp hts hwi HR PV SP3 L3 CB3 HT3 g0 g1 g2 g3 hsb hsp
      obtain ⟨lg, hlg⟩ : ∃ z, c.log = z := ⟨_, rfl⟩
      obtain ⟨sz, hsz⟩ : ∃ z, offP c c.n = z := ⟨_, rfl⟩
      obtain ⟨ln, hln⟩ : ∃ z, (whL c c.n).length = z := ⟨_, rfl⟩
      obtain ⟨n, hnn⟩ : ∃ z, c.n = z := ⟨_, rfl⟩
      rw [hlg, hsz] at PV4
      rw [hlg, hln] at RB
      rw [hsz, hln] at HLN
      rw [hnn] at PV4 RB HN64
      have HNN := Lib.hid hnn
      clear hlg hsz hln hnn
      go_upto_region 7 with fail
      have k1 : (lg != lg) = false := by simp
      have k2 : (sz != (ln : Int)) = false := by have := HLN.out; simp; omega
      have k3 : ((n : Int) != (n : Int)) = false := by simp
      have hne : Nonempty (Held (fun W => W = w4.drew)) := ⟨⟨_, rfl⟩⟩
      have s0 : ∀ x : Held (fun W => W = w4.drew), x.w.cell? ⟨pv, 0, none⟩ = some (.int .i64 0) := fun x => by rw [x.ok]; exact PV4.out.cell 0
      have s1 : ∀ x : Held (fun W => W = w4.drew), x.w.cell? ⟨pv, 1, none⟩ = some (.int .i64 1) := fun x => by rw [x.ok]; exact PV4.out.cell 1
      have s2 : ∀ x : Held (fun W => W = w4.drew), x.w.cell? ⟨pv, 2, none⟩ = some (.int .i64 lg) := fun x => by rw [x.ok]; exact PV4.out.cell 2
      have s3 : ∀ x : Held (fun W => W = w4.drew), x.w.cell? ⟨pv, 3, none⟩ = some (.slice (some ⟨sb, 0, none⟩) n cp) := fun x => by rw [x.ok]; exact PV4.out.cell 3
      have s4 : ∀ x : Held (fun W => W = w4.drew), x.w.cell? ⟨pv, 4, none⟩ = some (.int .i64 sz) := fun x => by rw [x.ok]; exact PV4.out.cell 4
      have r0 : ∀ x : Held (fun W => W = w4.drew), x.w.cell? ⟨rb, 0, none⟩ = some (.int .i64 0) := fun x => by rw [x.ok]; exact RB.out.cell 0
      have r1 : ∀ x : Held (fun W => W = w4.drew), x.w.cell? ⟨rb, 1, none⟩ = some (.int .i64 1) := fun x => by rw [x.ok]; exact RB.out.cell 1
      have r2 : ∀ x : Held (fun W => W = w4.drew), x.w.cell? ⟨rb, 2, none⟩ = some (.int .i64 lg) := fun x => by rw [x.ok]; exact RB.out.cell 2
      have r3 : ∀ x : Held (fun W => W = w4.drew), x.w.cell? ⟨rb, 3, none⟩ = some (.slice (some ⟨tb, 0, none⟩) n tc) := fun x => by rw [x.ok]; exact RB.out.cell 3
      have r4 : ∀ x : Held (fun W => W = w4.drew), x.w.cell? ⟨rb, 4, none⟩ = some (.slice (some ⟨wb, 0, none⟩) ln cw) := fun x => by rw [x.ok]; exact RB.out.cell 4
      refine drawn_bars (S := fun _ => True) [] [0, 1, 2, 3, 4, 5, 6, 7, 8, 9, 10, 11, 12, 13, 14, 15, 16, 17, 18, 19, 20, 21, 22, 23, 24, 25, 26, 27, 28, 29, 30, 31, 32, 33, 34, 35, 36, 37, 38, 39, 40, 41, 42, 43, 44, 45, 46, 47, 48, 49] (by kernel_rfl) (by kernel_rfl) (by kernel_rfl) rfl trivial ?_
      refine Phased.end_ ?_
      simp only [pick, List.map_cons, List.map_nil, List.getElem?_cons_zero, List.getElem?_cons_succ, Option.getD_some]
      repeat (go_big_quiet_step (fail))
      refine wpQuiet_nil ?_
      clear hne s0 s1 s2 s3 s4 r0 r1 r2 r3 r4 k1 k2
      have L5 := Lib.hid L4.out.drew
      have PV5 := Lib.hid PV4.out.drew
      have RB5 := Lib.hid RB.out.drew
      have SP5 := Lib.hid (SP4.out.bl (Below.refl w4.heap.size w4).drew)
      have TS5 := Lib.hid (TS.out.bl (Below.refl w4.heap.size w4).drew)
      clear L4 PV4 RB SP4 TS WI HLN
      generalize w4.drew = w5 at *
      go_wp2_with fail
      clear k3
      go_loopw [7] (fun s7 wr => ∃ (i : Nat), i ≤ n ∧ s7 = .int .i64 i ∧ Blk wr pv 29 #[.int .i64 0, .int .i64 1, .int .i64 lg, .slice (some ⟨sb, 0, none⟩) n cp, .int .i64 sz] ∧ Blk wr rb 39 (rpC 0 1 lg (.slice (some ⟨tb, 0, none⟩) n tc) (.slice (some ⟨wb, 0, none⟩) ln cw)) ∧ SpAt wr sb c ∧ SpAt wr tb c ∧ Below w.heap.size w wr) (fun s7 _ => n + 1 - (intOf s7).toNat)
      case atStart => exact ⟨0, by omega, rfl, PV5.out, RB5.out, SP5.out, TS5.out, L5.out⟩
      case round =>
        clear PV5 RB5 SP5 TS5 L5
        obtain ⟨i, hi, rfl, hpv, hrb, hsp, hts, hl⟩ := hrel
        have PV := Lib.hid hpv
        have RB := Lib.hid hrb
        have SP := Lib.hid hsp
        have TS := Lib.hid hts
        have L0 := Lib.hid hl
        have p3 := PV.out.cell 3
        simp only [List.getElem?_toArray, List.getElem?_cons_succ, List.getElem?_cons_zero] at p3
        clear hpv hrb hsp hts hl
        by_cases hlt : i < n
        · have kd : decide ((i : Int) < (n : Int)) = true := decide_eq_true (by omega)
          have kdn : decide (i < n) = true := decide_eq_true hlt
          have kdm : i < n := hlt
          have ki0 : (0 : Int) ≤ (i : Int) := by omega
          have ki1 : (i : Int) < (n : Int) := by omega
          have ki5 : (i : Int) ≤ 1000 := by have := HN64.out; omega
          have HI := Lib.hid hlt
          obtain ⟨a0, a1, a2, a3, a4⟩ := SP.out.five (i := i) (by rw [HNN.out]; exact hlt)
          obtain ⟨b0, b1, b2, b3, b4⟩ := TS.out.five (i := i) (by rw [HNN.out]; exact hlt)
          generalize spF c i = s at a0 a1 a2 a3 a4 b0 b1 b2 b3 b4
          obtain ⟨ow, sq, fi, wo, de⟩ := s
          simp only at a0 a1 a2 a3 a4 b0 b1 b2 b3 b4
          clear hlt hi
          go_upto_region 12 with fail
          clear p3
          have hne : Nonempty (Held (Below wr.heap.size wr)) := ⟨⟨wr, Below.refl _ _⟩⟩
          have q3 : ∀ y : Held (Below wr.heap.size wr), y.w.cell? ⟨pv, 3, none⟩ = some (.slice (some ⟨sb, 0, none⟩) n cp) := fun y => by rw [(PV.out.bl y.ok).cell]; rfl
          have u0 : ∀ y : Held (Below wr.heap.size wr), y.w.cell? ⟨rb, 0, none⟩ = some (.int .i64 0) := fun y => by rw [(RB.out.bl y.ok).cell]; rfl
          have u3 : ∀ y : Held (Below wr.heap.size wr), y.w.cell? ⟨rb, 3, none⟩ = some (.slice (some ⟨tb, 0, none⟩) n tc) := fun y => by rw [(RB.out.bl y.ok).cell]; rfl
          have x0 : ∀ y : Held (Below wr.heap.size wr), y.w.cell? ⟨sb, i * 5, none⟩ = some (.int .i64 ow) := fun y => (y.ok.cell (p := ⟨sb, i * 5, none⟩) SP.out.1).trans a0
          have y0 : ∀ y : Held (Below wr.heap.size wr), y.w.cell? ⟨tb, i * 5, none⟩ = some (.int .i64 ow) := fun y => (y.ok.cell (p := ⟨tb, i * 5, none⟩) TS.out.1).trans b0
          have e0 : (ow == ow) = true := by simp
          have x1 : ∀ y : Held (Below wr.heap.size wr), y.w.cell? ⟨sb, i * 5 + 1, none⟩ = some (.int .i64 sq) := fun y => (y.ok.cell (p := ⟨sb, i * 5 + 1, none⟩) SP.out.1).trans a1
          have y1 : ∀ y : Held (Below wr.heap.size wr), y.w.cell? ⟨tb, i * 5 + 1, none⟩ = some (.int .i64 sq) := fun y => (y.ok.cell (p := ⟨tb, i * 5 + 1, none⟩) TS.out.1).trans b1
          have e1 : (sq == sq) = true := by simp
          have x2 : ∀ y : Held (Below wr.heap.size wr), y.w.cell? ⟨sb, i * 5 + 2, none⟩ = some (.int .i64 fi) := fun y => (y.ok.cell (p := ⟨sb, i * 5 + 2, none⟩) SP.out.1).trans a2
          have y2 : ∀ y : Held (Below wr.heap.size wr), y.w.cell? ⟨tb, i * 5 + 2, none⟩ = some (.int .i64 fi) := fun y => (y.ok.cell (p := ⟨tb, i * 5 + 2, none⟩) TS.out.1).trans b2
          have e2 : (fi == fi) = true := by simp
          have x3 : ∀ y : Held (Below wr.heap.size wr), y.w.cell? ⟨sb, i * 5 + 3, none⟩ = some (.int .i64 wo) := fun y => (y.ok.cell (p := ⟨sb, i * 5 + 3, none⟩) SP.out.1).trans a3
          have y3 : ∀ y : Held (Below wr.heap.size wr), y.w.cell? ⟨tb, i * 5 + 3, none⟩ = some (.int .i64 wo) := fun y => (y.ok.cell (p := ⟨tb, i * 5 + 3, none⟩) TS.out.1).trans b3
          have e3 : (wo == wo) = true := by simp
          have x4 : ∀ y : Held (Below wr.heap.size wr), y.w.cell? ⟨sb, i * 5 + 4, none⟩ = some (.int .i64 de) := fun y => (y.ok.cell (p := ⟨sb, i * 5 + 4, none⟩) SP.out.1).trans a4
          have y4 : ∀ y : Held (Below wr.heap.size wr), y.w.cell? ⟨tb, i * 5 + 4, none⟩ = some (.int .i64 de) := fun y => (y.ok.cell (p := ⟨tb, i * 5 + 4, none⟩) TS.out.1).trans b4
          have e4 : (de == de) = true := by simp
          clear a0 a1 a2 a3 a4 b0 b1 b2 b3 b4
          refine drawn_bars (S := Below wr.heap.size wr) [([0, 1, 2, 3, 4, 6, 7, 8, 9, 10, 11, 12], 5)] [13] (by kernel_rfl) (by kernel_rfl) (by kernel_rfl) rfl (Below.refl _ _).drew ?_
          refine Phased.go ?_
          simp only [pick, List.map_cons, List.map_nil, List.getElem?_cons_zero, List.getElem?_cons_succ, Option.getD_some]
          repeat (go_big_quiet_step (fail))
          refine wpQuiet_nil ?_
          go_wp2_with fail
          have hpl := plain_any ⟨ow, sq, fi, wo, de⟩ wr.drew
          unfold Sp.val at hpl
          simp only at hpl
          refine hpl.mono ?_; rintro e w6 ⟨rfl, hl6⟩
          have E6 := Lib.hid (bl (Below.refl wr.heap.size wr).drew hl6)
          clear hl6 hpl
          go_wp2_with fail
          refine behind_normal ⟨Below wr.heap.size wr, fun W h => h, E6.out, ?_⟩
          refine Phased.end_ ?_
          have hne5 : Nonempty (Held (fun W => W = w6)) := ⟨⟨_, rfl⟩⟩
          simp only [pick, List.map_cons, List.map_nil, List.getElem?_cons_zero, List.getElem?_cons_succ, Option.getD_some]
          repeat (go_big_quiet_step (fail))
          refine wpQuiet_nil ?_
          clear hne hne5 q3 u0 u3 x0 x1 x2 x3 x4 y0 y1 y2 y3 y4
          have PV6 := Lib.hid (PV.out.bl E6.out)
          have RB6 := Lib.hid (RB.out.bl E6.out)
          have SP6 := Lib.hid (SP.out.bl E6.out)
          have TS6 := Lib.hid (TS.out.bl E6.out)
          have L6 := Lib.hid (bl L0.out E6.out)
          clear PV RB SP TS L0 E6 e0 e1 e2 e3 e4
          go_wp2_with fail
          exact ⟨⟨i + 1, HI.out, by go_num, PV6.out, RB6.out, SP6.out, TS6.out, L6.out⟩, by have := HI.out; simp [intOf]; omega⟩
        · have he : i = n := by omega
          have kd : decide ((i : Int) < (n : Int)) = false := decide_eq_false (by omega)
          have kdn : decide (i < n) = false := decide_eq_false hlt
          have kdm : ¬ i < n := hlt
          clear he hlt hi
          go_wp2_with fail
          refine (awake_any _).mono ?_; rintro e w6 ⟨rfl, hl6⟩
          have L6 := Lib.hid (bl L0.out hl6)
          clear hl6
          go_wp2_with fail
          go_ret
          exact ⟨rfl, L6.out⟩
end Go.Proofs.YtgdfhgoenemanaaDoor.Plan
