/-
  ReadOwn, walked. Printed by wip/tools/mkro.py. No condition. By an AI agent.
-/
import Derived.Test.YtihogagnjikghaaRdA
import Derived.Test.YtihogagnjikghaaIn
namespace Go.Proofs.Ytihogagnjikghaa.Bank
set_option linter.unusedVariables false
set_option linter.unusedSimpArgs false
open Go Go.RowKit Go.Proofs.Ytihogagnjikghaa.Base


set_option maxRecDepth 100000 in
set_option maxHeartbeats 16000000 in
theorem ReadOwn_walk (v : Value) (rec : List Int) (nI : Int) (hnI : -9223372036854775808 ≤ nI ∧ nI ≤ 9223372036854775807) (w : World) (hx : Ints w .u64 v rec) (hxf : ∀ n ∈ rec, (Lit.int .u64 n).wf = true) : Calls Try.prog 5 #[v, .int .i64 nI] w fun e w' => e = .returned (.bool true) ∧ Below w.heap.size w w' := by
  clear hnI
  have HIX := Lib.hid hx
  obtain ⟨A, ca, rfl, -, hf⟩ := hx.form
  have HXF := Lib.hid (fun y hy => u64_bounds (hxf y hy))
  clear hx hxf
  generalize hm : rec.length = m at *
  have HM := Lib.hid hm
  have HF := Lib.hid hf
  clear hm hf
  go_enter Try.func5, Try.ntmps5
  go_wp2_with fail
  refine (RGot_none _).mono ?_; rintro e w1 ⟨rfl, rfl⟩
  go_wp2_with fail
  refine (R_none _ _).mono ?_; rintro e w1 ⟨rfl, rfl⟩
  go_wp2_with fail
  refine (RAt_none _).mono ?_; rintro e w1 ⟨rfl, rfl⟩
  go_wp2_with fail
  refine (RSteps_none _).mono ?_; rintro e w1 ⟨rfl, rfl⟩
  have L0 := Lib.hid (Below.refl w.heap.size w)
  by_cases hm0 : (m : Int) < 1
  · skip
    have k1 : decide ((m : Int) < 1) = true := decide_eq_true (by omega)
    clear hm0
    go_wp2_with fail
    refine (awake_any _).mono ?_; rintro e wz ⟨rfl, hb⟩
    have LZ := Lib.hid (bl L0.out hb)
    clear hb
    go_wp2_with fail
    go_ret
    exact ⟨rfl, LZ.out⟩
  by_cases hm1 : 20 < (m : Int)
  · skip
    have k1 : decide ((m : Int) < 1) = false := decide_eq_false (by omega)
    have k2 : decide ((m : Int) > 20) = true := decide_eq_true (by omega)
    clear hm0 hm1
    go_wp2_with fail
    refine (awake_any _).mono ?_; rintro e wz ⟨rfl, hb⟩
    have LZ := Lib.hid (bl L0.out hb)
    clear hb
    go_wp2_with fail
    go_ret
    exact ⟨rfl, LZ.out⟩
  by_cases hn0 : nI < 1
  · skip
    have k1 : decide ((m : Int) < 1) = false := decide_eq_false (by omega)
    have k2 : decide ((m : Int) > 20) = false := decide_eq_false (by omega)
    have k3 : decide (nI < 1) = true := decide_eq_true (by omega)
    clear hm0 hm1 hn0
    go_wp2_with fail
    refine (awake_any _).mono ?_; rintro e wz ⟨rfl, hb⟩
    have LZ := Lib.hid (bl L0.out hb)
    clear hb
    go_wp2_with fail
    go_ret
    exact ⟨rfl, LZ.out⟩
  by_cases hn1 : 60 < nI
  · skip
    have k1 : decide ((m : Int) < 1) = false := decide_eq_false (by omega)
    have k2 : decide ((m : Int) > 20) = false := decide_eq_false (by omega)
    have k3 : decide (nI < 1) = false := decide_eq_false (by omega)
    have k4 : decide (nI > 60) = true := decide_eq_true (by omega)
    clear hm0 hm1 hn0 hn1
    go_wp2_with fail
    refine (awake_any _).mono ?_; rintro e wz ⟨rfl, hb⟩
    have LZ := Lib.hid (bl L0.out hb)
    clear hb
    go_wp2_with fail
    go_ret
    exact ⟨rfl, LZ.out⟩
  have k1 : decide ((m : Int) < 1) = false := decide_eq_false (by omega)
  have k2 : decide ((m : Int) > 20) = false := decide_eq_false (by omega)
  have k3 : decide (nI < 1) = false := decide_eq_false (by omega)
  have k4 : decide (nI > 60) = false := decide_eq_false (by omega)
  obtain ⟨n, rfl⟩ : ∃ n : Nat, nI = n := ⟨nI.toNat, by omega⟩
  have HMM := Lib.hid (show (1 ≤ m ∧ m ≤ 64) ∧ m ≤ 20 by omega)
  have HNN := Lib.hid (show 1 ≤ n ∧ n ≤ 60 by omega)
  clear hm0 hm1 hn0 hn1
  obtain ⟨ba, oa, rfl, hba, hca⟩ := HF.out (by intro hh; have := HM.out; rw [hh] at this; simp at this; have := HMM.out; omega)
  have HBA := Lib.hid hba
  have HCA := Lib.hid hca
  clear hba hca
  go_wp2_with fail
  clear k1 k2 k3 k4
  have HS := Lib.hid (spot_in m 2 HMM.out.1 (by omega) w)
  rw [show ((2 : Nat) : Int) = 2 from rfl] at HS
  refine HS.out.mono ?_; rintro e w2 ⟨g, h, rfl, hk, h1, h2, h3, hl⟩
  generalize hNN : 2 + m * 2 = N at *
  have HN2 := Lib.hid hNN
  clear hNN HS
  have OR0 := Lib.hid (show w.heap.size ≤ h ∧ h < g ∧ g < w2.heap.size from ⟨h1, h2, h3⟩)
  have K0 := Lib.hid hk
  clear h1 h2 h3 hk
  have L1 := Lib.hid (bl L0.out hl)
  clear hl L0
  have SB := Lib.hid (Blk.new w2 23 #[.int .i64 0, .int .i64 1, .int .i64 2, .int .i64 m, .int .i64 2])
  have S1 := Lib.hid (show w2.heap.size < (w2.alloc (.cells #[.int .i64 0, .int .i64 1, .int .i64 2, .int .i64 m, .int .i64 2] 23)).heap.size by simp)
  have ee : Ex (fun _ => False) w2 (w2.alloc (.cells #[.int .i64 0, .int .i64 1, .int .i64 2, .int .i64 m, .int .i64 2] 23)) := (Ex.refl _ w2).alloc _
  have K_1 := Lib.hid (K0.out.ex ee (fun h => h) (fun h => h))
  have L_1 := Lib.hid (Ex.below L1.out ee (fun k hk => hk.elim))
  have S_1 := Lib.hid (SB.out)
  clear ee K0 L1 SB
  have Sq0 := (S_1.out).cell 0
  have Sq1 := (S_1.out).cell 1
  have Sq2 := (S_1.out).cell 2
  have Sq3 := (S_1.out).cell 3
  have Sq4 := (S_1.out).cell 4
  simp only [List.getElem?_toArray, List.getElem?_cons_succ, List.getElem?_cons_zero] at Sq0 Sq1 Sq2 Sq3 Sq4
  go_wp2_with fail
  clear Sq0 Sq1 Sq2 Sq3 Sq4
  generalize (w2.alloc (.cells #[.int .i64 0, .int .i64 1, .int .i64 2, .int .i64 m, .int .i64 2] 23)) = w3 at *
  generalize hsb : w2.heap.size = sb at *
  have ORD := Lib.hid (show w.heap.size ≤ h ∧ h < g ∧ g < sb ∧ sb < w3.heap.size from ⟨OR0.out.1, OR0.out.2.1, OR0.out.2.2, S1.out⟩)
  clear hsb OR0 S1
  have HP := Lib.hid (publish_any g h (zeros N) 0 m 2 0 ba oa ca rec w3 HMM.out.1 (by omega) (by omega) HM.out HXF.out K_1.out (by rw [zeros_len]; exact HN2.out.symm) (by rw [nth_zeros]; rfl) (Nat.lt_of_lt_of_le HBA.out L_1.out.size) (by have := ORD.out; omega) (fun i hi => (L_1.out.cell (p := ⟨ba, oa + i, none⟩) HBA.out).trans (HCA.out i hi)))
  have HEND := Lib.hid (fun j => alone_end (p := plc m 2 (0 + 1)) (k := 0) (rec := rec) (ws := zeros N) (by rw [zeros_len]; have := HN2.out; have := HMM.out; omega) (by unfold plc; omega) (by rw [zeros_len, HM.out, ← HN2.out]; exact plc_fit HMM.out.1 (by omega) 1) (by rw [HM.out]; exact HMM.out.1.1) j)
  have HWL := Lib.hid (show (aloneW 1 (plc m 2 (0 + 1)) rec 0 (zeros N) (m + 3)).length = N by rw [aloneW_len, zeros_len])
  rw [HM.out] at HEND
  unfold Spot.val spotOf at HP
  simp only at HP
  rw [show ((2 : Nat) : Int) = 2 from rfl] at HP
  generalize aloneW 1 (plc m 2 (0 + 1)) rec 0 (zeros N) (m + 3) = ws1 at *
  generalize tickN 0 (m + 3) = t1 at *
  simp only [Nat.zero_add] at HEND
  have HPF := Lib.hid (plc_fit HMM.out.1 (d := 2) (by omega) 1)
  have HW1 := Lib.hid (show wordF ws1 1 = 2 by
    have a := wordF_nat ws1 1 (by rw [HWL.out]; have := HN2.out; omega)
    rw [show ((1 : Nat) : Int) = 1 from rfl] at a
    rw [a, HEND.out 1, if_pos rfl]; rfl)
  have HREC := Lib.hid (fun j (hj : j < m) => show nth ws1 (plc m 2 1 + j) = nth rec j by
    rw [HEND.out, if_neg (by unfold plc; omega), if_pos ⟨by omega, by omega⟩]; congr 1; omega)
  have HIN1 := Lib.hid (show inW ws1 1 by unfold inW; rw [HWL.out]; have := HN2.out; omega)
  clear HEND
  refine HP.out.mono ?_; rintro e w4 ⟨rfl, hk4, hx4⟩
  clear HP
  have ee : Ex (fun k => k = g ∨ k = h) w3 w4 := hx4
  have S_2 := Lib.hid (S_1.out.ex ee (by have o_ := ORD.out; omega))
  have L_2 := Lib.hid (Ex.below L_1.out ee (fun k hk => by have o_ := ORD.out; have hk : k = g ∨ k = h := hk; omega))
  have K_2 := Lib.hid (hk4)
  clear ee K_1 S_1 L_1 hx4 hk4
  have hmay : mayF (spotOf m 2) 2 = true := spot_right (d := 2) HMM.out.1 (by omega) 2 (by omega)
  have hmay1 : mayF (spotOf m 2) 1 = true := spot_right (d := 2) HMM.out.1 (by omega) 1 (by omega)
  have HMAY := Lib.hid hmay
  have HMAY1 := Lib.hid hmay1
  clear hmay hmay1
  have HN := Lib.hid (RNew_in (spotOf m 2) 2 w4 HMAY.out)
  rw [show (spotOf (m : Int) 2).words.toNat = m by unfold spotOf; simp only; omega] at HN
  unfold Spot.val spotOf at HN
  simp only at HN
  have Sq0 := (S_2.out).cell 0
  have Sq1 := (S_2.out).cell 1
  have Sq2 := (S_2.out).cell 2
  have Sq3 := (S_2.out).cell 3
  have Sq4 := (S_2.out).cell 4
  simp only [List.getElem?_toArray, List.getElem?_cons_succ, List.getElem?_cons_zero] at Sq0 Sq1 Sq2 Sq3 Sq4
  go_wp2_with fail
  refine HN.out.mono ?_; rintro e w5 ⟨o, r, rfl, ho, q1, q2, hl5⟩
  have OR2 := Lib.hid (show w.heap.size ≤ h ∧ h < g ∧ g < sb ∧ sb < r ∧ r < o from ⟨ORD.out.1, ORD.out.2.1, ORD.out.2.2.1, Nat.lt_of_lt_of_le S_2.out.lt q1, q2⟩)
  clear HN q1 q2 ORD
  clear Sq0 Sq1 Sq2 Sq3 Sq4
  have ee : Ex (fun _ => False) w4 w5 := Ex.of_below hl5
  have K_3 := Lib.hid (K_2.out.ex ee (fun h => h) (fun h => h))
  have S_3 := Lib.hid (S_2.out.ex ee (fun h => h))
  have L_3 := Lib.hid (Ex.below L_2.out ee (fun k hk => hk.elim))
  have O_3 := Lib.hid (ho)
  clear ee K_2 S_2 L_2 hl5 ho
  go_wp2_with fail
  have HG0 := Lib.hid (rdG_zero ws1 (plc m 2 1) m 0 (by omega))
  have HI0 := Lib.hid (show RInv (spotOf m 2) 2 (rdX m 1 0) (rdG ws1 (plc m 2 1) m 0) by
    rw [HG0.out]
    have := RInv.zero_ HMAY.out
    rw [show (spotOf (m : Int) 2).words.toNat = m by unfold spotOf; simp only; omega] at this
    exact this)
  have HST := Lib.hid (fun i (hi : i < m + 2) => rd_step (m := m) (d := 2) (gen := 1) (ws := ws1) HMM.out.1 (by omega) HIN1.out (by rw [HW1.out]; rfl) (by rw [HW1.out]; omega) 2 t1 i hi (fun _ _ => by rw [HWL.out, ← HN2.out]; have := HPF.out; omega))
  rw [show ((2 : Nat) : Int) = 2 from rfl] at HST
  obtain ⟨wk, rfl⟩ : ∃ wk : World, wk = w5 := ⟨_, rfl⟩
  have km : wrap64 ((m : Int) + 2) = (m : Int) + 2 := wrap64_in _ (by have := HMM.out; omega)
  have km1 : (m : Int) ≤ 20 := by have := HMM.out; omega
  have km0 : (1 : Int) ≤ (m : Int) := by have := HMM.out; omega
  go_loopw [13] (fun iv wr => ∃ i : Nat, i ≤ m + 2 ∧ iv = .int .i64 i ∧ BankAt wr g h ws1 (tickN t1 i) ∧ Blk wr sb 23 #[.int .i64 0, .int .i64 1, .int .i64 2, .int .i64 m, .int .i64 2] ∧ RdAt wr o r (spotOf m 2) 2 (rdX m 1 i) (rdG ws1 (plc m 2 1) m i) ∧ RInv (spotOf m 2) 2 (rdX m 1 i) (rdG ws1 (plc m 2 1) m i) ∧ Below w.heap.size w wr) (fun iv _ => m + 2 - (intOf iv).toNat)
  case atStart => exact ⟨0, by omega, rfl, K_3.out, S_3.out, by rw [HG0.out]; exact O_3.out, HI0.out, L_3.out⟩
  case round =>
    clear K_3 S_3 O_3 L_3 HI0 HG0
    obtain ⟨i, hi, rfl, hk, hs, ho, hri, hl⟩ := hrel
    have K0 := Lib.hid hk
    have S0 := Lib.hid hs
    have O0 := Lib.hid ho
    have RI := Lib.hid hri
    have L0 := Lib.hid hl
    clear hk hs ho hri hl
    by_cases hlt : i < m + 2
    · have kd : decide ((i : Int) < (m : Int) + 2) = true := decide_eq_true (by omega)
      have ki5 : (i : Int) ≤ 22 := by omega
      have HS := Lib.hid (HST.out i hlt)
      have HW := Lib.hid (RI.out.step ws1 (tickN t1 i) K0.out.fit)
      rw [HS.out] at HW
      go_wp2_with fail
      refine (RStep_any g h o r _ _ (spotOf m 2) 2 _ _ _ K0.out O0.out RI.out (by have o_ := OR2.out; omega)).mono ?_; rintro e w6 ⟨rfl, hk6, ho6, hx6⟩
      rw [HS.out] at hk6 ho6
      have ee : Ex (fun k => k = g ∨ k = h ∨ k = o ∨ k = r) wr w6 := hx6
      have S_4 := Lib.hid (S0.out.ex ee (by have o_ := OR2.out; omega))
      have L_4 := Lib.hid (Ex.below L0.out ee (fun k hk => by have o_ := OR2.out; have hk : k = g ∨ k = h ∨ k = o ∨ k = r := hk; omega))
      have K_4 := Lib.hid (hk6)
      have O_4 := Lib.hid (ho6)
      clear ee K0 S0 O0 L0 hk6 ho6 hx6
      go_wp2_with fail
      go_roundw
      case rel => exact ⟨i + 1, by omega, by go_num, K_4.out, S_4.out, O_4.out, HW.out, L_4.out⟩
      case measure => simp [intOf]; omega
    · obtain rfl : i = m + 2 := by omega
      have kd2 : decide ((m : Int) + 2 < (m : Int) + 2) = false := decide_eq_false (by omega)
      have HX := Lib.hid (rdX_end m 1)
      have HGR := Lib.hid (show rdG ws1 (plc m 2 1) m (m + 2) = rec by rw [rdG_end _ _ _ _ (by omega)]; exact rd_range HM.out HREC.out)
      rw [HX.out, HGR.out] at O0 RI
      clear HX HGR HST
      go_wp2_with fail
      refine (RGot_done o r (spotOf m 2) 2 _ rec _ O0.out RI.out rfl).mono ?_; rintro e w6 ⟨q1, rfl, hq, hqs, hb⟩
      rw [HM.out]
      simp only
      have OR3 := Lib.hid (show w.heap.size ≤ h ∧ h < g ∧ g < sb ∧ sb < r ∧ r < o ∧ o < q1 from ⟨OR2.out.1, OR2.out.2.1, OR2.out.2.2.1, OR2.out.2.2.2.1, OR2.out.2.2.2.2, Nat.lt_of_lt_of_le O0.out.head.lt hqs⟩)
      clear hqs OR2
      have ee : Ex (fun _ => False) wr w6 := Ex.of_below hb
      have K_4 := Lib.hid (K0.out.ex ee (fun h => h) (fun h => h))
      have S_4 := Lib.hid (S0.out.ex ee (fun h => h))
      have O_4 := Lib.hid (O0.out.ex ee (fun h => h) (fun h => h))
      have L_4 := Lib.hid (Ex.below L0.out ee (fun k hk => hk.elim))
      have Q_4 := Lib.hid (hq)
      clear ee K0 S0 O0 L0 hb hq
      go_wp2_with fail
      obtain ⟨wk3, rfl⟩ : ∃ wk : World, wk = w6 := ⟨_, rfl⟩
      go_loopw [16] (fun iv wr => ∃ (i : Nat) (xs : List Int), i ≤ m ∧ iv = .int .i64 i ∧ xs.length = m ∧ Row wr q1 xs ∧ BankAt wr g h ws1 (tickN t1 (m + 2)) ∧ Blk wr sb 23 #[.int .i64 0, .int .i64 1, .int .i64 2, .int .i64 m, .int .i64 2] ∧ RdAt wr o r (spotOf m 2) 2 ⟨1, 2, 0, ((1 : Nat) : Int), m, 1, m + 2⟩ rec ∧ Below w.heap.size w wr ∧ q1 < wr.heap.size) (fun iv _ => m - (intOf iv).toNat)
      case atStart => exact ⟨0, rec, by omega, rfl, HM.out, Q_4.out, K_4.out, S_4.out, O_4.out, L_4.out, Q_4.out.lt⟩
      case round =>
        clear K_4 S_4 O_4 Q_4 L_4
        obtain ⟨i, xs, hi, rfl, hxl, hq, hk, hs, ho, hl, hqz⟩ := hrel
        have K0 := Lib.hid hk
        have S0 := Lib.hid hs
        have O0 := Lib.hid ho
        have Q0 := Lib.hid hq
        have L0 := Lib.hid hl
        have HXL := Lib.hid hxl
        have QZ := Lib.hid hqz
        clear hk hs ho hq hl hxl hqz
        by_cases hlt : i < m
        · have kd : decide ((i : Int) < (m : Int)) = true := decide_eq_true (by omega)
          have ki0 : (0 : Int) ≤ (i : Int) := by omega
          have ki1 : (i : Int) < (m : Int) := by omega
          have ki5 : (i : Int) ≤ 20 := by omega
          have qw := Q0.out.word (i := i) (by rw [HXL.out]; exact hlt)
          have fw := Blk.frozen Q0.out i
          have HBB := Lib.hid (Q0.out.stored i 77)
          go_wp2_with fail
          clear qw fw
          have ee : Ex (fun k => k = q1) wr (wr.setCell ⟨q1, i, none⟩ (.int .u64 77)) := ((Ex.refl (fun k => k = q1) wr).setCell (q := ⟨q1, i, none⟩) (.inl rfl) (.int .u64 77))
          have K_5 := Lib.hid (K0.out.ex ee (by have o_ := OR3.out; omega) (by have o_ := OR3.out; omega))
          have S_5 := Lib.hid (S0.out.ex ee (by have o_ := OR3.out; omega))
          have O_5 := Lib.hid (O0.out.ex ee (by have o_ := OR3.out; omega) (by have o_ := OR3.out; omega))
          have L_5 := Lib.hid (Ex.below L0.out ee (fun k hk => by have o_ := OR3.out; have hk : k = q1 := hk; omega))
          have Q_5 := Lib.hid (HBB.out)
          clear ee K0 S0 O0 Q0 L0 HBB
          go_roundw
          case rel => exact ⟨i + 1, xs.set i 77, by omega, by go_num, by rw [List.length_set]; exact HXL.out, Q_5.out, K_5.out, S_5.out, O_5.out, L_5.out, Q_5.out.lt⟩
          case measure => simp [intOf]; omega
        · obtain rfl : i = m := by omega
          have kd : decide ((i : Int) < (i : Int)) = false := decide_eq_false (by omega)
          go_wp2_with fail
          refine (RGot_done o r (spotOf i 2) 2 _ rec _ O0.out RI.out rfl).mono ?_; rintro e w7 ⟨q2, rfl, hq, hqs, hb⟩
          rw [HM.out]
          simp only
          clear hqs
          have ee : Ex (fun _ => False) wr w7 := Ex.of_below hb
          have K_5 := Lib.hid (K0.out.ex ee (fun h => h) (fun h => h))
          have S_5 := Lib.hid (S0.out.ex ee (fun h => h))
          have O_5 := Lib.hid (O0.out.ex ee (fun h => h) (fun h => h))
          have L_5 := Lib.hid (Ex.below L0.out ee (fun k hk => hk.elim))
          have Q_5 := Lib.hid (hq)
          clear ee K0 S0 O0 L0 hb hq
          go_wp2_with fail
          refine (Touches_any g h _ _ _ K_5.out).mono ?_; rintro e w8 ⟨rfl, rfl⟩
          go_wp2_with fail
          have HI2 := Lib.hid (HIX.out.below L_5.out)
          have HQI := Lib.hid (Q_5.out.ints (by rw [HM.out]; have := HMM.out; unfold maxLen; omega))
          have HWD := Lib.hid (words_any _ _ rec rec _ HQI.out HI2.out (by rw [HM.out]; have := HMM.out; omega))
          rw [decide_eq_true (show rec = rec from rfl), HM.out] at HWD
          clear HI2 HQI
          refine HWD.out.mono ?_; rintro e w8 ⟨rfl, hb⟩
          clear HWD
          have ee : Ex (fun _ => False) w7 w8 := Ex.of_below hb
          have K_6 := Lib.hid (K_5.out.ex ee (fun h => h) (fun h => h))
          have S_6 := Lib.hid (S_5.out.ex ee (fun h => h))
          have O_6 := Lib.hid (O_5.out.ex ee (fun h => h) (fun h => h))
          have Q_6 := Lib.hid (Q_5.out.ex ee (fun h => h))
          have L_6 := Lib.hid (Ex.below L_5.out ee (fun k hk => hk.elim))
          clear ee K_5 S_5 O_5 Q_5 L_5 hb
          go_wp2_with fail
          refine (R_done o r (spotOf i 2) 2 _ rec _ _ O_6.out (by simp)).mono ?_; rintro e w9 ⟨rfl, rfl⟩
          simp only
          go_wp2_with fail
          refine (Touches_any g h _ _ _ K_6.out).mono ?_; rintro e w9 ⟨rfl, rfl⟩
          go_wp2_with fail
          refine (RSteps_any o r (spotOf i 2) 2 _ rec _ O_6.out).mono ?_; rintro e w9 ⟨rfl, rfl⟩
          simp only
          clear O_6 Q_6 RI
          have HN := Lib.hid (RNew_in (spotOf i 2) 1 w8 HMAY1.out)
          rw [show (spotOf (i : Int) 2).words.toNat = i by unfold spotOf; simp only; omega] at HN
          unfold Spot.val spotOf at HN
          simp only at HN
          have Sq0 := (S_6.out).cell 0
          have Sq1 := (S_6.out).cell 1
          have Sq2 := (S_6.out).cell 2
          have Sq3 := (S_6.out).cell 3
          have Sq4 := (S_6.out).cell 4
          simp only [List.getElem?_toArray, List.getElem?_cons_succ, List.getElem?_cons_zero] at Sq0 Sq1 Sq2 Sq3 Sq4
          go_wp2_with fail
          refine HN.out.mono ?_; rintro e w10 ⟨o1, r1, rfl, ho, q1', q2', hl5⟩
          have OR4 := Lib.hid (show w.heap.size ≤ h ∧ h < g ∧ g < sb ∧ sb < r1 ∧ r1 < o1 from ?ord)
          case ord => exact ⟨OR3.out.1, OR3.out.2.1, OR3.out.2.2.1, Nat.lt_of_lt_of_le S_6.out.lt q1', q2'⟩
          clear HN q1' q2' 
          clear Sq0 Sq1 Sq2 Sq3 Sq4
          have ee : Ex (fun _ => False) w8 w10 := Ex.of_below hl5
          have K_7 := Lib.hid (K_6.out.ex ee (fun h => h) (fun h => h))
          have S_7 := Lib.hid (S_6.out.ex ee (fun h => h))
          have L_7 := Lib.hid (Ex.below L_6.out ee (fun k hk => hk.elim))
          have P_7 := Lib.hid (ho)
          clear ee K_6 S_6 L_6 hl5 ho
          have HN := Lib.hid (RNew_in (spotOf i 2) 1 w10 HMAY1.out)
          rw [show (spotOf (i : Int) 2).words.toNat = i by unfold spotOf; simp only; omega] at HN
          unfold Spot.val spotOf at HN
          simp only at HN
          have Sq0 := (S_7.out).cell 0
          have Sq1 := (S_7.out).cell 1
          have Sq2 := (S_7.out).cell 2
          have Sq3 := (S_7.out).cell 3
          have Sq4 := (S_7.out).cell 4
          simp only [List.getElem?_toArray, List.getElem?_cons_succ, List.getElem?_cons_zero] at Sq0 Sq1 Sq2 Sq3 Sq4
          go_wp2_with fail
          refine HN.out.mono ?_; rintro e w11 ⟨o2, r2, rfl, ho, q1', q2', hl5⟩
          have OR5 := Lib.hid (show w.heap.size ≤ h ∧ h < g ∧ g < sb ∧ sb < r1 ∧ r1 < o1 ∧ o1 < r2 ∧ r2 < o2 from ?ord)
          case ord => exact ⟨OR4.out.1, OR4.out.2.1, OR4.out.2.2.1, OR4.out.2.2.2.1, OR4.out.2.2.2.2, Nat.lt_of_lt_of_le P_7.out.head.lt q1', q2'⟩
          clear HN q1' q2' 
          clear Sq0 Sq1 Sq2 Sq3 Sq4
          have ee : Ex (fun _ => False) w10 w11 := Ex.of_below hl5
          have K_8 := Lib.hid (K_7.out.ex ee (fun h => h) (fun h => h))
          have S_8 := Lib.hid (S_7.out.ex ee (fun h => h))
          have P_8 := Lib.hid (P_7.out.ex ee (fun h => h) (fun h => h))
          have L_8 := Lib.hid (Ex.below L_7.out ee (fun k hk => hk.elim))
          have R_8 := Lib.hid (ho)
          clear ee K_7 S_7 P_7 L_7 hl5 ho
          go_wp2_with fail
          refine (BNew_ex n (by have := HNN.out; omega) (by have := HNN.out; omega) _).mono ?_; rintro e w12 ⟨gc, hc, rfl, hk, q1', q2', q3', hl⟩
          have OR6 := Lib.hid (show w.heap.size ≤ h ∧ h < g ∧ g < sb ∧ sb < r1 ∧ r1 < o1 ∧ o1 < r2 ∧ r2 < o2 ∧ o2 < hc ∧ hc < gc from ⟨OR5.out.1, OR5.out.2.1, OR5.out.2.2.1, OR5.out.2.2.2.1, OR5.out.2.2.2.2.1, OR5.out.2.2.2.2.2.1, OR5.out.2.2.2.2.2.2, Nat.lt_of_lt_of_le R_8.out.head.lt q1', q2'⟩)
          clear q1' q2' q3'
          have ee : Ex (fun _ => False) w11 w12 := Ex.of_below hl
          have K_9 := Lib.hid (K_8.out.ex ee (fun h => h) (fun h => h))
          have S_9 := Lib.hid (S_8.out.ex ee (fun h => h))
          have P_9 := Lib.hid (P_8.out.ex ee (fun h => h) (fun h => h))
          have R_9 := Lib.hid (R_8.out.ex ee (fun h => h) (fun h => h))
          have L_9 := Lib.hid (Ex.below L_8.out ee (fun k hk => hk.elim))
          have C_9 := Lib.hid (hk)
          clear ee K_8 S_8 P_8 R_8 L_8 hl hk
          go_wp2_with fail
          have HZ1 := Lib.hid (show RInv (spotOf i 2) 1 RS.zero (zeros i) by
            have := RInv.zero_ HMAY1.out
            rw [show (spotOf (i : Int) 2).words.toNat = i by unfold spotOf; simp only; omega] at this
            exact this)
          refine (R_nobank g h o1 r1 _ _ (spotOf i 2) 1 _ _ _ _ _ _ _ K_9.out P_9.out HZ1.out (by have o_ := OR6.out; omega)).mono ?_; rintro e w13 ⟨rfl, hk7, ho7, hx7⟩
          simp only
          have ee : Ex (fun k => k = g ∨ k = h ∨ k = o1 ∨ k = r1) w12 w13 := hx7
          have S_10 := Lib.hid (S_9.out.ex ee (by have o_ := OR6.out; omega))
          have R_10 := Lib.hid (R_9.out.ex ee (by have o_ := OR6.out; omega) (by have o_ := OR6.out; omega))
          have C_10 := Lib.hid (C_9.out.ex ee (by have o_ := OR6.out; omega) (by have o_ := OR6.out; omega))
          have L_10 := Lib.hid (Ex.below L_9.out ee (fun k hk => by have o_ := OR6.out; have hk : k = g ∨ k = h ∨ k = o1 ∨ k = r1 := hk; omega))
          have K_10 := Lib.hid (hk7)
          have P_10 := Lib.hid (ho7)
          clear ee K_9 S_9 P_9 R_9 C_9 L_9 hx7 hk7 ho7
          go_wp2_with fail
          refine (R_done o1 r1 (spotOf i 2) 1 _ _ _ _ P_10.out (by simp)).mono ?_; rintro e w14 ⟨rfl, rfl⟩
          simp only
          go_wp2_with fail
          refine (RSteps_any o1 r1 (spotOf i 2) 1 _ _ _ P_10.out).mono ?_; rintro e w14 ⟨rfl, rfl⟩
          simp only
          go_wp2_with fail
          clear K_10 S_10 P_10 km kd2 kd
          have HG0 := Lib.hid (rdG_zero (zeros n) (plc i 2 0) i 0 (by omega))
          have HPZ := Lib.hid (show plc i 2 0 = 2 by unfold plc; simp)
          have HI0 := Lib.hid (show RInv (spotOf i 2) 1 (rdX i 0 0) (rdG (zeros n) (plc i 2 0) i 0) by rw [HG0.out]; exact HZ1.out)
          have HWZ := Lib.hid (show wordF (zeros n) 1 = 0 by unfold wordF; split; exact nth_zeros _ _; rfl)
          have HST := Lib.hid (fun (k : Nat) (hk : k < i + 2) (h1 : 2 ≤ n) (h2 : 1 ≤ k → k ≤ i → k + 1 < n) => rd_step (m := i) (d := 2) (gen := 0) (ws := zeros n) HMM.out.1 (by omega) (by unfold inW; rw [zeros_len]; omega) (by rw [HWZ.out]; rfl) (by rw [HWZ.out]; omega) 1 0 k hk (fun a b => by rw [zeros_len, HPZ.out]; have := h2 a b; omega))
          have HOU := Lib.hid (fun (k : Nat) (h1 : 1 ≤ k) (h2 : k ≤ i) (h3 : n ≤ k + 1) (t : Int) => rd_out (m := i) (d := 2) (gen := 0) (ws := zeros n) HMM.out.1 (by omega) 1 t k h1 h2 (by rw [zeros_len, HPZ.out]; omega))
          clear HZ1 HPZ hi
          rw [show ((2 : Nat) : Int) = 2 from rfl] at HST HOU
          have kn1 : (n : Int) ≤ 60 := by have := HNN.out; omega
          have kn0 : (1 : Int) ≤ (n : Int) := by have := HNN.out; omega
          obtain ⟨wk4, rfl⟩ : ∃ wk : World, wk = w13 := ⟨_, rfl⟩
          go_loopw [25] (fun iv wr => ∃ k : Nat, k ≤ i + 1 ∧ k ≤ 59 ∧ (k = 0 ∨ k + 1 ≤ n) ∧ iv = .int .i64 k ∧ BankAt wr gc hc (zeros n) (tickN 0 k) ∧ RdAt wr o2 r2 (spotOf i 2) 1 (rdX i 0 k) (rdG (zeros n) (plc i 2 0) i k) ∧ RInv (spotOf i 2) 1 (rdX i 0 k) (rdG (zeros n) (plc i 2 0) i k) ∧ Below w.heap.size w wr) (fun iv _ => 60 - (intOf iv).toNat)
          case atStart => exact ⟨0, by omega, by omega, .inl rfl, rfl, C_10.out, by rw [HG0.out]; exact R_10.out, HI0.out, L_10.out⟩
          case round =>
            clear C_10 R_10 L_10 HI0 HG0
            obtain ⟨k, hk1, hk2, hk3, rfl, hkc, ho, hri, hl⟩ := hrel
            have C0 := Lib.hid hkc
            have R0 := Lib.hid ho
            have RI := Lib.hid hri
            have L0 := Lib.hid hl
            have HK := Lib.hid (show k ≤ i + 1 ∧ k ≤ 59 ∧ (k = 0 ∨ k + 1 ≤ n) from ⟨hk1, hk2, hk3⟩)
            have kk5 : (k : Int) ≤ 59 := by omega
            have kk6 : decide ((k : Int) < 60) = true := decide_eq_true (by omega)
            have HW := Lib.hid (RI.out.step (zeros n) (tickN 0 k) C0.out.fit)
            clear hk1 hk2 hk3 hkc ho hri hl
            by_cases hn1 : n < 2
            · have hk0 : k = 0 := by have := HK.out; omega
              subst hk0
              have hs9 : (rdStep (spotOf i 2) 1 (rdX i 0 0) (rdG (zeros n) (plc i 2 0) i 0) (zeros n) (tickN 0 0)).1.how = 3 ∧ (rdStep (spotOf i 2) 1 (rdX i 0 0) (rdG (zeros n) (plc i 2 0) i 0) (zeros n) (tickN 0 0)).1.steps = 0 := by
                rw [show rdX i 0 0 = RS.zero from rfl]
                unfold rdStep RS.zero
                simp only [ne_eq, not_true, if_false, if_true, show ((0 : Int) = 1) = False by simp]
                rw [show (spotOf (i : Int) 2).seq = 1 from rfl, if_neg (by unfold inW; rw [zeros_len]; omega)]
                exact ⟨rfl, rfl⟩
              have HS9 := Lib.hid hs9
              have kge : decide ((n : Int) ≥ 2 + (i : Int)) = false := decide_eq_false (by have := HMM.out; omega)
              have kw1 : wrap64 (2 + (i : Int)) = 2 + (i : Int) := wrap64_in _ (by have := HMM.out; omega)
              have kw2 : wrap64 ((n : Int) - 1) = (n : Int) - 1 := wrap64_in _ (by omega)
              have kmx : ((0 : Int) == max 0 ((n : Int) - 1)) = true := beq_iff_eq.2 (by omega)
              clear hs9 hn1
              go_wp2_with fail
              refine (RStep_any gc hc o2 r2 _ _ (spotOf i 2) 1 _ _ _ C0.out R0.out RI.out (by have o_ := OR6.out; omega)).mono ?_; rintro e w15 ⟨rfl, hk6, ho6, hx6⟩
              generalize rdStep (spotOf i 2) 1 (rdX i 0 0) (rdG (zeros n) (plc i 2 0) i 0) (zeros n) (tickN 0 0) = yy at *
              obtain ⟨y, yg, yt⟩ := yy
              simp only at hk6 ho6 HS9 HW
              simp only
              rw [HS9.out.1]
              have ee : Ex (fun k => k = gc ∨ k = hc ∨ k = o2 ∨ k = r2) wr w15 := hx6
              have L_11 := Lib.hid (Ex.below L0.out ee (fun k hk => by have o_ := OR6.out; have hk : k = gc ∨ k = hc ∨ k = o2 ∨ k = r2 := hk; omega))
              have C_11 := Lib.hid (hk6)
              have R_11 := Lib.hid (ho6)
              clear ee C0 R0 L0 hk6 ho6 hx6
              go_wp2_with fail
              refine (R_done o2 r2 (spotOf i 2) 1 y yg _ _ R_11.out (by rw [HS9.out.1]; omega)).mono ?_; rintro e w16 ⟨rfl, rfl⟩
              rw [HS9.out.1]
              go_wp2_with fail
              refine (RSteps_any o2 r2 (spotOf i 2) 1 y yg _ R_11.out).mono ?_; rintro e w16 ⟨rfl, rfl⟩
              rw [HS9.out.2]
              go_wp2_with fail
              refine (awake_any _).mono ?_; rintro e wz ⟨rfl, hb⟩
              have LZ := Lib.hid (bl L_11.out hb)
              clear hb
              go_wp2_with fail
              go_ret
              exact ⟨rfl, LZ.out⟩
            by_cases hout : 1 ≤ k ∧ k ≤ i ∧ n ≤ k + 1
            · have HS9 := Lib.hid (HOU.out k hout.1 hout.2.1 hout.2.2 (tickN 0 k))
              have kge : decide ((n : Int) ≥ 2 + (i : Int)) = false := decide_eq_false (by have := HK.out; omega)
              have kw1 : wrap64 (2 + (i : Int)) = 2 + (i : Int) := wrap64_in _ (by have := HMM.out; omega)
              have kw2 : wrap64 ((n : Int) - 1) = (n : Int) - 1 := wrap64_in _ (by omega)
              have kmx : ((k : Int) == max 0 ((n : Int) - 1)) = true := beq_iff_eq.2 (by have := HK.out; omega)
              clear hout hn1
              go_wp2_with fail
              refine (RStep_any gc hc o2 r2 _ _ (spotOf i 2) 1 _ _ _ C0.out R0.out RI.out (by have o_ := OR6.out; omega)).mono ?_; rintro e w15 ⟨rfl, hk6, ho6, hx6⟩
              generalize rdStep (spotOf i 2) 1 (rdX i 0 k) (rdG (zeros n) (plc i 2 0) i k) (zeros n) (tickN 0 k) = yy at *
              obtain ⟨y, yg, yt⟩ := yy
              simp only at hk6 ho6 HS9 HW
              simp only
              rw [HS9.out.1]
              have ee : Ex (fun k => k = gc ∨ k = hc ∨ k = o2 ∨ k = r2) wr w15 := hx6
              have L_11 := Lib.hid (Ex.below L0.out ee (fun k hk => by have o_ := OR6.out; have hk : k = gc ∨ k = hc ∨ k = o2 ∨ k = r2 := hk; omega))
              have C_11 := Lib.hid (hk6)
              have R_11 := Lib.hid (ho6)
              clear ee C0 R0 L0 hk6 ho6 hx6
              go_wp2_with fail
              refine (R_done o2 r2 (spotOf i 2) 1 y yg _ _ R_11.out (by rw [HS9.out.1]; omega)).mono ?_; rintro e w16 ⟨rfl, rfl⟩
              rw [HS9.out.1]
              go_wp2_with fail
              refine (RSteps_any o2 r2 (spotOf i 2) 1 y yg _ R_11.out).mono ?_; rintro e w16 ⟨rfl, rfl⟩
              rw [HS9.out.2]
              go_wp2_with fail
              refine (awake_any _).mono ?_; rintro e wz ⟨rfl, hb⟩
              have LZ := Lib.hid (bl L_11.out hb)
              clear hb
              go_wp2_with fail
              go_ret
              exact ⟨rfl, LZ.out⟩
            have HS := Lib.hid (HST.out k (by have := HK.out; omega) (by omega) (fun a b => by omega))
            rw [HS.out] at HW
            by_cases hlast : k = i + 1
            · subst hlast
              have kge : decide ((n : Int) ≥ 2 + (i : Int)) = true := decide_eq_true (by have := HK.out; omega)
              have kw1 : wrap64 (2 + (i : Int)) = 2 + (i : Int) := wrap64_in _ (by have := HMM.out; omega)
              have kw3 : wrap64 ((i : Int) + 2) = (i : Int) + 2 := wrap64_in _ (by have := HMM.out; omega)
              have HS9 := Lib.hid (show (rdX i 0 (i + 1 + 1)).how = 1 ∧ (rdX i 0 (i + 1 + 1)).steps = (i : Int) + 2 by rw [rdX_end]; exact ⟨rfl, rfl⟩)
              clear hout hn1
              go_wp2_with fail
              refine (RStep_any gc hc o2 r2 _ _ (spotOf i 2) 1 _ _ _ C0.out R0.out RI.out (by have o_ := OR6.out; omega)).mono ?_; rintro e w15 ⟨rfl, hk6, ho6, hx6⟩
              rw [HS.out] at hk6 ho6
              rw [HS.out]
              simp only at hk6 ho6
              simp only
              generalize rdX i 0 (i + 1 + 1) = y at *
              generalize rdG (zeros n) (plc i 2 0) i (i + 1 + 1) = yg at *
              rw [HS9.out.1]
              have ee : Ex (fun k => k = gc ∨ k = hc ∨ k = o2 ∨ k = r2) wr w15 := hx6
              have L_11 := Lib.hid (Ex.below L0.out ee (fun k hk => by have o_ := OR6.out; have hk : k = gc ∨ k = hc ∨ k = o2 ∨ k = r2 := hk; omega))
              have C_11 := Lib.hid (hk6)
              have R_11 := Lib.hid (ho6)
              clear ee C0 R0 L0 hk6 ho6 hx6
              go_wp2_with fail
              refine (R_done o2 r2 (spotOf i 2) 1 y yg _ _ R_11.out (by rw [HS9.out.1]; omega)).mono ?_; rintro e w16 ⟨rfl, rfl⟩
              rw [HS9.out.1]
              go_wp2_with fail
              refine (RSteps_any o2 r2 (spotOf i 2) 1 y yg _ R_11.out).mono ?_; rintro e w16 ⟨rfl, rfl⟩
              rw [HS9.out.2]
              go_wp2_with fail
              refine (awake_any _).mono ?_; rintro e wz ⟨rfl, hb⟩
              have LZ := Lib.hid (bl L_11.out hb)
              clear hb
              go_wp2_with fail
              go_ret
              exact ⟨rfl, LZ.out⟩
            · have HB := Lib.hid (show (rdX i 0 (k + 1)).how = 0 by rw [rdX_how _ _ _ (by have := HK.out; omega), if_neg (by omega)])
              have HK2 := Lib.hid (show k + 1 ≤ i + 1 ∧ k + 1 ≤ 59 ∧ k + 1 + 1 ≤ n by have := HK.out; have := HMM.out; omega)
              clear hout hlast hn1
              go_wp2_with fail
              refine (RStep_any gc hc o2 r2 _ _ (spotOf i 2) 1 _ _ _ C0.out R0.out RI.out (by have o_ := OR6.out; omega)).mono ?_; rintro e w15 ⟨rfl, hk6, ho6, hx6⟩
              rw [HS.out] at hk6 ho6
              rw [HS.out]
              simp only at hk6 ho6
              simp only
              rw [HB.out]
              have ee : Ex (fun k => k = gc ∨ k = hc ∨ k = o2 ∨ k = r2) wr w15 := hx6
              have L_11 := Lib.hid (Ex.below L0.out ee (fun k hk => by have o_ := OR6.out; have hk : k = gc ∨ k = hc ∨ k = o2 ∨ k = r2 := hk; omega))
              have C_11 := Lib.hid (hk6)
              have R_11 := Lib.hid (ho6)
              clear ee C0 R0 L0 hk6 ho6 hx6
              go_wp2_with fail
              exact ⟨⟨k + 1, HK2.out.1, HK2.out.2.1, .inr HK2.out.2.2, by go_num, C_11.out, R_11.out, HW.out, L_11.out⟩, by have := HK2.out; simp [intOf]; omega⟩
end Go.Proofs.Ytihogagnjikghaa.Bank
