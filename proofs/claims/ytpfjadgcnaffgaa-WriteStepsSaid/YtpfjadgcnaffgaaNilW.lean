/-
  WriteNil, walked. Printed by wip/tools/mkwn.py. No condition. By an AI agent.
-/
import Derived.Test.YtpfjadgcnaffgaaBoundW
namespace Go.Proofs.Ytpfjadgcnaffgaa.Bank
set_option linter.unusedVariables false
set_option linter.unusedSimpArgs false
open Go Go.RowKit Go.Proofs.Ytpfjadgcnaffgaa.Base

set_option maxRecDepth 100000 in
set_option maxHeartbeats 4000000 in
theorem S_look_nil (o r cc : Nat) (s : Spot) (rec : List Int) (tries had steps sq nn : Int) (w : World) (ho : OpAt w o r cc s rec tries ⟨0, 0, had, steps, sq, nn⟩) :
    Calls Try.prog 18 #[.pointer (some ⟨o, 0, none⟩), .pointer none] w fun e w' => e = .returned (.int .i64 3) ∧ OpAt w' o r cc s rec tries ⟨3, 0, had, steps, 0, nn⟩ ∧ Ex (fun k => k = o) w w' := by
  have B0 := Lib.hid ho.head
  have I0 := Lib.hid ho.row
  have X0 := Lib.hid (Ex.refl (fun k => k = o) w)
  have NE := Lib.hid ho.ne
  unfold opCs at B0
  simp only at B0
  clear ho
  have q0 := B0.out.cell 0
  have q1 := B0.out.cell 1
  have q5 := B0.out.cell 5
  simp only [List.getElem?_toArray, List.getElem?_cons_succ, List.getElem?_cons_zero] at q0 q1 q5
  go_enter Try.func18, Try.ntmps18
  go_wp2_with fail
  refine wp_scope_ahead 2 (fun c0 HC => ?_)
  go_wp2_with fail
  refine (Load_nil s.seq w).mono ?_; rintro e w1 ⟨rfl, hx1⟩
  clear q0 q1 q5
  have Bw1 := Lib.hid (B0.out.bl hx1)
  have Iw1 := Lib.hid (I0.out.below hx1)
  have Xw1 := Lib.hid (X0.out.trans (Ex.of_below hx1))
  clear hx1 B0 I0 X0
  have q10 := Bw1.out.cell 10
  have q0 := Bw1.out.cell 0
  simp only [List.getElem?_toArray, List.getElem?_cons_succ, List.getElem?_cons_zero] at q10 q0
  have f10 := Bw1.out.frozen 10
  have f0 := Bw1.out.frozen 0
  go_wp2_with fail
  refine wp_goto ?_
  show goOn Try.prog c0 _ 2 (.goto 0) _ _
  refine goOn_jump HC rfl ?_
  go_wp2_with fail
  clear q10 q0 f10 f0
  have ee := (((Ex.refl (fun k => k = o) w1).setCell (q := ⟨o, 10, none⟩) (.inl rfl) (.int .u64 0)).setCell (q := ⟨o, 0, none⟩) (.inl rfl) (.int .i64 3))
  have bb := ((Bw1.out.set_ 10 (.int .u64 0)).set_ 0 (.int .i64 3))
  simp only [List.setIfInBounds_toArray, List.set_cons_succ, List.set_cons_zero] at bb
  have Bwz := Lib.hid bb
  have Iwz := Lib.hid (Iw1.out.ex ee (by have := NE.out; omega))
  have Xwz := Lib.hid (Xw1.out.trans ee)
  clear ee bb Bw1 Iw1 Xw1
  first | rw [goOn_ret] | skip
  go_ret
  exact ⟨rfl, ⟨Bwz.out, Iwz.out, NE.out⟩, Xwz.out⟩
theorem nil_place {m : Nat} (hm : 1 ≤ m ∧ m ≤ 64) (nn : Int) : placeF (spotOf m 2) 0 nn = 2 + m + nn := by
  unfold placeF
  have hok : (spotOf m 2).AtOk := by unfold Spot.AtOk spotOf; simp only; omega
  rw [show IntKind.u64.wrap ((0 : Int) / 2 + 1) = 1 by decide, atF_ok hok]
  unfold spotOf
  simp only
  omega
theorem wordF_setF_ne {ws : List Int} {a b x : Int} (h : inW ws b) (ha : 0 ≤ a) (hn : a ≠ b) : wordF (setF ws b x) a = wordF ws a := by
  unfold wordF
  have hi : inW (setF ws b x) a ↔ inW ws a := by unfold inW; rw [setF_len]
  by_cases h2 : inW ws a
  · rw [if_pos (hi.2 h2), if_pos h2, setF_in h, nth_set _ _ _ _ (by have := h.1; have := h.2; omega), if_neg (by have := h.1; omega)]
  · rw [if_neg (fun h3 => h2 (hi.1 h3)), if_neg h2]

set_option maxRecDepth 100000 in
set_option maxHeartbeats 8000000 in
theorem WriteNil_walk (v : Value) (rec : List Int) (nI : Int) (hnI : -9223372036854775808 ≤ nI ∧ nI ≤ 9223372036854775807) (w : World) (hx : Ints w .u64 v rec) (hxf : ∀ n ∈ rec, (Lit.int .u64 n).wf = true) : Calls Try.prog 5 #[v, .int .i64 nI] w fun e w' => e = .returned (.bool true) ∧ Below w.heap.size w w' := by
  clear hnI
  obtain ⟨A, ca, rfl, -, hf⟩ := hx.form
  have HXF := Lib.hid (fun y hy => u64_bounds (hxf y hy))
  clear hx hxf
  generalize hm : rec.length = m at *
  have HM := Lib.hid hm
  have HF := Lib.hid hf
  clear hm hf
  go_enter Try.func5, Try.ntmps5
  go_wp2_with fail
  refine (BNew_ex 4 (by omega) (by omega) _).mono ?_; rintro e w1 ⟨g0, h0, rfl, -, -, -, -, hl⟩
  have L0 := Lib.hid hl
  clear hl
  go_wp2_with fail
  refine (S_none _ _).mono ?_; rintro e w2 ⟨rfl, rfl⟩
  go_wp2_with fail
  refine (WGen_none _).mono ?_; rintro e w2 ⟨rfl, rfl⟩
  go_wp2_with fail
  refine (WSteps_none _).mono ?_; rintro e w2 ⟨rfl, rfl⟩
  by_cases hm0 : (m : Int) < 1
  · skip
    have k1 : decide ((m : Int) < 1) = true := decide_eq_true (by omega)
    clear hm0
    go_wp2_with fail
    refine (awake_any _).mono ?_; rintro e wz ⟨rfl, hb⟩
    have LZ := Lib.hid (bl L0.out hb)
    clear hb
    go_wp2_with fail
    go_ret
    exact ⟨rfl, LZ.out⟩
  by_cases hm1 : 64 < (m : Int)
  · skip
    have k1 : decide ((m : Int) < 1) = false := decide_eq_false (by omega)
    have k2 : decide ((m : Int) > 64) = true := decide_eq_true (by omega)
    clear hm0 hm1
    go_wp2_with fail
    refine (awake_any _).mono ?_; rintro e wz ⟨rfl, hb⟩
    have LZ := Lib.hid (bl L0.out hb)
    clear hb
    go_wp2_with fail
    go_ret
    exact ⟨rfl, LZ.out⟩
  by_cases hn0 : nI < 1
  · skip
    have k1 : decide ((m : Int) < 1) = false := decide_eq_false (by omega)
    have k2 : decide ((m : Int) > 64) = false := decide_eq_false (by omega)
    have k3 : decide (nI < 1) = true := decide_eq_true (by omega)
    clear hm0 hm1 hn0
    go_wp2_with fail
    refine (awake_any _).mono ?_; rintro e wz ⟨rfl, hb⟩
    have LZ := Lib.hid (bl L0.out hb)
    clear hb
    go_wp2_with fail
    go_ret
    exact ⟨rfl, LZ.out⟩
  by_cases hn1 : 200 < nI
  · skip
    have k1 : decide ((m : Int) < 1) = false := decide_eq_false (by omega)
    have k2 : decide ((m : Int) > 64) = false := decide_eq_false (by omega)
    have k3 : decide (nI < 1) = false := decide_eq_false (by omega)
    have k4 : decide (nI > 200) = true := decide_eq_true (by omega)
    clear hm0 hm1 hn0 hn1
    go_wp2_with fail
    refine (awake_any _).mono ?_; rintro e wz ⟨rfl, hb⟩
    have LZ := Lib.hid (bl L0.out hb)
    clear hb
    go_wp2_with fail
    go_ret
    exact ⟨rfl, LZ.out⟩
  have k1 : decide ((m : Int) < 1) = false := decide_eq_false (by omega)
  have k2 : decide ((m : Int) > 64) = false := decide_eq_false (by omega)
  have k3 : decide (nI < 1) = false := decide_eq_false (by omega)
  have k4 : decide (nI > 200) = false := decide_eq_false (by omega)
  obtain ⟨n, rfl⟩ : ∃ n : Nat, nI = n := ⟨nI.toNat, by omega⟩
  have HMM := Lib.hid (show 1 ≤ m ∧ m ≤ 64 by omega)
  have HNN := Lib.hid (show 1 ≤ n ∧ n ≤ 200 by omega)
  clear hm0 hm1 hn0 hn1
  obtain ⟨ba, oa, rfl, hba, hca⟩ := HF.out (by intro hh; have := HM.out; rw [hh] at this; simp at this; have := HMM.out; omega)
  have HBA := Lib.hid hba
  have HCA := Lib.hid hca
  clear hba hca
  have hmay : mayF (spotOf m 2) 3 = true := spot_right (d := 2) HMM.out (by omega) 3 (by omega)
  have HMAY := Lib.hid hmay
  clear hmay
  have BS := Lib.hid (Blk.new w1 23 #[.int .i64 0, .int .i64 1, .int .i64 2, .int .i64 m, .int .i64 2])
  have HBW := Lib.hid (show ba < (w1.alloc (.cells #[.int .i64 0, .int .i64 1, .int .i64 2, .int .i64 m, .int .i64 2] 23)).heap.size from Nat.lt_of_lt_of_le (Nat.lt_of_lt_of_le HBA.out L0.out.size) (by simp))
  have L1 := Lib.hid (L0.out.alloc L0.out.size (.cells #[.int .i64 0, .int .i64 1, .int .i64 2, .int .i64 m, .int .i64 2] 23))
  have HN := Lib.hid (WNew_in (spotOf m 2) 3 ba oa m ca rec (w1.alloc (.cells #[.int .i64 0, .int .i64 1, .int .i64 2, .int .i64 m, .int .i64 2] 23)) HMAY.out rfl HM.out HBW.out (fun i hi => (L1.out.cell (p := ⟨ba, oa + i, none⟩) HBA.out).trans (HCA.out i (by omega))))
  unfold Spot.val spotOf at HN
  simp only at HN
  have OR0 := Lib.hid (show w.heap.size ≤ w1.heap.size ∧ w1.heap.size < (w1.alloc (.cells #[.int .i64 0, .int .i64 1, .int .i64 2, .int .i64 m, .int .i64 2] 23)).heap.size from ⟨L0.out.size, by simp⟩)
  clear L0
  have Sq0 := (BS.out).cell 0
  have Sq1 := (BS.out).cell 1
  have Sq2 := (BS.out).cell 2
  have Sq3 := (BS.out).cell 3
  have Sq4 := (BS.out).cell 4
  simp only [List.getElem?_toArray, List.getElem?_cons_succ, List.getElem?_cons_zero] at Sq0 Sq1 Sq2 Sq3 Sq4
  go_wp2_with fail
  generalize (w1.alloc (.cells #[.int .i64 0, .int .i64 1, .int .i64 2, .int .i64 m, .int .i64 2] 23)) = w2 at *
  generalize hsb : w1.heap.size = sb at *
  clear hsb
  refine HN.out.mono ?_; rintro e w4 ⟨o1, r1, c1, rfl, ho, q1, q2, hl5⟩
  have OR1 := Lib.hid (show w.heap.size ≤ sb ∧ sb < r1 ∧ r1 < o1 from ⟨OR0.out.1, Nat.lt_of_lt_of_le OR0.out.2 q1, q2⟩)
  clear HN q1 q2 OR0
  clear Sq0 Sq1 Sq2 Sq3 Sq4
  have ee : Ex (fun _ => False) w2 w4 := Ex.of_below hl5
  have S_1 := Lib.hid (BS.out.ex ee (fun h => h))
  have L_1 := Lib.hid (Ex.below L1.out ee (fun k hk => hk.elim))
  have O_1 := Lib.hid (ho)
  clear ee BS L1 hl5 ho
  have HBW2 := Lib.hid (show ba < w4.heap.size from Nat.lt_of_lt_of_le HBA.out L_1.out.size)
  have HN := Lib.hid (WNew_in (spotOf m 2) 3 ba oa m ca rec w4 HMAY.out rfl HM.out HBW2.out (fun i hi => (L_1.out.cell (p := ⟨ba, oa + i, none⟩) HBA.out).trans (HCA.out i (by omega))))
  unfold Spot.val spotOf at HN
  simp only at HN
  have Sq0 := (S_1.out).cell 0
  have Sq1 := (S_1.out).cell 1
  have Sq2 := (S_1.out).cell 2
  have Sq3 := (S_1.out).cell 3
  have Sq4 := (S_1.out).cell 4
  simp only [List.getElem?_toArray, List.getElem?_cons_succ, List.getElem?_cons_zero] at Sq0 Sq1 Sq2 Sq3 Sq4
  go_wp2_with fail
  refine HN.out.mono ?_; rintro e w5 ⟨o2, r2, c2, rfl, ho, q1, q2, hl5⟩
  have OR2 := Lib.hid (show w.heap.size ≤ sb ∧ sb < r1 ∧ r1 < o1 ∧ o1 < r2 ∧ r2 < o2 from ⟨OR1.out.1, OR1.out.2.1, OR1.out.2.2, Nat.lt_of_lt_of_le O_1.out.head.lt q1, q2⟩)
  clear HN q1 q2 OR1
  clear Sq0 Sq1 Sq2 Sq3 Sq4
  have ee : Ex (fun _ => False) w4 w5 := Ex.of_below hl5
  have S_2 := Lib.hid (S_1.out.ex ee (fun h => h))
  have O_2 := Lib.hid (O_1.out.ex ee (fun h => h) (fun h => h))
  have L_2 := Lib.hid (Ex.below L_1.out ee (fun k hk => hk.elim))
  have P_2 := Lib.hid (ho)
  clear ee S_1 O_1 L_1 hl5 ho
  go_wp2_with fail
  refine (BNew_ex n (by have := HNN.out; omega) (by have := HNN.out; omega) _).mono ?_; rintro e w6 ⟨g, h, rfl, hk, q1, q2, q3, hl⟩
  have OR3 := Lib.hid (show w.heap.size ≤ sb ∧ sb < r1 ∧ r1 < o1 ∧ o1 < r2 ∧ r2 < o2 ∧ o2 < h ∧ h < g from ⟨OR2.out.1, OR2.out.2.1, OR2.out.2.2.1, OR2.out.2.2.2.1, OR2.out.2.2.2.2, Nat.lt_of_lt_of_le P_2.out.head.lt q1, q2⟩)
  clear q1 q2 q3 OR2
  have ee : Ex (fun _ => False) w5 w6 := Ex.of_below hl
  have S_3 := Lib.hid (S_2.out.ex ee (fun h => h))
  have O_3 := Lib.hid (O_2.out.ex ee (fun h => h) (fun h => h))
  have P_3 := Lib.hid (P_2.out.ex ee (fun h => h) (fun h => h))
  have L_3 := Lib.hid (Ex.below L_2.out ee (fun k hk => hk.elim))
  have K_3 := Lib.hid (hk)
  clear ee S_2 O_2 P_2 L_2 hl hk
  go_wp2_with fail
  refine (S_look_nil o1 r1 c1 (spotOf m 2) rec 3 _ _ _ _ _ O_3.out).mono ?_; rintro e w7 ⟨rfl, ho, hx⟩
  have ee : Ex (fun k => k = o1) w6 w7 := hx
  have S_4 := Lib.hid (S_3.out.ex ee (by have o_ := OR3.out; omega))
  have P_4 := Lib.hid (P_3.out.ex ee (by have o_ := OR3.out; omega) (by have o_ := OR3.out; omega))
  have K_4 := Lib.hid (K_3.out.ex ee (by have o_ := OR3.out; omega) (by have o_ := OR3.out; omega))
  have L_4 := Lib.hid (Ex.below L_3.out ee (fun k hk => by have o_ := OR3.out; have hk : k = o1 := hk; omega))
  have O_4 := Lib.hid (ho)
  clear ee S_3 O_3 P_3 K_3 L_3 hx ho
  go_wp2_with fail
  refine (S_done g h o1 r1 c1 [] 0 (spotOf m 2) rec 3 _ _ _ O_4.out (by simp)).mono ?_; rintro e w8 ⟨rfl, rfl⟩
  simp only
  go_wp2_with fail
  refine (WSteps_any o1 r1 c1 (spotOf m 2) rec 3 _ _ O_4.out).mono ?_; rintro e w8 ⟨rfl, rfl⟩
  try simp only [WS.zero]
  go_wp2_with fail
  refine (Touches_any g h _ _ _ K_4.out).mono ?_; rintro e w8 ⟨rfl, rfl⟩
  go_wp2_with fail
  clear O_4 S_4
  have HWI := Lib.hid (WInv.zero_ (s := spotOf m 2) (rec := rec) HMAY.out (by rw [HM.out]; rfl) HXF.out)
  clear k1 k2 k3 k4
  obtain ⟨wk, rfl⟩ : ∃ wk : World, wk = w7 := ⟨_, rfl⟩
  have hn5 : (n : Int) ≤ 200 := by have := HNN.out; omega
  have hn6 : (1 : Int) ≤ (n : Int) := by have := HNN.out; omega
  have hm5 : (m : Int) ≤ 64 := by have := HMM.out; omega
  have hm6 : (1 : Int) ≤ (m : Int) := by have := HMM.out; omega
  go_loopw [15] (fun iv wr => ∃ (i : Nat) (x : WS) (ws : List Int) (t : Int), i ≤ 66 ∧ iv = .int .i64 i ∧ BankAt wr g h ws t ∧ OpAt wr o2 r2 c2 (spotOf m 2) rec 3 x ∧ WInv (spotOf m 2) rec 3 x ∧ (ws.length = n ∧ x.how = 0 ∧ x.steps = i ∧ x.sq = 0 ∧ (x.next = 0 → i = 0 ∧ wordF ws 1 = 0) ∧ (x.next = 1 → i = 1 ∧ wordF ws 1 = 0 ∧ 2 ≤ n) ∧ (x.next = 2 → 2 ≤ n ∧ (i : Int) = 2 + x.n ∧ wordF ws 1 = 1 ∧ (x.n = 0 ∨ 2 + m + x.n ≤ n)) ∧ (x.next = 3 → 2 ≤ n ∧ (i : Int) = 2 + m ∧ wordF ws 1 = 1 ∧ 2 + 2 * m ≤ n)) ∧ Below w.heap.size w wr) (fun iv _ => 67 - (intOf iv).toNat)
  case atStart => exact ⟨0, WS.zero, zeros n, 0, by omega, rfl, K_4.out, P_4.out, HWI.out, ⟨zeros_len _, rfl, rfl, rfl, fun _ => ⟨rfl, by unfold wordF; split; exact nth_zeros _ _; rfl⟩, fun h => by simp [WS.zero] at h, fun h => by simp [WS.zero] at h, fun h => by simp [WS.zero] at h⟩, L_4.out⟩
  case round =>
    clear K_4 P_4 L_4 HWI
    obtain ⟨i, x, ws, t, hi, rfl, hbk, ho, hwi, hp, hl⟩ := hrel
    have K0 := Lib.hid hbk
    have P0 := Lib.hid ho
    have WI := Lib.hid hwi
    have HP := Lib.hid hp
    have L0 := Lib.hid hl
    clear hbk ho hwi hp hl
    have HNX := Lib.hid WI.out.next
    have HSN := Lib.hid WI.out.n
    obtain ⟨how, next, had, steps, sq, nn⟩ := x
    have hh0 : how = 0 := HP.out.2.1
    subst hh0
    have hs0 : steps = (i : Int) := HP.out.2.2.1
    subst hs0
    have hq0 : sq = 0 := HP.out.2.2.2.1
    subst hq0
    have HPT := Lib.hid HP.out.2.2.2.2
    have HLN := Lib.hid HP.out.1
    clear HP
    have hnx := HNX.out
    simp only at hnx HPT HSN
    have HI := Lib.hid hi
    have ki0 : (0 : Int) ≤ (i : Int) := by omega
    have ki1 : (i : Int) ≤ 66 := by omega
    have ki2 : decide ((i : Int) < 100) = true := decide_eq_true (by omega)
    clear hi HNX
    rcases hnx with rfl | rfl | rfl | rfl
    · skip
      have hin0 : i = 0 ∧ wordF ws 1 = 0 := HPT.out.1 (by trivial)
      obtain ⟨rfl, hw0⟩ := hin0
      have HW0 := Lib.hid hw0
      clear hw0
      by_cases h2 : 2 ≤ n
      · have HIN := Lib.hid (show inW ws 1 by unfold inW; rw [HLN.out]; omega)
        have H2 := Lib.hid h2
        clear h2
        have hws : wStep (spotOf m 2) rec 3 ⟨0, 0, had, ((0 : Nat) : Int), 0, nn⟩ ws t = (⟨0, 1, had, ((0 : Nat) : Int) + 1, wordF ws 1, nn⟩, ws, tickF ws 1 t) := by
          unfold wStep; simp only [ne_eq, if_false, if_true, show ((1 : Int) = 0) = False by simp, show ((2 : Int) = 0) = False by simp, show ((2 : Int) = 1) = False by simp, show ((3 : Int) = 0) = False by simp, show ((3 : Int) = 1) = False by simp, show ((3 : Int) = 2) = False by simp, not_true]; rw [show (spotOf m 2).seq = 1 from rfl, if_pos HIN.out, if_pos (by rw [HW0.out]; rfl)]
        have WI2 := Lib.hid (WI.out.step ws t K0.out.fit)
        rw [hws] at WI2
        have HWS := Lib.hid hws
        clear hws
        rw [HW0.out] at HWS WI2
        go_wp2_with fail
        refine (WStep_any g h o2 r2 c2 _ _ (spotOf m 2) rec 3 _ _ K0.out P0.out WI.out (by have o_ := OR3.out; omega)).mono ?_; rintro e w8 ⟨rfl, hk7, ho7, hx7⟩
        rw [HWS.out] at hk7 ho7
        rw [HWS.out]
        simp only
        have ee : Ex (fun k => k = g ∨ k = h ∨ k = o2) wr w8 := hx7
        have L_5 := Lib.hid (Ex.below L0.out ee (fun k hk => by have o_ := OR3.out; have hk : k = g ∨ k = h ∨ k = o2 := hk; omega))
        have K_5 := Lib.hid (hk7)
        have P_5 := Lib.hid (ho7)
        clear ee K0 P0 L0 hx7 hk7 ho7
        go_wp2_with fail
        exact ⟨⟨1, _, _, _, by omega, rfl, K_5.out, P_5.out, WI2.out, ⟨HLN.out, rfl, by simp, rfl, fun h => by simp at h, fun _ => ⟨rfl, HW0.out, H2.out⟩, fun h => by simp at h, fun h => by simp at h⟩, L_5.out⟩, by simp [intOf]⟩
      · have HIN := Lib.hid (show ¬ inW ws 1 by unfold inW; rw [HLN.out]; omega)
        have kn : decide ((n : Int) < 2) = true := decide_eq_true (by omega)
        clear h2
        have hws : wStep (spotOf m 2) rec 3 ⟨0, 0, had, ((0 : Nat) : Int), 0, nn⟩ ws t = (⟨3, 0, had, ((0 : Nat) : Int), 0, nn⟩, ws, tickF ws 1 t) := by
          unfold wStep; simp only [ne_eq, if_false, if_true, show ((1 : Int) = 0) = False by simp, show ((2 : Int) = 0) = False by simp, show ((2 : Int) = 1) = False by simp, show ((3 : Int) = 0) = False by simp, show ((3 : Int) = 1) = False by simp, show ((3 : Int) = 2) = False by simp, not_true]; rw [show (spotOf m 2).seq = 1 from rfl, if_neg HIN.out]
        have WI2 := Lib.hid (WI.out.step ws t K0.out.fit)
        rw [hws] at WI2
        have HWS := Lib.hid hws
        clear hws
        go_wp2_with fail
        refine (WStep_any g h o2 r2 c2 _ _ (spotOf m 2) rec 3 _ _ K0.out P0.out WI.out (by have o_ := OR3.out; omega)).mono ?_; rintro e w8 ⟨rfl, hk7, ho7, hx7⟩
        rw [HWS.out] at hk7 ho7
        rw [HWS.out]
        simp only
        have ee : Ex (fun k => k = g ∨ k = h ∨ k = o2) wr w8 := hx7
        have L_5 := Lib.hid (Ex.below L0.out ee (fun k hk => by have o_ := OR3.out; have hk : k = g ∨ k = h ∨ k = o2 := hk; omega))
        have K_5 := Lib.hid (hk7)
        have P_5 := Lib.hid (ho7)
        clear ee K0 P0 L0 hx7 hk7 ho7
        have kd1 : wrap64 ((n : Int) - 2) = (n : Int) - 2 := wrap64_in _ (by have := HNN.out; omega)
        have kd2 : wrap64 ((n : Int) - 2 - (m : Int)) = (n : Int) - 2 - (m : Int) := wrap64_in _ (by have := HNN.out; have := HMM.out; omega)
        go_wp2_with fail
        refine (S_done g h o2 r2 c2 [] 0 (spotOf m 2) rec 3 _ _ _ P_5.out (by simp)).mono ?_; rintro e w9 ⟨rfl, rfl⟩
        simp only
        go_wp2_with fail
        refine (WSteps_any o2 r2 c2 (spotOf m 2) rec 3 _ _ P_5.out).mono ?_; rintro e w9 ⟨rfl, rfl⟩
        try simp only
        go_wp2_with fail
        refine (awake_any _).mono ?_; rintro e wz ⟨rfl, hb⟩
        have LZ := Lib.hid (bl L_5.out hb)
        clear hb
        go_wp2_with fail
        go_ret
        exact ⟨rfl, LZ.out⟩
    · skip
      have hin0 : i = 1 ∧ wordF ws 1 = 0 ∧ 2 ≤ n := HPT.out.2.1 (by trivial)
      obtain ⟨rfl, hw0, h2⟩ := hin0
      have HW0 := Lib.hid hw0
      have HIN := Lib.hid (show inW ws 1 by unfold inW; rw [HLN.out]; omega)
      have H2 := Lib.hid h2
      have hn0 : nn = 0 := WI.out.zero rfl (by simp)
      subst hn0
      clear hw0 h2
      have hws : wStep (spotOf m 2) rec 3 ⟨0, 1, had, ((1 : Nat) : Int), 0, 0⟩ ws t = (⟨0, 2, had, ((1 : Nat) : Int) + 1, 0, 0⟩, setF ws 1 1, tickF ws 1 t) := by
        unfold wStep; simp only [ne_eq, if_false, if_true, show ((1 : Int) = 0) = False by simp, show ((2 : Int) = 0) = False by simp, show ((2 : Int) = 1) = False by simp, show ((3 : Int) = 0) = False by simp, show ((3 : Int) = 1) = False by simp, show ((3 : Int) = 2) = False by simp, not_true]; rw [show (spotOf m 2).seq = 1 from rfl, if_pos HIN.out, show casB ws 1 0 = true by unfold casB; rw [HW0.out]; simp [HIN.out], if_pos rfl]; rw [show IntKind.u64.wrap (0 + 1) = 1 by decide]
      have WI2 := Lib.hid (WI.out.step ws t K0.out.fit)
      rw [hws] at WI2
      have HWS := Lib.hid hws
      clear hws
      go_wp2_with fail
      refine (WStep_any g h o2 r2 c2 _ _ (spotOf m 2) rec 3 _ _ K0.out P0.out WI.out (by have o_ := OR3.out; omega)).mono ?_; rintro e w8 ⟨rfl, hk7, ho7, hx7⟩
      rw [HWS.out] at hk7 ho7
      rw [HWS.out]
      simp only
      have ee : Ex (fun k => k = g ∨ k = h ∨ k = o2) wr w8 := hx7
      have L_5 := Lib.hid (Ex.below L0.out ee (fun k hk => by have o_ := OR3.out; have hk : k = g ∨ k = h ∨ k = o2 := hk; omega))
      have K_5 := Lib.hid (hk7)
      have P_5 := Lib.hid (ho7)
      clear ee K0 P0 L0 hx7 hk7 ho7
      go_wp2_with fail
      exact ⟨⟨2, _, _, _, by omega, rfl, K_5.out, P_5.out, WI2.out, ⟨by rw [setF_len]; exact HLN.out, rfl, by simp, rfl, fun h => by simp at h, fun h => by simp at h, fun _ => ⟨H2.out, by simp, wordF_setF HIN.out, .inl rfl⟩, fun h => by simp at h⟩, L_5.out⟩, by simp [intOf]⟩
    · skip
      obtain ⟨h2, hi2, hw1, hor⟩ := HPT.out.2.2.1 (by trivial)
      have hn9 : 0 ≤ nn ∧ nn < m := ⟨HSN.out.1, HSN.out.2 (by trivial) (by trivial)⟩
      have HW1 := Lib.hid hw1
      have HI2 := Lib.hid hi2
      have HIN := Lib.hid (show inW ws 1 by unfold inW; rw [HLN.out]; omega)
      have HPL := Lib.hid (nil_place HMM.out nn)
      have H2 := Lib.hid h2
      have HN9 := Lib.hid hn9
      clear hw1 h2 hi2 hn9
      by_cases hfit : 2 + (m : Int) + nn < n
      · have HIP := Lib.hid (show inW ws (2 + m + nn) by unfold inW; rw [HLN.out]; have := HN9.out; omega)
        have HFIT := Lib.hid hfit
        clear hfit hor
        by_cases hlast : nn + 1 = (m : Int)
        · skip
          have HLAST := Lib.hid hlast
          clear hlast
          have hws : wStep (spotOf m 2) rec 3 ⟨0, 2, had, (i : Int), 0, nn⟩ ws t = (⟨0, 3, had, (i : Int) + 1, 0, nn + 1⟩, setF ws (2 + m + nn) (nth rec nn.toNat), tickF ws (2 + m + nn) t) := by
            unfold wStep; simp only [ne_eq, if_false, if_true, show ((1 : Int) = 0) = False by simp, show ((2 : Int) = 0) = False by simp, show ((2 : Int) = 1) = False by simp, show ((3 : Int) = 0) = False by simp, show ((3 : Int) = 1) = False by simp, show ((3 : Int) = 2) = False by simp, not_true]; rw [HPL.out, if_pos HIP.out, HM.out, if_pos HLAST.out]
          have WI2 := Lib.hid (WI.out.step ws t K0.out.fit)
          rw [hws] at WI2
          have HWS := Lib.hid hws
          clear hws
          have HS1 := Lib.hid (show wordF (setF ws (2 + m + nn) (nth rec nn.toNat)) 1 = 1 by rw [wordF_setF_ne HIP.out (by omega) (by have := HN9.out; omega)]; exact HW1.out)
          have HS2 := Lib.hid (show (setF ws (2 + m + nn) (nth rec nn.toNat)).length = n by rw [setF_len]; exact HLN.out)
          have ki7 : (i : Int) ≤ 65 := by have := HI2.out; have := HN9.out; omega
          generalize setF ws (2 + m + nn) (nth rec nn.toNat) = ws3 at *
          go_wp2_with fail
          refine (WStep_any g h o2 r2 c2 _ _ (spotOf m 2) rec 3 _ _ K0.out P0.out WI.out (by have o_ := OR3.out; omega)).mono ?_; rintro e w8 ⟨rfl, hk7, ho7, hx7⟩
          rw [HWS.out] at hk7 ho7
          rw [HWS.out]
          simp only
          have ee : Ex (fun k => k = g ∨ k = h ∨ k = o2) wr w8 := hx7
          have L_5 := Lib.hid (Ex.below L0.out ee (fun k hk => by have o_ := OR3.out; have hk : k = g ∨ k = h ∨ k = o2 := hk; omega))
          have K_5 := Lib.hid (hk7)
          have P_5 := Lib.hid (ho7)
          clear ee K0 P0 L0 hx7 hk7 ho7
          go_wp2_with fail
          exact ⟨⟨i + 1, _, _, _, by omega, by go_num, K_5.out, P_5.out, WI2.out, ⟨HS2.out, rfl, by simp, rfl, fun h => by simp at h, fun h => by simp at h, fun h => by simp at h, fun _ => ⟨H2.out, by have := HI2.out; have := HLAST.out; omega, HS1.out, by have := HFIT.out; have := HLAST.out; omega⟩⟩, L_5.out⟩, by simp [intOf]; omega⟩
        · skip
          have HLAST := Lib.hid hlast
          clear hlast
          have hws : wStep (spotOf m 2) rec 3 ⟨0, 2, had, (i : Int), 0, nn⟩ ws t = (⟨0, 2, had, (i : Int) + 1, 0, nn + 1⟩, setF ws (2 + m + nn) (nth rec nn.toNat), tickF ws (2 + m + nn) t) := by
            unfold wStep; simp only [ne_eq, if_false, if_true, show ((1 : Int) = 0) = False by simp, show ((2 : Int) = 0) = False by simp, show ((2 : Int) = 1) = False by simp, show ((3 : Int) = 0) = False by simp, show ((3 : Int) = 1) = False by simp, show ((3 : Int) = 2) = False by simp, not_true]; rw [HPL.out, if_pos HIP.out, HM.out, if_neg HLAST.out]
          have WI2 := Lib.hid (WI.out.step ws t K0.out.fit)
          rw [hws] at WI2
          have HWS := Lib.hid hws
          clear hws
          have HS1 := Lib.hid (show wordF (setF ws (2 + m + nn) (nth rec nn.toNat)) 1 = 1 by rw [wordF_setF_ne HIP.out (by omega) (by have := HN9.out; omega)]; exact HW1.out)
          have HS2 := Lib.hid (show (setF ws (2 + m + nn) (nth rec nn.toNat)).length = n by rw [setF_len]; exact HLN.out)
          have ki7 : (i : Int) ≤ 65 := by have := HI2.out; have := HN9.out; omega
          generalize setF ws (2 + m + nn) (nth rec nn.toNat) = ws3 at *
          go_wp2_with fail
          refine (WStep_any g h o2 r2 c2 _ _ (spotOf m 2) rec 3 _ _ K0.out P0.out WI.out (by have o_ := OR3.out; omega)).mono ?_; rintro e w8 ⟨rfl, hk7, ho7, hx7⟩
          rw [HWS.out] at hk7 ho7
          rw [HWS.out]
          simp only
          have ee : Ex (fun k => k = g ∨ k = h ∨ k = o2) wr w8 := hx7
          have L_5 := Lib.hid (Ex.below L0.out ee (fun k hk => by have o_ := OR3.out; have hk : k = g ∨ k = h ∨ k = o2 := hk; omega))
          have K_5 := Lib.hid (hk7)
          have P_5 := Lib.hid (ho7)
          clear ee K0 P0 L0 hx7 hk7 ho7
          go_wp2_with fail
          exact ⟨⟨i + 1, _, _, _, by omega, by go_num, K_5.out, P_5.out, WI2.out, ⟨HS2.out, rfl, by simp, rfl, fun h => by simp at h, fun h => by simp at h, fun _ => ⟨H2.out, by show (((i + 1 : Nat) : Int) = 2 + (nn + 1)); have := HI2.out; omega, HS1.out, .inr (by show 2 + (m : Int) + (nn + 1) ≤ n; have := HFIT.out; omega)⟩, fun h => by simp at h⟩, L_5.out⟩, by simp [intOf]; omega⟩
      · have HIP := Lib.hid (show ¬ inW ws (2 + m + nn) by unfold inW; rw [HLN.out]; omega)
        have kn : decide ((n : Int) < 2) = false := decide_eq_false (by have := H2.out; omega)
        have kh : decide ((n : Int) - 2 - (m : Int) ≥ (m : Int)) = false := decide_eq_false (by have := HN9.out; omega)
        have hmx : max 0 ((n : Int) - 2 - (m : Int)) = nn := by have := HN9.out; omega
        have kmx : ((i : Int) == 2 + max 0 ((n : Int) - 2 - (m : Int))) = true := beq_iff_eq.2 (by rw [hmx]; exact HI2.out)
        clear hfit hor hmx
        have hws : wStep (spotOf m 2) rec 3 ⟨0, 2, had, (i : Int), 0, nn⟩ ws t = (⟨3, 2, had, (i : Int), 0, nn⟩, ws, tickF ws (2 + m + nn) t) := by
          unfold wStep; simp only [ne_eq, if_false, if_true, show ((1 : Int) = 0) = False by simp, show ((2 : Int) = 0) = False by simp, show ((2 : Int) = 1) = False by simp, show ((3 : Int) = 0) = False by simp, show ((3 : Int) = 1) = False by simp, show ((3 : Int) = 2) = False by simp, not_true]; rw [HPL.out, if_neg HIP.out]
        have WI2 := Lib.hid (WI.out.step ws t K0.out.fit)
        rw [hws] at WI2
        have HWS := Lib.hid hws
        clear hws
        have HGEN := Lib.hid (show WS.gen ⟨3, 2, had, (i : Int), 0, nn⟩ = 0 by simp [WS.gen])
        go_wp2_with fail
        refine (WStep_any g h o2 r2 c2 _ _ (spotOf m 2) rec 3 _ _ K0.out P0.out WI.out (by have o_ := OR3.out; omega)).mono ?_; rintro e w8 ⟨rfl, hk7, ho7, hx7⟩
        rw [HWS.out] at hk7 ho7
        rw [HWS.out]
        simp only
        have ee : Ex (fun k => k = g ∨ k = h ∨ k = o2) wr w8 := hx7
        have L_5 := Lib.hid (Ex.below L0.out ee (fun k hk => by have o_ := OR3.out; have hk : k = g ∨ k = h ∨ k = o2 := hk; omega))
        have K_5 := Lib.hid (hk7)
        have P_5 := Lib.hid (ho7)
        clear ee K0 P0 L0 hx7 hk7 ho7
        have kd1 : wrap64 ((n : Int) - 2) = (n : Int) - 2 := wrap64_in _ (by have := HNN.out; omega)
        have kd2 : wrap64 ((n : Int) - 2 - (m : Int)) = (n : Int) - 2 - (m : Int) := wrap64_in _ (by have := HNN.out; have := HMM.out; omega)
        go_wp2_with fail
        refine (S_done g h o2 r2 c2 [] 0 (spotOf m 2) rec 3 _ _ _ P_5.out (by simp)).mono ?_; rintro e w9 ⟨rfl, rfl⟩
        simp only
        go_wp2_with fail
        refine (WGen_any o2 r2 c2 (spotOf m 2) rec 3 _ _ P_5.out).mono ?_; rintro e w9 ⟨rfl, rfl⟩
        rw [HGEN.out]
        go_wp2_with fail
        refine (WSteps_any o2 r2 c2 (spotOf m 2) rec 3 _ _ P_5.out).mono ?_; rintro e w9 ⟨rfl, rfl⟩
        simp only
        go_wp2_with fail
        refine (Peek_any g h _ _ 1 _ K_5.out).mono ?_; rintro e w10 ⟨rfl, hb6⟩
        rw [HW1.out]
        have ee : Ex (fun _ => False) w8 w10 := Ex.of_below hb6
        have K_6 := Lib.hid (K_5.out.ex ee (fun h => h) (fun h => h))
        have P_6 := Lib.hid (P_5.out.ex ee (fun h => h) (fun h => h))
        have L_6 := Lib.hid (Ex.below L_5.out ee (fun k hk => hk.elim))
        clear ee K_5 P_5 L_5 hb6
        go_wp2_with fail
        refine (awake_any _).mono ?_; rintro e wz ⟨rfl, hb⟩
        have LZ := Lib.hid (bl L_6.out hb)
        clear hb
        go_wp2_with fail
        go_ret
        exact ⟨rfl, LZ.out⟩
    · skip
      obtain ⟨h2, hi2, hw1, hfit⟩ := HPT.out.2.2.2 (by trivial)
      have HIN := Lib.hid (show inW ws 1 by unfold inW; rw [HLN.out]; omega)
      have kn : decide ((n : Int) < 2) = false := decide_eq_false (by omega)
      have kh : decide ((n : Int) - 2 - (m : Int) ≥ (m : Int)) = true := decide_eq_true (by omega)
      clear hw1 h2 hi2 hfit
      have hws : wStep (spotOf m 2) rec 3 ⟨0, 3, had, (i : Int), 0, nn⟩ ws t = (⟨1, 3, had, (i : Int) + 1, 0, nn⟩, setF ws 1 (IntKind.u64.wrap (0 + 2)), tickF ws 1 t) := by
        unfold wStep; simp only [ne_eq, if_false, if_true, show ((1 : Int) = 0) = False by simp, show ((2 : Int) = 0) = False by simp, show ((2 : Int) = 1) = False by simp, show ((3 : Int) = 0) = False by simp, show ((3 : Int) = 1) = False by simp, show ((3 : Int) = 2) = False by simp, not_true]; rw [show (spotOf m 2).seq = 1 from rfl, if_pos HIN.out]
      have WI2 := Lib.hid (WI.out.step ws t K0.out.fit)
      rw [hws] at WI2
      have HWS := Lib.hid hws
      clear hws
      have HGEN := Lib.hid (show WS.gen ⟨1, 3, had, (i : Int) + 1, 0, nn⟩ = 1 by simp only [WS.gen, if_true]; decide)
      go_wp2_with fail
      refine (WStep_any g h o2 r2 c2 _ _ (spotOf m 2) rec 3 _ _ K0.out P0.out WI.out (by have o_ := OR3.out; omega)).mono ?_; rintro e w8 ⟨rfl, hk7, ho7, hx7⟩
      rw [HWS.out] at hk7 ho7
      rw [HWS.out]
      simp only
      have ee : Ex (fun k => k = g ∨ k = h ∨ k = o2) wr w8 := hx7
      have L_5 := Lib.hid (Ex.below L0.out ee (fun k hk => by have o_ := OR3.out; have hk : k = g ∨ k = h ∨ k = o2 := hk; omega))
      have K_5 := Lib.hid (hk7)
      have P_5 := Lib.hid (ho7)
      clear ee K0 P0 L0 hx7 hk7 ho7
      have kd1 : wrap64 ((n : Int) - 2) = (n : Int) - 2 := wrap64_in _ (by have := HNN.out; omega)
      have kd2 : wrap64 ((n : Int) - 2 - (m : Int)) = (n : Int) - 2 - (m : Int) := wrap64_in _ (by have := HNN.out; have := HMM.out; omega)
      go_wp2_with fail
      refine (S_done g h o2 r2 c2 [] 0 (spotOf m 2) rec 3 _ _ _ P_5.out (by simp)).mono ?_; rintro e w9 ⟨rfl, rfl⟩
      simp only
      go_wp2_with fail
      refine (WGen_any o2 r2 c2 (spotOf m 2) rec 3 _ _ P_5.out).mono ?_; rintro e w9 ⟨rfl, rfl⟩
      rw [HGEN.out]
      go_wp2_with fail
      refine (awake_any _).mono ?_; rintro e wz ⟨rfl, hb⟩
      have LZ := Lib.hid (bl L_5.out hb)
      clear hb
      go_wp2_with fail
      go_ret
      exact ⟨rfl, LZ.out⟩
end Go.Proofs.Ytpfjadgcnaffgaa.Bank
