/-
  WriteBound, walked. Printed by wip/tools/mkwb.py. No condition. By an AI agent.
-/
import Derived.Test.YtpfjadgcnaffgaaAloneW
namespace Go.Proofs.Ytpfjadgcnaffgaa.Bank
set_option linter.unusedVariables false
set_option linter.unusedSimpArgs false
open Go Go.RowKit Go.Proofs.Ytpfjadgcnaffgaa.Base

set_option maxRecDepth 100000 in
/-- a spot that is none -/
theorem spot_out (words d : Int) (h : words < 1 ∨ 64 < words) (w : World) :
    Calls Try.prog 23 #[.int .i64 words, .int .i64 d] w fun e w' => e = .returned (.tuple #[.agg #[.int .i64 0, .int .i64 0, .int .i64 0, .int .i64 0, .int .i64 0], .pointer none, .bool false]) ∧ Below w.heap.size w w' := by
  have BA := Lib.hid ((Blk.new w 23 #[.int .i64 0, .int .i64 0, .int .i64 0, .int .i64 0, .int .i64 0]))
  have L0 := Lib.hid ((Below.refl w.heap.size w).alloc (Nat.le_refl _) (.cells #[.int .i64 0, .int .i64 0, .int .i64 0, .int .i64 0, .int .i64 0] 23))
  rcases h with h | h
  · have k1 : decide (words < 1) = true := decide_eq_true h
    clear h
    go_enter Try.func23, Try.ntmps23
    go_wp2_with fail
    exact bodyPost_ret (res_cell_tmp2 (fn := Try.f23) rfl _ _ w.heap.size _ _ _ _ rfl BA.out Try.underlying23 rfl (by kernel_rfl)) rfl ⟨rfl, L0.out⟩
  · have k1 : decide (words < 1) = false := decide_eq_false (by omega)
    have k2 : decide (words > 64) = true := decide_eq_true h
    clear h
    go_enter Try.func23, Try.ntmps23
    go_wp2_with fail
    exact bodyPost_ret (res_cell_tmp2 (fn := Try.f23) rfl _ _ w.heap.size _ _ _ _ rfl BA.out Try.underlying23 rfl (by kernel_rfl)) rfl ⟨rfl, L0.out⟩
theorem bound_place {m : Nat} (hm : 1 ≤ m ∧ m ≤ 64) {ws : List Int} (hl : ws.length = 2 + m * 3) (sq n : Int) (hn : 0 ≤ n ∧ n < m) : inW ws (placeF (spotOf m 3) sq n) := by
  unfold placeF
  have hok : (spotOf m 3).AtOk := by unfold Spot.AtOk spotOf; simp only; omega
  have hb := atF_bounds (gen := IntKind.u64.wrap (sq / 2 + 1)) hok
  rw [atF_ok hok]
  unfold spotOf at hb ⊢
  simp only at hb ⊢
  have h3 := Int.emod_lt_of_pos (IntKind.u64.wrap (sq / 2 + 1)) (b := 3) (by omega)
  have h4 : IntKind.u64.wrap (sq / 2 + 1) % 3 * (m : Int) ≤ 2 * (m : Int) := Int.mul_le_mul_of_nonneg_right (by omega) (by omega)
  unfold inW
  rw [hl]
  generalize IntKind.u64.wrap (sq / 2 + 1) % 3 * (m : Int) = z at *
  omega
theorem wordF_setF {ws : List Int} {a x : Int} (h : inW ws a) : wordF (setF ws a x) a = x := by
  have h2 : inW (setF ws a x) a := by unfold inW; rw [setF_len]; exact h
  rw [wordF_in h2, setF_in h, nth_set _ _ _ _ (by have := h.1; have := h.2; omega), if_pos rfl]
/-- how the law's own variables stand -/
def bPhase (x : WS) : Int := if x.next < 2 then x.next else 2

set_option maxRecDepth 100000 in
set_option maxHeartbeats 8000000 in
theorem WriteBound_walk (v : Value) (rec : List Int) (tries : Int) (htr : -9223372036854775808 ≤ tries ∧ tries ≤ 9223372036854775807) (v2 : Value) (ls : List Int) (w : World) (hx : Ints w .u64 v rec) (hxf : ∀ n ∈ rec, (Lit.int .u64 n).wf = true) (hy : Ints w .u64 v2 ls) (hyf : ∀ n ∈ ls, (Lit.int .u64 n).wf = true) : Calls Try.prog 4 #[v, .int .i64 tries, v2] w fun e w' => e = .returned (.bool true) ∧ Below w.heap.size w w' := by
  clear htr
  obtain ⟨A, ca, rfl, -, hf⟩ := hx.form
  obtain ⟨B, cb, rfl, -, hg⟩ := hy.form
  have HXF := Lib.hid (fun y hy => u64_bounds (hxf y hy))
  have HYF := Lib.hid (fun y hy => u64_bounds (hyf y hy))
  clear hx hy hxf hyf
  generalize hm : rec.length = m at *
  generalize hL : ls.length = L at *
  have HM := Lib.hid hm
  have HL := Lib.hid hL
  have HF := Lib.hid hf
  have HG := Lib.hid hg
  clear hm hL hf hg
  by_cases hm0 : (m : Int) < 1 ∨ 64 < (m : Int)
  · have HS := Lib.hid (spot_out m 3 hm0 w)
    rcases hm0 with hm0 | hm0
    · have k1 : decide ((m : Int) < 1) = true := decide_eq_true hm0
      clear hm0
      go_enter Try.func4, Try.ntmps4
      go_wp2_with fail
      refine HS.out.mono ?_; rintro e w1 ⟨rfl, hb⟩
      have L1 := Lib.hid (hb.alloc hb.size (.cells #[.int .i64 0, .int .i64 0, .int .i64 0, .int .i64 0, .int .i64 0] 23))
      clear hb
      go_wp2_with fail
      refine (awake_any _).mono ?_; rintro e w2 ⟨rfl, hb⟩
      have L2 := Lib.hid (bl L1.out hb)
      clear hb
      go_wp2_with fail
      go_ret
      exact ⟨rfl, L2.out⟩
    · have k1 : decide ((m : Int) < 1) = false := decide_eq_false (by omega)
      have k2 : decide ((m : Int) > 64) = true := decide_eq_true hm0
      clear hm0
      go_enter Try.func4, Try.ntmps4
      go_wp2_with fail
      refine HS.out.mono ?_; rintro e w1 ⟨rfl, hb⟩
      have L1 := Lib.hid (hb.alloc hb.size (.cells #[.int .i64 0, .int .i64 0, .int .i64 0, .int .i64 0, .int .i64 0] 23))
      clear hb
      go_wp2_with fail
      refine (awake_any _).mono ?_; rintro e w2 ⟨rfl, hb⟩
      have L2 := Lib.hid (bl L1.out hb)
      clear hb
      go_wp2_with fail
      go_ret
      exact ⟨rfl, L2.out⟩
  have hmm : 1 ≤ m ∧ m ≤ 64 := by omega
  have k1 : decide ((m : Int) < 1) = false := decide_eq_false (by omega)
  have k2 : decide ((m : Int) > 64) = false := decide_eq_false (by omega)
  have HMM := Lib.hid hmm
  clear hm0 hmm
  go_enter Try.func4, Try.ntmps4
  go_wp2_with fail
  have HS := Lib.hid (spot_in m 3 HMM.out (by omega) w)
  rw [show ((3 : Nat) : Int) = 3 from rfl] at HS
  refine HS.out.mono ?_; rintro e w1 ⟨g, h, rfl, hk, h1, h2, h3, hl⟩
  generalize hNN : 2 + m * 3 = N at *
  have HNN := Lib.hid hNN
  have HN5 := Lib.hid (show 4 ≤ N ∧ N ≤ 1026 by have := HMM.out; omega)
  clear hNN HS
  have OR0 := Lib.hid (show w.heap.size ≤ h ∧ h < g ∧ g < w1.heap.size from ⟨h1, h2, h3⟩)
  have K0 := Lib.hid hk
  have L0 := Lib.hid hl
  clear hk hl h1 h2 h3
  have BS := Lib.hid (Blk.new w1 23 #[.int .i64 0, .int .i64 1, .int .i64 2, .int .i64 m, .int .i64 3])
  have ee : Ex (fun _ => False) w1 (w1.alloc (.cells #[.int .i64 0, .int .i64 1, .int .i64 2, .int .i64 m, .int .i64 3] 23)) := (Ex.refl _ w1).alloc _
  have K1 := Lib.hid (K0.out.ex ee (fun h => h) (fun h => h))
  have L1 := Lib.hid (Ex.below L0.out ee (fun k hk => hk.elim))
  have S1 := Lib.hid (show w1.heap.size < (w1.alloc (.cells #[.int .i64 0, .int .i64 1, .int .i64 2, .int .i64 m, .int .i64 3] 23)).heap.size by simp)
  clear ee K0 L0
  by_cases ht0 : tries < 1
  · have k3 : decide (tries < 1) = true := decide_eq_true ht0
    clear ht0
    go_wp2_with fail
    refine (awake_any _).mono ?_; rintro e wz ⟨rfl, hb⟩
    have LZ := Lib.hid (bl L1.out hb)
    clear hb
    go_wp2_with fail
    go_ret
    exact ⟨rfl, LZ.out⟩
  by_cases ht1 : 16 < tries
  · have k3 : decide (tries < 1) = false := decide_eq_false ht0
    have k4 : decide (tries > 16) = true := decide_eq_true ht1
    clear ht0 ht1
    go_wp2_with fail
    refine (awake_any _).mono ?_; rintro e wz ⟨rfl, hb⟩
    have LZ := Lib.hid (bl L1.out hb)
    clear hb
    go_wp2_with fail
    go_ret
    exact ⟨rfl, LZ.out⟩
  by_cases hl1 : 200 < L
  · have k3 : decide (tries < 1) = false := decide_eq_false ht0
    have k4 : decide (tries > 16) = false := decide_eq_false ht1
    have k5 : decide ((L : Int) > 200) = true := decide_eq_true (by omega)
    clear ht0 ht1 hl1
    go_wp2_with fail
    refine (awake_any _).mono ?_; rintro e wz ⟨rfl, hb⟩
    have LZ := Lib.hid (bl L1.out hb)
    clear hb
    go_wp2_with fail
    go_ret
    exact ⟨rfl, LZ.out⟩
  have k3 : decide (tries < 1) = false := decide_eq_false ht0
  have k4 : decide (tries > 16) = false := decide_eq_false ht1
  have k5 : decide ((L : Int) > 200) = false := decide_eq_false (by omega)
  have HT := Lib.hid (show 1 ≤ tries ∧ tries ≤ 16 by omega)
  have HL2 := Lib.hid (show L ≤ 200 by omega)
  clear ht0 ht1 hl1
  go_wp2_with fail
  clear k1 k2 k3 k4 k5
  generalize w1.alloc (.cells #[.int .i64 0, .int .i64 1, .int .i64 2, .int .i64 m, .int .i64 3] 23) = w2 at *
  generalize hsb : w1.heap.size = sb at *
  have ORD := Lib.hid (show w.heap.size ≤ h ∧ h < g ∧ g < sb ∧ w.heap.size < sb from ⟨OR0.out.1, OR0.out.2.1, OR0.out.2.2, by have := OR0.out; omega⟩)
  clear hsb OR0
  obtain ⟨ba, oa, rfl, hba, hca⟩ := HF.out (by intro hh; have := HM.out; rw [hh] at this; simp at this; have := HMM.out; omega)
  have HBA := Lib.hid (show ba < w2.heap.size from Nat.lt_of_lt_of_le hba L1.out.size)
  have HCA := Lib.hid (fun i hi => (L1.out.cell (p := ⟨ba, oa + i, none⟩) hba).trans (hca i (by omega)))
  clear hba hca
  have hmay : mayF (spotOf m 3) tries = true := spot_right (d := 3) HMM.out (by omega) tries HT.out
  have HMAY := Lib.hid hmay
  clear hmay
  have HN := Lib.hid (WNew_in (spotOf m 3) tries ba oa m ca rec w2 HMAY.out rfl HM.out HBA.out (fun i hi => HCA.out i hi))
  have HMO := Lib.hid (show mostF (spotOf m 3) tries = 2 * tries + m + 1 by unfold mostF; rw [if_pos HMAY.out]; rfl)
  unfold Spot.val spotOf at HN
  simp only at HN
  have Sq0 := (BS.out).cell 0
  have Sq1 := (BS.out).cell 1
  have Sq2 := (BS.out).cell 2
  have Sq3 := (BS.out).cell 3
  have Sq4 := (BS.out).cell 4
  simp only [List.getElem?_toArray, List.getElem?_cons_succ, List.getElem?_cons_zero] at Sq0 Sq1 Sq2 Sq3 Sq4
  go_wp2_with fail
  refine HN.out.mono ?_; rintro e w4 ⟨op, r, cc, rfl, ho, q1, q2, hl5⟩
  have OR2 := Lib.hid (show w.heap.size ≤ h ∧ h < g ∧ g < sb ∧ sb < r ∧ r < op from ⟨ORD.out.1, ORD.out.2.1, ORD.out.2.2.1, Nat.lt_of_lt_of_le S1.out q1, q2⟩)
  clear HN q1 q2 ORD S1
  clear Sq0 Sq1 Sq2 Sq3 Sq4
  have ee : Ex (fun _ => False) w2 w4 := Ex.of_below hl5
  have K_1 := Lib.hid (K1.out.ex ee (fun h => h) (fun h => h))
  have S_1 := Lib.hid (BS.out.ex ee (fun h => h))
  have L_1 := Lib.hid (Ex.below L1.out ee (fun k hk => hk.elim))
  have O_1 := Lib.hid (ho)
  clear ee K1 BS L1 hl5 ho
  have Sq0 := (S_1.out).cell 0
  have Sq1 := (S_1.out).cell 1
  have Sq2 := (S_1.out).cell 2
  have Sq3 := (S_1.out).cell 3
  have Sq4 := (S_1.out).cell 4
  simp only [List.getElem?_toArray, List.getElem?_cons_succ, List.getElem?_cons_zero] at Sq0 Sq1 Sq2 Sq3 Sq4
  go_wp2_with fail
  have HMS := Lib.hid (WMost_any (spotOf m 3) tries w4)
  rw [HMO.out] at HMS
  unfold Spot.val spotOf at HMS
  simp only at HMS
  refine HMS.out.mono ?_; rintro e w5 ⟨rfl, hl5⟩
  clear HMS
  clear Sq0 Sq1 Sq2 Sq3 Sq4
  have ee : Ex (fun _ => False) w4 w5 := Ex.of_below hl5
  have K_2 := Lib.hid (K_1.out.ex ee (fun h => h) (fun h => h))
  have S_2 := Lib.hid (S_1.out.ex ee (fun h => h))
  have O_2 := Lib.hid (O_1.out.ex ee (fun h => h) (fun h => h))
  have L_2 := Lib.hid (Ex.below L_1.out ee (fun k hk => hk.elim))
  clear ee K_1 S_1 O_1 L_1 hl5
  go_wp2_with fail
  have HWI := Lib.hid (WInv.zero_ (s := spotOf m 3) (rec := rec) HMAY.out (by rw [HM.out]; rfl) HXF.out)
  obtain ⟨wk, rfl⟩ : ∃ wk : World, wk = w5 := ⟨_, rfl⟩
  go_loopw [13, 14, 15, 16, 17, 18] (fun pv fv sv iv nv hv wr => ∃ (i : Nat) (sw : Int) (x : WS) (ws : List Int) (t : Int), i ≤ L ∧ pv = .int .i64 (bPhase x) ∧ fv = .int .i64 x.had ∧ sv = .int .u64 sw ∧ iv = .int .i64 i ∧ BankAt wr g h ws t ∧ OpAt wr op r cc (spotOf m 3) rec tries x ∧ WInv (spotOf m 3) rec tries x ∧ (ws.length = N ∧ x.how = 0 ∧ x.steps = i ∧ (x.next ≠ 0 → sw = x.sq)) ∧ Below w.heap.size w wr) (fun pv fv sv iv nv hv _ => L - (intOf iv).toNat)
  case atStart => exact ⟨0, 0, WS.zero, zeros N, 0, by omega, rfl, rfl, rfl, rfl, K_2.out, O_2.out, HWI.out, ⟨zeros_len _, rfl, rfl, fun h => absurd rfl h⟩, L_2.out⟩
  case round =>
    clear K_2 S_2 O_2 L_2 HWI HN5
    obtain ⟨i, sw, x, ws, t, hi, rfl, rfl, rfl, rfl, hbk, ho, hwi, hp, hl⟩ := hrel
    have K0 := Lib.hid hbk
    have O0 := Lib.hid ho
    have WI := Lib.hid hwi
    have HP := Lib.hid hp
    have L0 := Lib.hid hl
    clear hbk ho hwi hp hl
    by_cases hlt : i < L
    · have kd : decide ((i : Int) < (L : Int)) = true := decide_eq_true (by omega)
      have ki0 : (0 : Int) ≤ (i : Int) := by omega
      have ki1 : (i : Int) < (L : Int) := by omega
      obtain ⟨bb, ob, rfl, hbb, hcb⟩ := HG.out (by intro hh; have := HL.out; rw [hh] at this; simp at this; omega)
      have HBB := Lib.hid hbb
      have pl := (L0.out.cell (p := ⟨bb, ob + i, none⟩) hbb).trans (hcb i (by omega))
      have HLI := Lib.hid (HYF.out (nth ls i) (nth_mem (by have := HL.out; omega)))
      clear hcb
      generalize nth ls i = li at *
      clear hbb
      have HI := Lib.hid (show i < L from hlt)
      clear hi hlt
      have HNX := Lib.hid WI.out.next
      obtain ⟨how, next, had, steps, sq, nn⟩ := x
      have hh0 : how = 0 := HP.out.2.1
      subst hh0
      have hs0 : steps = (i : Int) := HP.out.2.2.1
      subst hs0
      have hnx := HNX.out
      simp only at hnx
      have HRD := Lib.hid WI.out.had
      have HST := Lib.hid WI.out.steps
      have HSN := Lib.hid WI.out.n
      clear HNX
      have HDT := Lib.hid (show had < tries from HRD.out.2 rfl)
      have ki5 : (i : Int) ≤ 200 := by have := HI.out; have := HL2.out; omega
      have kh5 : had ≤ 16 := by have h1 := HRD.out; simp only at h1; have := h1.2 trivial; have := HT.out; omega
      have kh6 : 0 ≤ had := HRD.out.1
      clear ki1
      rcases hnx with rfl | rfl | rfl | rfl
      · have kp : bPhase ⟨0, 0, had, (i : Int), sq, nn⟩ = 0 := by unfold bPhase; simp
        rw [kp]
        clear kp
        have kin : inW ws 1 := by unfold inW; rw [HP.out.1]; have := HNN.out; have := HMM.out; omega
        have HIN := Lib.hid kin
        clear kin
        by_cases hz : li = 0
        · have kz : (li != 0) = false := by rw [hz]; rfl
          clear hz
          go_wp2_with fail
          have HP2 := Lib.hid (show ws.length = N from HP.out.1)
          have HR := Lib.hid (wordF_range K0.out 1)
          generalize hnow : wordF ws 1 = now at *
          have HNOW := Lib.hid hnow
          clear hnow
          by_cases hodd : now % 2 = 0
          · have ko : (now.tmod 2 == 1) = false := beq_eq_false_iff_ne.2 (by rw [Int.tmod_eq_emod_of_nonneg HR.out.1]; omega)
            have hws : wStep (spotOf m 3) rec tries ⟨0, 0, had, (i : Int), sq, nn⟩ ws t = (⟨0, 1, had, (i : Int) + 1, now, nn⟩, ws, tickF ws 1 t) := by
              unfold wStep; simp only [ne_eq, not_true, if_false, if_true]; rw [show (spotOf m 3).seq = 1 from rfl, if_pos HIN.out, HNOW.out, if_pos hodd]
            have WI2 := Lib.hid (WI.out.step ws t K0.out.fit)
            rw [hws] at WI2
            have HWS := Lib.hid hws
            have HODD := Lib.hid hodd
            have ks : (had == tries) = false := beq_eq_false_iff_ne.2 (by have := HDT.out; omega)
            clear hws hodd
            have kmost : decide ((i : Int) + 1 > 2 * tries + (m : Int) + 1) = false := decide_eq_false (by have h9 : (i : Int) + 1 ≤ 2 * tries + (m : Int) + 1 := WI2.out.steps.2.2.2.2; omega)
            have kmost2 : decide (2 * tries + (m : Int) < (i : Int)) = false := decide_eq_false (by have h9 : (i : Int) + 1 ≤ 2 * tries + (m : Int) + 1 := WI2.out.steps.2.2.2.2; omega)
            have kmost3 : (i : Int) ≤ 2 * tries + (m : Int) := by have h9 : (i : Int) + 1 ≤ 2 * tries + (m : Int) + 1 := WI2.out.steps.2.2.2.2; omega
            refine (Peek_any g h _ _ 1 _ K0.out).mono ?_; rintro e w6 ⟨rfl, hb6⟩
            rw [HNOW.out]
            have ee : Ex (fun _ => False) wr w6 := Ex.of_below hb6
            have K_3 := Lib.hid (K0.out.ex ee (fun h => h) (fun h => h))
            have O_3 := Lib.hid (O0.out.ex ee (fun h => h) (fun h => h))
            have L_3 := Lib.hid (Ex.below L0.out ee (fun k hk => hk.elim))
            clear ee K0 O0 L0 hb6
            go_wp2_with fail
            refine (WStep_any g h op r cc _ _ (spotOf m 3) rec tries _ _ K_3.out O_3.out WI.out (by have o_ := OR2.out; omega)).mono ?_; rintro e w7 ⟨rfl, hk7, ho7, hx7⟩
            rw [HWS.out] at hk7 ho7
            rw [HWS.out]
            simp only
            have ee : Ex (fun k => k = g ∨ k = h ∨ k = op) w6 w7 := hx7
            have L_4 := Lib.hid (Ex.below L_3.out ee (fun k hk => by have o_ := OR2.out; have hk : k = g ∨ k = h ∨ k = op := hk; omega))
            have K_4 := Lib.hid (hk7)
            have O_4 := Lib.hid (ho7)
            clear ee K_3 O_3 L_3 hx7 hk7 ho7
            go_wp2_with fail
            refine (WSteps_any op r cc (spotOf m 3) rec tries _ _ O_4.out).mono ?_; rintro e w8 ⟨rfl, rfl⟩
            try simp only [WS.again]
            go_wp2_with fail
            refine (WSteps_any op r cc (spotOf m 3) rec tries _ _ O_4.out).mono ?_; rintro e w8 ⟨rfl, rfl⟩
            try simp only [WS.again]
            go_wp2_with fail
            exact ⟨⟨i + 1, now, _, _, _, by have := HI.out; omega, rfl, rfl, rfl, by go_num, K_4.out, O_4.out, WI2.out, ⟨HP2.out, rfl, by simp, fun _ => rfl⟩, L_4.out⟩, by have := HI.out; simp [intOf]; omega⟩
          · have ko : (now.tmod 2 == 1) = true := beq_iff_eq.2 (by rw [Int.tmod_eq_emod_of_nonneg HR.out.1]; omega)
            have hws : wStep (spotOf m 3) rec tries ⟨0, 0, had, (i : Int), sq, nn⟩ ws t = (WS.again tries ⟨0, 0, had, (i : Int), now, nn⟩, ws, tickF ws 1 t) := by
              unfold wStep; simp only [ne_eq, not_true, if_false, if_true]; rw [show (spotOf m 3).seq = 1 from rfl, if_pos HIN.out, HNOW.out, if_neg hodd]
            have WI2 := Lib.hid (WI.out.step ws t K0.out.fit)
            rw [hws] at WI2
            have HWS := Lib.hid hws
            clear hws hodd
            by_cases hsp : had + 1 = tries
            · have ks : (had + 1 == tries) = true := beq_iff_eq.2 hsp
              simp only [WS.again, if_pos hsp] at HWS WI2
              have HSP := Lib.hid hsp
              clear hsp
              have kmost : decide ((i : Int) + 1 > 2 * tries + (m : Int) + 1) = false := decide_eq_false (by have h9 : (i : Int) + 1 ≤ 2 * tries + (m : Int) + 1 := WI2.out.steps.2.2.2.2; omega)
              have kmost2 : decide (2 * tries + (m : Int) < (i : Int)) = false := decide_eq_false (by have h9 : (i : Int) + 1 ≤ 2 * tries + (m : Int) + 1 := WI2.out.steps.2.2.2.2; omega)
              have kmost3 : (i : Int) ≤ 2 * tries + (m : Int) := by have h9 : (i : Int) + 1 ≤ 2 * tries + (m : Int) + 1 := WI2.out.steps.2.2.2.2; omega
              refine (Peek_any g h _ _ 1 _ K0.out).mono ?_; rintro e w6 ⟨rfl, hb6⟩
              rw [HNOW.out]
              have ee : Ex (fun _ => False) wr w6 := Ex.of_below hb6
              have K_3 := Lib.hid (K0.out.ex ee (fun h => h) (fun h => h))
              have O_3 := Lib.hid (O0.out.ex ee (fun h => h) (fun h => h))
              have L_3 := Lib.hid (Ex.below L0.out ee (fun k hk => hk.elim))
              clear ee K0 O0 L0 hb6
              go_wp2_with fail
              refine (WStep_any g h op r cc _ _ (spotOf m 3) rec tries _ _ K_3.out O_3.out WI.out (by have o_ := OR2.out; omega)).mono ?_; rintro e w7 ⟨rfl, hk7, ho7, hx7⟩
              rw [HWS.out] at hk7 ho7
              rw [HWS.out]
              simp only
              have ee : Ex (fun k => k = g ∨ k = h ∨ k = op) w6 w7 := hx7
              have L_4 := Lib.hid (Ex.below L_3.out ee (fun k hk => by have o_ := OR2.out; have hk : k = g ∨ k = h ∨ k = op := hk; omega))
              have K_4 := Lib.hid (hk7)
              have O_4 := Lib.hid (ho7)
              clear ee K_3 O_3 L_3 hx7 hk7 ho7
              go_wp2_with fail
              refine (WSteps_any op r cc (spotOf m 3) rec tries _ _ O_4.out).mono ?_; rintro e w8 ⟨rfl, rfl⟩
              try simp only [WS.again]
              go_wp2_with fail
              refine (WSteps_any op r cc (spotOf m 3) rec tries _ _ O_4.out).mono ?_; rintro e w8 ⟨rfl, rfl⟩
              try simp only [WS.again]
              go_wp2_with fail
              refine (awake_any _).mono ?_; rintro e wz ⟨rfl, hb⟩
              have LZ := Lib.hid (bl L_4.out hb)
              clear hb
              go_wp2_with fail
              go_ret
              exact ⟨rfl, LZ.out⟩
            · have ks : (had + 1 == tries) = false := beq_eq_false_iff_ne.2 hsp
              simp only [WS.again, if_neg hsp] at HWS WI2
              have HSP := Lib.hid hsp
              clear hsp
              have kmost : decide ((i : Int) + 1 > 2 * tries + (m : Int) + 1) = false := decide_eq_false (by have h9 : (i : Int) + 1 ≤ 2 * tries + (m : Int) + 1 := WI2.out.steps.2.2.2.2; omega)
              have kmost2 : decide (2 * tries + (m : Int) < (i : Int)) = false := decide_eq_false (by have h9 : (i : Int) + 1 ≤ 2 * tries + (m : Int) + 1 := WI2.out.steps.2.2.2.2; omega)
              have kmost3 : (i : Int) ≤ 2 * tries + (m : Int) := by have h9 : (i : Int) + 1 ≤ 2 * tries + (m : Int) + 1 := WI2.out.steps.2.2.2.2; omega
              refine (Peek_any g h _ _ 1 _ K0.out).mono ?_; rintro e w6 ⟨rfl, hb6⟩
              rw [HNOW.out]
              have ee : Ex (fun _ => False) wr w6 := Ex.of_below hb6
              have K_3 := Lib.hid (K0.out.ex ee (fun h => h) (fun h => h))
              have O_3 := Lib.hid (O0.out.ex ee (fun h => h) (fun h => h))
              have L_3 := Lib.hid (Ex.below L0.out ee (fun k hk => hk.elim))
              clear ee K0 O0 L0 hb6
              go_wp2_with fail
              refine (WStep_any g h op r cc _ _ (spotOf m 3) rec tries _ _ K_3.out O_3.out WI.out (by have o_ := OR2.out; omega)).mono ?_; rintro e w7 ⟨rfl, hk7, ho7, hx7⟩
              rw [HWS.out] at hk7 ho7
              rw [HWS.out]
              simp only
              have ee : Ex (fun k => k = g ∨ k = h ∨ k = op) w6 w7 := hx7
              have L_4 := Lib.hid (Ex.below L_3.out ee (fun k hk => by have o_ := OR2.out; have hk : k = g ∨ k = h ∨ k = op := hk; omega))
              have K_4 := Lib.hid (hk7)
              have O_4 := Lib.hid (ho7)
              clear ee K_3 O_3 L_3 hx7 hk7 ho7
              go_wp2_with fail
              refine (WSteps_any op r cc (spotOf m 3) rec tries _ _ O_4.out).mono ?_; rintro e w8 ⟨rfl, rfl⟩
              try simp only [WS.again]
              go_wp2_with fail
              refine (WSteps_any op r cc (spotOf m 3) rec tries _ _ O_4.out).mono ?_; rintro e w8 ⟨rfl, rfl⟩
              try simp only [WS.again]
              go_wp2_with fail
              exact ⟨⟨i + 1, sw, _, _, _, by have := HI.out; omega, rfl, rfl, rfl, by go_num, K_4.out, O_4.out, WI2.out, ⟨HP2.out, rfl, by simp, fun h => absurd rfl h⟩, L_4.out⟩, by have := HI.out; simp [intOf]; omega⟩
        · have kz : (li != 0) = true := by simpa using hz
          clear hz
          go_wp2_with fail
          refine (Store_any g h _ _ 1 li _ K0.out HLI.out).mono ?_; rintro e ws9 ⟨rfl, hk6, hx6⟩
          rw [errF_in HIN.out]
          have ee : Ex (fun k => k = g ∨ k = h) wr ws9 := (Ex.of_ex2 hx6 (.inl rfl) (.inr rfl))
          have O_3 := Lib.hid (O0.out.ex ee (by have o_ := OR2.out; omega) (by have o_ := OR2.out; omega))
          have L_3 := Lib.hid (Ex.below L0.out ee (fun k hk => by have o_ := OR2.out; have hk : k = g ∨ k = h := hk; omega))
          have K_3 := Lib.hid (hk6)
          clear ee K0 O0 L0 hx6 hk6 pl
          go_wp2_with fail
          have HP2 := Lib.hid (show (setF ws 1 li).length = N by rw [setF_len]; exact HP.out.1)
          have HIN2 := Lib.hid (show inW (setF ws 1 li) 1 by unfold inW; rw [HP2.out, ← HP.out.1]; exact HIN.out)
          generalize setF ws 1 li = ws1 at *
          generalize tickF ws 1 t = t1 at *
          clear HIN HP
          have HIN := HIN2
          clear HIN2
          have HR := Lib.hid (wordF_range K_3.out 1)
          generalize hnow : wordF ws1 1 = now at *
          have HNOW := Lib.hid hnow
          clear hnow
          by_cases hodd : now % 2 = 0
          · have ko : (now.tmod 2 == 1) = false := beq_eq_false_iff_ne.2 (by rw [Int.tmod_eq_emod_of_nonneg HR.out.1]; omega)
            have hws : wStep (spotOf m 3) rec tries ⟨0, 0, had, (i : Int), sq, nn⟩ ws1 t1 = (⟨0, 1, had, (i : Int) + 1, now, nn⟩, ws1, tickF ws1 1 t1) := by
              unfold wStep; simp only [ne_eq, not_true, if_false, if_true]; rw [show (spotOf m 3).seq = 1 from rfl, if_pos HIN.out, HNOW.out, if_pos hodd]
            have WI2 := Lib.hid (WI.out.step ws1 t1 K_3.out.fit)
            rw [hws] at WI2
            have HWS := Lib.hid hws
            have HODD := Lib.hid hodd
            have ks : (had == tries) = false := beq_eq_false_iff_ne.2 (by have := HDT.out; omega)
            clear hws hodd
            have kmost : decide ((i : Int) + 1 > 2 * tries + (m : Int) + 1) = false := decide_eq_false (by have h9 : (i : Int) + 1 ≤ 2 * tries + (m : Int) + 1 := WI2.out.steps.2.2.2.2; omega)
            have kmost2 : decide (2 * tries + (m : Int) < (i : Int)) = false := decide_eq_false (by have h9 : (i : Int) + 1 ≤ 2 * tries + (m : Int) + 1 := WI2.out.steps.2.2.2.2; omega)
            have kmost3 : (i : Int) ≤ 2 * tries + (m : Int) := by have h9 : (i : Int) + 1 ≤ 2 * tries + (m : Int) + 1 := WI2.out.steps.2.2.2.2; omega
            refine (Peek_any g h _ _ 1 _ K_3.out).mono ?_; rintro e w6 ⟨rfl, hb6⟩
            rw [HNOW.out]
            have ee : Ex (fun _ => False) ws9 w6 := Ex.of_below hb6
            have K_4 := Lib.hid (K_3.out.ex ee (fun h => h) (fun h => h))
            have O_4 := Lib.hid (O_3.out.ex ee (fun h => h) (fun h => h))
            have L_4 := Lib.hid (Ex.below L_3.out ee (fun k hk => hk.elim))
            clear ee K_3 O_3 L_3 hb6
            go_wp2_with fail
            refine (WStep_any g h op r cc _ _ (spotOf m 3) rec tries _ _ K_4.out O_4.out WI.out (by have o_ := OR2.out; omega)).mono ?_; rintro e w7 ⟨rfl, hk7, ho7, hx7⟩
            rw [HWS.out] at hk7 ho7
            rw [HWS.out]
            simp only
            have ee : Ex (fun k => k = g ∨ k = h ∨ k = op) w6 w7 := hx7
            have L_5 := Lib.hid (Ex.below L_4.out ee (fun k hk => by have o_ := OR2.out; have hk : k = g ∨ k = h ∨ k = op := hk; omega))
            have K_5 := Lib.hid (hk7)
            have O_5 := Lib.hid (ho7)
            clear ee K_4 O_4 L_4 hx7 hk7 ho7
            go_wp2_with fail
            refine (WSteps_any op r cc (spotOf m 3) rec tries _ _ O_5.out).mono ?_; rintro e w8 ⟨rfl, rfl⟩
            try simp only [WS.again]
            go_wp2_with fail
            refine (WSteps_any op r cc (spotOf m 3) rec tries _ _ O_5.out).mono ?_; rintro e w8 ⟨rfl, rfl⟩
            try simp only [WS.again]
            go_wp2_with fail
            exact ⟨⟨i + 1, now, _, _, _, by have := HI.out; omega, rfl, rfl, rfl, by go_num, K_5.out, O_5.out, WI2.out, ⟨HP2.out, rfl, by simp, fun _ => rfl⟩, L_5.out⟩, by have := HI.out; simp [intOf]; omega⟩
          · have ko : (now.tmod 2 == 1) = true := beq_iff_eq.2 (by rw [Int.tmod_eq_emod_of_nonneg HR.out.1]; omega)
            have hws : wStep (spotOf m 3) rec tries ⟨0, 0, had, (i : Int), sq, nn⟩ ws1 t1 = (WS.again tries ⟨0, 0, had, (i : Int), now, nn⟩, ws1, tickF ws1 1 t1) := by
              unfold wStep; simp only [ne_eq, not_true, if_false, if_true]; rw [show (spotOf m 3).seq = 1 from rfl, if_pos HIN.out, HNOW.out, if_neg hodd]
            have WI2 := Lib.hid (WI.out.step ws1 t1 K_3.out.fit)
            rw [hws] at WI2
            have HWS := Lib.hid hws
            clear hws hodd
            by_cases hsp : had + 1 = tries
            · have ks : (had + 1 == tries) = true := beq_iff_eq.2 hsp
              simp only [WS.again, if_pos hsp] at HWS WI2
              have HSP := Lib.hid hsp
              clear hsp
              have kmost : decide ((i : Int) + 1 > 2 * tries + (m : Int) + 1) = false := decide_eq_false (by have h9 : (i : Int) + 1 ≤ 2 * tries + (m : Int) + 1 := WI2.out.steps.2.2.2.2; omega)
              have kmost2 : decide (2 * tries + (m : Int) < (i : Int)) = false := decide_eq_false (by have h9 : (i : Int) + 1 ≤ 2 * tries + (m : Int) + 1 := WI2.out.steps.2.2.2.2; omega)
              have kmost3 : (i : Int) ≤ 2 * tries + (m : Int) := by have h9 : (i : Int) + 1 ≤ 2 * tries + (m : Int) + 1 := WI2.out.steps.2.2.2.2; omega
              refine (Peek_any g h _ _ 1 _ K_3.out).mono ?_; rintro e w6 ⟨rfl, hb6⟩
              rw [HNOW.out]
              have ee : Ex (fun _ => False) ws9 w6 := Ex.of_below hb6
              have K_4 := Lib.hid (K_3.out.ex ee (fun h => h) (fun h => h))
              have O_4 := Lib.hid (O_3.out.ex ee (fun h => h) (fun h => h))
              have L_4 := Lib.hid (Ex.below L_3.out ee (fun k hk => hk.elim))
              clear ee K_3 O_3 L_3 hb6
              go_wp2_with fail
              refine (WStep_any g h op r cc _ _ (spotOf m 3) rec tries _ _ K_4.out O_4.out WI.out (by have o_ := OR2.out; omega)).mono ?_; rintro e w7 ⟨rfl, hk7, ho7, hx7⟩
              rw [HWS.out] at hk7 ho7
              rw [HWS.out]
              simp only
              have ee : Ex (fun k => k = g ∨ k = h ∨ k = op) w6 w7 := hx7
              have L_5 := Lib.hid (Ex.below L_4.out ee (fun k hk => by have o_ := OR2.out; have hk : k = g ∨ k = h ∨ k = op := hk; omega))
              have K_5 := Lib.hid (hk7)
              have O_5 := Lib.hid (ho7)
              clear ee K_4 O_4 L_4 hx7 hk7 ho7
              go_wp2_with fail
              refine (WSteps_any op r cc (spotOf m 3) rec tries _ _ O_5.out).mono ?_; rintro e w8 ⟨rfl, rfl⟩
              try simp only [WS.again]
              go_wp2_with fail
              refine (WSteps_any op r cc (spotOf m 3) rec tries _ _ O_5.out).mono ?_; rintro e w8 ⟨rfl, rfl⟩
              try simp only [WS.again]
              go_wp2_with fail
              refine (awake_any _).mono ?_; rintro e wz ⟨rfl, hb⟩
              have LZ := Lib.hid (bl L_5.out hb)
              clear hb
              go_wp2_with fail
              go_ret
              exact ⟨rfl, LZ.out⟩
            · have ks : (had + 1 == tries) = false := beq_eq_false_iff_ne.2 hsp
              simp only [WS.again, if_neg hsp] at HWS WI2
              have HSP := Lib.hid hsp
              clear hsp
              have kmost : decide ((i : Int) + 1 > 2 * tries + (m : Int) + 1) = false := decide_eq_false (by have h9 : (i : Int) + 1 ≤ 2 * tries + (m : Int) + 1 := WI2.out.steps.2.2.2.2; omega)
              have kmost2 : decide (2 * tries + (m : Int) < (i : Int)) = false := decide_eq_false (by have h9 : (i : Int) + 1 ≤ 2 * tries + (m : Int) + 1 := WI2.out.steps.2.2.2.2; omega)
              have kmost3 : (i : Int) ≤ 2 * tries + (m : Int) := by have h9 : (i : Int) + 1 ≤ 2 * tries + (m : Int) + 1 := WI2.out.steps.2.2.2.2; omega
              refine (Peek_any g h _ _ 1 _ K_3.out).mono ?_; rintro e w6 ⟨rfl, hb6⟩
              rw [HNOW.out]
              have ee : Ex (fun _ => False) ws9 w6 := Ex.of_below hb6
              have K_4 := Lib.hid (K_3.out.ex ee (fun h => h) (fun h => h))
              have O_4 := Lib.hid (O_3.out.ex ee (fun h => h) (fun h => h))
              have L_4 := Lib.hid (Ex.below L_3.out ee (fun k hk => hk.elim))
              clear ee K_3 O_3 L_3 hb6
              go_wp2_with fail
              refine (WStep_any g h op r cc _ _ (spotOf m 3) rec tries _ _ K_4.out O_4.out WI.out (by have o_ := OR2.out; omega)).mono ?_; rintro e w7 ⟨rfl, hk7, ho7, hx7⟩
              rw [HWS.out] at hk7 ho7
              rw [HWS.out]
              simp only
              have ee : Ex (fun k => k = g ∨ k = h ∨ k = op) w6 w7 := hx7
              have L_5 := Lib.hid (Ex.below L_4.out ee (fun k hk => by have o_ := OR2.out; have hk : k = g ∨ k = h ∨ k = op := hk; omega))
              have K_5 := Lib.hid (hk7)
              have O_5 := Lib.hid (ho7)
              clear ee K_4 O_4 L_4 hx7 hk7 ho7
              go_wp2_with fail
              refine (WSteps_any op r cc (spotOf m 3) rec tries _ _ O_5.out).mono ?_; rintro e w8 ⟨rfl, rfl⟩
              try simp only [WS.again]
              go_wp2_with fail
              refine (WSteps_any op r cc (spotOf m 3) rec tries _ _ O_5.out).mono ?_; rintro e w8 ⟨rfl, rfl⟩
              try simp only [WS.again]
              go_wp2_with fail
              exact ⟨⟨i + 1, sw, _, _, _, by have := HI.out; omega, rfl, rfl, rfl, by go_num, K_5.out, O_5.out, WI2.out, ⟨HP2.out, rfl, by simp, fun h => absurd rfl h⟩, L_5.out⟩, by have := HI.out; simp [intOf]; omega⟩
      · have kp : bPhase ⟨0, 1, had, (i : Int), sq, nn⟩ = 1 := by unfold bPhase; simp
        rw [kp]
        clear kp
        have hsw : sw = sq := HP.out.2.2.2 (by simp)
        subst hsw
        have kin : inW ws 1 := by unfold inW; rw [HP.out.1]; have := HNN.out; have := HMM.out; omega
        have HIN := Lib.hid kin
        clear kin
        by_cases hz : li = 0
        · have kz : (li != 0) = false := by rw [hz]; rfl
          clear hz
          go_wp2_with fail
          have HP2 := Lib.hid (show ws.length = N from HP.out.1)
          have HR := Lib.hid (wordF_range K0.out 1)
          generalize hnow : wordF ws 1 = now at *
          have HNOW := Lib.hid hnow
          clear hnow
          by_cases heq : now = sw
          · have ko : (now != sw) = false := by rw [heq]; simp
            have hws : wStep (spotOf m 3) rec tries ⟨0, 1, had, (i : Int), sw, nn⟩ ws t = (⟨0, 2, had, (i : Int) + 1, sw, nn⟩, setF ws 1 (IntKind.u64.wrap (sw + 1)), tickF ws 1 t) := by
              unfold wStep; simp only [ne_eq, if_false, if_true, show ((1 : Int) = 0) = False by simp, not_true]; rw [show (spotOf m 3).seq = 1 from rfl, if_pos HIN.out, show casB ws 1 sw = true by unfold casB; rw [HNOW.out, heq]; simp [HIN.out], if_pos rfl]
            have WI2 := Lib.hid (WI.out.step ws t K0.out.fit)
            rw [hws] at WI2
            have HWS := Lib.hid hws
            have HEQ := Lib.hid heq
            have HSEE := Lib.hid (show wordF (setF ws 1 (IntKind.u64.wrap (sw + 1))) 1 = IntKind.u64.wrap (sw + 1) from wordF_setF HIN.out)
            have HP3 := Lib.hid (show (setF ws 1 (IntKind.u64.wrap (sw + 1))).length = N by rw [setF_len]; exact HP2.out)
            generalize setF ws 1 (IntKind.u64.wrap (sw + 1)) = ws3 at *
            clear HP2
            have HP2 := HP3
            have ks : (had == tries) = false := beq_eq_false_iff_ne.2 (by have := HDT.out; omega)
            clear hws heq HP3
            have kmost : decide ((i : Int) + 1 > 2 * tries + (m : Int) + 1) = false := decide_eq_false (by have h9 : (i : Int) + 1 ≤ 2 * tries + (m : Int) + 1 := WI2.out.steps.2.2.2.2; omega)
            have kmost2 : decide (2 * tries + (m : Int) < (i : Int)) = false := decide_eq_false (by have h9 : (i : Int) + 1 ≤ 2 * tries + (m : Int) + 1 := WI2.out.steps.2.2.2.2; omega)
            have kmost3 : (i : Int) ≤ 2 * tries + (m : Int) := by have h9 : (i : Int) + 1 ≤ 2 * tries + (m : Int) + 1 := WI2.out.steps.2.2.2.2; omega
            refine (Peek_any g h _ _ 1 _ K0.out).mono ?_; rintro e w6 ⟨rfl, hb6⟩
            rw [HNOW.out]
            have ee : Ex (fun _ => False) wr w6 := Ex.of_below hb6
            have K_3 := Lib.hid (K0.out.ex ee (fun h => h) (fun h => h))
            have O_3 := Lib.hid (O0.out.ex ee (fun h => h) (fun h => h))
            have L_3 := Lib.hid (Ex.below L0.out ee (fun k hk => hk.elim))
            clear ee K0 O0 L0 hb6
            go_wp2_with fail
            refine (WStep_any g h op r cc _ _ (spotOf m 3) rec tries _ _ K_3.out O_3.out WI.out (by have o_ := OR2.out; omega)).mono ?_; rintro e w7 ⟨rfl, hk7, ho7, hx7⟩
            rw [HWS.out] at hk7 ho7
            rw [HWS.out]
            simp only
            have ee : Ex (fun k => k = g ∨ k = h ∨ k = op) w6 w7 := hx7
            have L_4 := Lib.hid (Ex.below L_3.out ee (fun k hk => by have o_ := OR2.out; have hk : k = g ∨ k = h ∨ k = op := hk; omega))
            have K_4 := Lib.hid (hk7)
            have O_4 := Lib.hid (ho7)
            clear ee K_3 O_3 L_3 hx7 hk7 ho7
            go_wp2_with fail
            refine (WSteps_any op r cc (spotOf m 3) rec tries _ _ O_4.out).mono ?_; rintro e w8 ⟨rfl, rfl⟩
            try simp only [WS.again]
            go_wp2_with fail
            refine (WSteps_any op r cc (spotOf m 3) rec tries _ _ O_4.out).mono ?_; rintro e w8 ⟨rfl, rfl⟩
            try simp only [WS.again]
            go_wp2_with fail
            refine (Peek_any g h _ _ 1 _ K_4.out).mono ?_; rintro e w9 ⟨rfl, hb6⟩
            rw [HSEE.out]
            have ee : Ex (fun _ => False) w7 w9 := Ex.of_below hb6
            have K_5 := Lib.hid (K_4.out.ex ee (fun h => h) (fun h => h))
            have O_5 := Lib.hid (O_4.out.ex ee (fun h => h) (fun h => h))
            have L_5 := Lib.hid (Ex.below L_4.out ee (fun k hk => hk.elim))
            clear ee K_4 O_4 L_4 hb6
            go_wp2_with fail
            exact ⟨⟨i + 1, sw, _, _, _, by have := HI.out; omega, rfl, rfl, rfl, by go_num, K_5.out, O_5.out, WI2.out, ⟨HP2.out, rfl, by simp, fun _ => rfl⟩, L_5.out⟩, by have := HI.out; simp [intOf]; omega⟩
          · have ko : (now != sw) = true := by simpa using heq
            have hws : wStep (spotOf m 3) rec tries ⟨0, 1, had, (i : Int), sw, nn⟩ ws t = (WS.again tries ⟨0, 1, had, (i : Int), sw, nn⟩, ws, tickF ws 1 t) := by
              unfold wStep; simp only [ne_eq, if_false, if_true, show ((1 : Int) = 0) = False by simp, not_true]; rw [show (spotOf m 3).seq = 1 from rfl, if_pos HIN.out, show casB ws 1 sw = false by unfold casB; rw [HNOW.out]; simp [heq], if_neg (by simp)]
            have WI2 := Lib.hid (WI.out.step ws t K0.out.fit)
            rw [hws] at WI2
            have HWS := Lib.hid hws
            clear hws heq
            by_cases hsp : had + 1 = tries
            · have ks : (had + 1 == tries) = true := beq_iff_eq.2 hsp
              simp only [WS.again, if_pos hsp] at HWS WI2
              have HSP := Lib.hid hsp
              clear hsp
              have kmost : decide ((i : Int) + 1 > 2 * tries + (m : Int) + 1) = false := decide_eq_false (by have h9 : (i : Int) + 1 ≤ 2 * tries + (m : Int) + 1 := WI2.out.steps.2.2.2.2; omega)
              have kmost2 : decide (2 * tries + (m : Int) < (i : Int)) = false := decide_eq_false (by have h9 : (i : Int) + 1 ≤ 2 * tries + (m : Int) + 1 := WI2.out.steps.2.2.2.2; omega)
              have kmost3 : (i : Int) ≤ 2 * tries + (m : Int) := by have h9 : (i : Int) + 1 ≤ 2 * tries + (m : Int) + 1 := WI2.out.steps.2.2.2.2; omega
              refine (Peek_any g h _ _ 1 _ K0.out).mono ?_; rintro e w6 ⟨rfl, hb6⟩
              rw [HNOW.out]
              have ee : Ex (fun _ => False) wr w6 := Ex.of_below hb6
              have K_3 := Lib.hid (K0.out.ex ee (fun h => h) (fun h => h))
              have O_3 := Lib.hid (O0.out.ex ee (fun h => h) (fun h => h))
              have L_3 := Lib.hid (Ex.below L0.out ee (fun k hk => hk.elim))
              clear ee K0 O0 L0 hb6
              go_wp2_with fail
              refine (WStep_any g h op r cc _ _ (spotOf m 3) rec tries _ _ K_3.out O_3.out WI.out (by have o_ := OR2.out; omega)).mono ?_; rintro e w7 ⟨rfl, hk7, ho7, hx7⟩
              rw [HWS.out] at hk7 ho7
              rw [HWS.out]
              simp only
              have ee : Ex (fun k => k = g ∨ k = h ∨ k = op) w6 w7 := hx7
              have L_4 := Lib.hid (Ex.below L_3.out ee (fun k hk => by have o_ := OR2.out; have hk : k = g ∨ k = h ∨ k = op := hk; omega))
              have K_4 := Lib.hid (hk7)
              have O_4 := Lib.hid (ho7)
              clear ee K_3 O_3 L_3 hx7 hk7 ho7
              go_wp2_with fail
              refine (WSteps_any op r cc (spotOf m 3) rec tries _ _ O_4.out).mono ?_; rintro e w8 ⟨rfl, rfl⟩
              try simp only [WS.again]
              go_wp2_with fail
              refine (WSteps_any op r cc (spotOf m 3) rec tries _ _ O_4.out).mono ?_; rintro e w8 ⟨rfl, rfl⟩
              try simp only [WS.again]
              go_wp2_with fail
              refine (awake_any _).mono ?_; rintro e wz ⟨rfl, hb⟩
              have LZ := Lib.hid (bl L_4.out hb)
              clear hb
              go_wp2_with fail
              go_ret
              exact ⟨rfl, LZ.out⟩
            · have ks : (had + 1 == tries) = false := beq_eq_false_iff_ne.2 hsp
              simp only [WS.again, if_neg hsp] at HWS WI2
              have HSP := Lib.hid hsp
              clear hsp
              have kmost : decide ((i : Int) + 1 > 2 * tries + (m : Int) + 1) = false := decide_eq_false (by have h9 : (i : Int) + 1 ≤ 2 * tries + (m : Int) + 1 := WI2.out.steps.2.2.2.2; omega)
              have kmost2 : decide (2 * tries + (m : Int) < (i : Int)) = false := decide_eq_false (by have h9 : (i : Int) + 1 ≤ 2 * tries + (m : Int) + 1 := WI2.out.steps.2.2.2.2; omega)
              have kmost3 : (i : Int) ≤ 2 * tries + (m : Int) := by have h9 : (i : Int) + 1 ≤ 2 * tries + (m : Int) + 1 := WI2.out.steps.2.2.2.2; omega
              refine (Peek_any g h _ _ 1 _ K0.out).mono ?_; rintro e w6 ⟨rfl, hb6⟩
              rw [HNOW.out]
              have ee : Ex (fun _ => False) wr w6 := Ex.of_below hb6
              have K_3 := Lib.hid (K0.out.ex ee (fun h => h) (fun h => h))
              have O_3 := Lib.hid (O0.out.ex ee (fun h => h) (fun h => h))
              have L_3 := Lib.hid (Ex.below L0.out ee (fun k hk => hk.elim))
              clear ee K0 O0 L0 hb6
              go_wp2_with fail
              refine (WStep_any g h op r cc _ _ (spotOf m 3) rec tries _ _ K_3.out O_3.out WI.out (by have o_ := OR2.out; omega)).mono ?_; rintro e w7 ⟨rfl, hk7, ho7, hx7⟩
              rw [HWS.out] at hk7 ho7
              rw [HWS.out]
              simp only
              have ee : Ex (fun k => k = g ∨ k = h ∨ k = op) w6 w7 := hx7
              have L_4 := Lib.hid (Ex.below L_3.out ee (fun k hk => by have o_ := OR2.out; have hk : k = g ∨ k = h ∨ k = op := hk; omega))
              have K_4 := Lib.hid (hk7)
              have O_4 := Lib.hid (ho7)
              clear ee K_3 O_3 L_3 hx7 hk7 ho7
              go_wp2_with fail
              refine (WSteps_any op r cc (spotOf m 3) rec tries _ _ O_4.out).mono ?_; rintro e w8 ⟨rfl, rfl⟩
              try simp only [WS.again]
              go_wp2_with fail
              refine (WSteps_any op r cc (spotOf m 3) rec tries _ _ O_4.out).mono ?_; rintro e w8 ⟨rfl, rfl⟩
              try simp only [WS.again]
              go_wp2_with fail
              exact ⟨⟨i + 1, sw, _, _, _, by have := HI.out; omega, rfl, rfl, rfl, by go_num, K_4.out, O_4.out, WI2.out, ⟨HP2.out, rfl, by simp, fun h => absurd rfl h⟩, L_4.out⟩, by have := HI.out; simp [intOf]; omega⟩
        · have kz : (li != 0) = true := by simpa using hz
          clear hz
          go_wp2_with fail
          refine (Store_any g h _ _ 1 li _ K0.out HLI.out).mono ?_; rintro e ws9 ⟨rfl, hk6, hx6⟩
          rw [errF_in HIN.out]
          have ee : Ex (fun k => k = g ∨ k = h) wr ws9 := (Ex.of_ex2 hx6 (.inl rfl) (.inr rfl))
          have O_3 := Lib.hid (O0.out.ex ee (by have o_ := OR2.out; omega) (by have o_ := OR2.out; omega))
          have L_3 := Lib.hid (Ex.below L0.out ee (fun k hk => by have o_ := OR2.out; have hk : k = g ∨ k = h := hk; omega))
          have K_3 := Lib.hid (hk6)
          clear ee K0 O0 L0 hx6 hk6 pl
          go_wp2_with fail
          have HP2 := Lib.hid (show (setF ws 1 li).length = N by rw [setF_len]; exact HP.out.1)
          have HIN2 := Lib.hid (show inW (setF ws 1 li) 1 by unfold inW; rw [HP2.out, ← HP.out.1]; exact HIN.out)
          generalize setF ws 1 li = ws1 at *
          generalize tickF ws 1 t = t1 at *
          clear HIN HP
          have HIN := HIN2
          clear HIN2
          have HR := Lib.hid (wordF_range K_3.out 1)
          generalize hnow : wordF ws1 1 = now at *
          have HNOW := Lib.hid hnow
          clear hnow
          by_cases heq : now = sw
          · have ko : (now != sw) = false := by rw [heq]; simp
            have hws : wStep (spotOf m 3) rec tries ⟨0, 1, had, (i : Int), sw, nn⟩ ws1 t1 = (⟨0, 2, had, (i : Int) + 1, sw, nn⟩, setF ws1 1 (IntKind.u64.wrap (sw + 1)), tickF ws1 1 t1) := by
              unfold wStep; simp only [ne_eq, if_false, if_true, show ((1 : Int) = 0) = False by simp, not_true]; rw [show (spotOf m 3).seq = 1 from rfl, if_pos HIN.out, show casB ws1 1 sw = true by unfold casB; rw [HNOW.out, heq]; simp [HIN.out], if_pos rfl]
            have WI2 := Lib.hid (WI.out.step ws1 t1 K_3.out.fit)
            rw [hws] at WI2
            have HWS := Lib.hid hws
            have HEQ := Lib.hid heq
            have HSEE := Lib.hid (show wordF (setF ws1 1 (IntKind.u64.wrap (sw + 1))) 1 = IntKind.u64.wrap (sw + 1) from wordF_setF HIN.out)
            have HP3 := Lib.hid (show (setF ws1 1 (IntKind.u64.wrap (sw + 1))).length = N by rw [setF_len]; exact HP2.out)
            generalize setF ws1 1 (IntKind.u64.wrap (sw + 1)) = ws3 at *
            clear HP2
            have HP2 := HP3
            have ks : (had == tries) = false := beq_eq_false_iff_ne.2 (by have := HDT.out; omega)
            clear hws heq HP3
            have kmost : decide ((i : Int) + 1 > 2 * tries + (m : Int) + 1) = false := decide_eq_false (by have h9 : (i : Int) + 1 ≤ 2 * tries + (m : Int) + 1 := WI2.out.steps.2.2.2.2; omega)
            have kmost2 : decide (2 * tries + (m : Int) < (i : Int)) = false := decide_eq_false (by have h9 : (i : Int) + 1 ≤ 2 * tries + (m : Int) + 1 := WI2.out.steps.2.2.2.2; omega)
            have kmost3 : (i : Int) ≤ 2 * tries + (m : Int) := by have h9 : (i : Int) + 1 ≤ 2 * tries + (m : Int) + 1 := WI2.out.steps.2.2.2.2; omega
            refine (Peek_any g h _ _ 1 _ K_3.out).mono ?_; rintro e w6 ⟨rfl, hb6⟩
            rw [HNOW.out]
            have ee : Ex (fun _ => False) ws9 w6 := Ex.of_below hb6
            have K_4 := Lib.hid (K_3.out.ex ee (fun h => h) (fun h => h))
            have O_4 := Lib.hid (O_3.out.ex ee (fun h => h) (fun h => h))
            have L_4 := Lib.hid (Ex.below L_3.out ee (fun k hk => hk.elim))
            clear ee K_3 O_3 L_3 hb6
            go_wp2_with fail
            refine (WStep_any g h op r cc _ _ (spotOf m 3) rec tries _ _ K_4.out O_4.out WI.out (by have o_ := OR2.out; omega)).mono ?_; rintro e w7 ⟨rfl, hk7, ho7, hx7⟩
            rw [HWS.out] at hk7 ho7
            rw [HWS.out]
            simp only
            have ee : Ex (fun k => k = g ∨ k = h ∨ k = op) w6 w7 := hx7
            have L_5 := Lib.hid (Ex.below L_4.out ee (fun k hk => by have o_ := OR2.out; have hk : k = g ∨ k = h ∨ k = op := hk; omega))
            have K_5 := Lib.hid (hk7)
            have O_5 := Lib.hid (ho7)
            clear ee K_4 O_4 L_4 hx7 hk7 ho7
            go_wp2_with fail
            refine (WSteps_any op r cc (spotOf m 3) rec tries _ _ O_5.out).mono ?_; rintro e w8 ⟨rfl, rfl⟩
            try simp only [WS.again]
            go_wp2_with fail
            refine (WSteps_any op r cc (spotOf m 3) rec tries _ _ O_5.out).mono ?_; rintro e w8 ⟨rfl, rfl⟩
            try simp only [WS.again]
            go_wp2_with fail
            refine (Peek_any g h _ _ 1 _ K_5.out).mono ?_; rintro e w9 ⟨rfl, hb6⟩
            rw [HSEE.out]
            have ee : Ex (fun _ => False) w7 w9 := Ex.of_below hb6
            have K_6 := Lib.hid (K_5.out.ex ee (fun h => h) (fun h => h))
            have O_6 := Lib.hid (O_5.out.ex ee (fun h => h) (fun h => h))
            have L_6 := Lib.hid (Ex.below L_5.out ee (fun k hk => hk.elim))
            clear ee K_5 O_5 L_5 hb6
            go_wp2_with fail
            exact ⟨⟨i + 1, sw, _, _, _, by have := HI.out; omega, rfl, rfl, rfl, by go_num, K_6.out, O_6.out, WI2.out, ⟨HP2.out, rfl, by simp, fun _ => rfl⟩, L_6.out⟩, by have := HI.out; simp [intOf]; omega⟩
          · have ko : (now != sw) = true := by simpa using heq
            have hws : wStep (spotOf m 3) rec tries ⟨0, 1, had, (i : Int), sw, nn⟩ ws1 t1 = (WS.again tries ⟨0, 1, had, (i : Int), sw, nn⟩, ws1, tickF ws1 1 t1) := by
              unfold wStep; simp only [ne_eq, if_false, if_true, show ((1 : Int) = 0) = False by simp, not_true]; rw [show (spotOf m 3).seq = 1 from rfl, if_pos HIN.out, show casB ws1 1 sw = false by unfold casB; rw [HNOW.out]; simp [heq], if_neg (by simp)]
            have WI2 := Lib.hid (WI.out.step ws1 t1 K_3.out.fit)
            rw [hws] at WI2
            have HWS := Lib.hid hws
            clear hws heq
            by_cases hsp : had + 1 = tries
            · have ks : (had + 1 == tries) = true := beq_iff_eq.2 hsp
              simp only [WS.again, if_pos hsp] at HWS WI2
              have HSP := Lib.hid hsp
              clear hsp
              have kmost : decide ((i : Int) + 1 > 2 * tries + (m : Int) + 1) = false := decide_eq_false (by have h9 : (i : Int) + 1 ≤ 2 * tries + (m : Int) + 1 := WI2.out.steps.2.2.2.2; omega)
              have kmost2 : decide (2 * tries + (m : Int) < (i : Int)) = false := decide_eq_false (by have h9 : (i : Int) + 1 ≤ 2 * tries + (m : Int) + 1 := WI2.out.steps.2.2.2.2; omega)
              have kmost3 : (i : Int) ≤ 2 * tries + (m : Int) := by have h9 : (i : Int) + 1 ≤ 2 * tries + (m : Int) + 1 := WI2.out.steps.2.2.2.2; omega
              refine (Peek_any g h _ _ 1 _ K_3.out).mono ?_; rintro e w6 ⟨rfl, hb6⟩
              rw [HNOW.out]
              have ee : Ex (fun _ => False) ws9 w6 := Ex.of_below hb6
              have K_4 := Lib.hid (K_3.out.ex ee (fun h => h) (fun h => h))
              have O_4 := Lib.hid (O_3.out.ex ee (fun h => h) (fun h => h))
              have L_4 := Lib.hid (Ex.below L_3.out ee (fun k hk => hk.elim))
              clear ee K_3 O_3 L_3 hb6
              go_wp2_with fail
              refine (WStep_any g h op r cc _ _ (spotOf m 3) rec tries _ _ K_4.out O_4.out WI.out (by have o_ := OR2.out; omega)).mono ?_; rintro e w7 ⟨rfl, hk7, ho7, hx7⟩
              rw [HWS.out] at hk7 ho7
              rw [HWS.out]
              simp only
              have ee : Ex (fun k => k = g ∨ k = h ∨ k = op) w6 w7 := hx7
              have L_5 := Lib.hid (Ex.below L_4.out ee (fun k hk => by have o_ := OR2.out; have hk : k = g ∨ k = h ∨ k = op := hk; omega))
              have K_5 := Lib.hid (hk7)
              have O_5 := Lib.hid (ho7)
              clear ee K_4 O_4 L_4 hx7 hk7 ho7
              go_wp2_with fail
              refine (WSteps_any op r cc (spotOf m 3) rec tries _ _ O_5.out).mono ?_; rintro e w8 ⟨rfl, rfl⟩
              try simp only [WS.again]
              go_wp2_with fail
              refine (WSteps_any op r cc (spotOf m 3) rec tries _ _ O_5.out).mono ?_; rintro e w8 ⟨rfl, rfl⟩
              try simp only [WS.again]
              go_wp2_with fail
              refine (awake_any _).mono ?_; rintro e wz ⟨rfl, hb⟩
              have LZ := Lib.hid (bl L_5.out hb)
              clear hb
              go_wp2_with fail
              go_ret
              exact ⟨rfl, LZ.out⟩
            · have ks : (had + 1 == tries) = false := beq_eq_false_iff_ne.2 hsp
              simp only [WS.again, if_neg hsp] at HWS WI2
              have HSP := Lib.hid hsp
              clear hsp
              have kmost : decide ((i : Int) + 1 > 2 * tries + (m : Int) + 1) = false := decide_eq_false (by have h9 : (i : Int) + 1 ≤ 2 * tries + (m : Int) + 1 := WI2.out.steps.2.2.2.2; omega)
              have kmost2 : decide (2 * tries + (m : Int) < (i : Int)) = false := decide_eq_false (by have h9 : (i : Int) + 1 ≤ 2 * tries + (m : Int) + 1 := WI2.out.steps.2.2.2.2; omega)
              have kmost3 : (i : Int) ≤ 2 * tries + (m : Int) := by have h9 : (i : Int) + 1 ≤ 2 * tries + (m : Int) + 1 := WI2.out.steps.2.2.2.2; omega
              refine (Peek_any g h _ _ 1 _ K_3.out).mono ?_; rintro e w6 ⟨rfl, hb6⟩
              rw [HNOW.out]
              have ee : Ex (fun _ => False) ws9 w6 := Ex.of_below hb6
              have K_4 := Lib.hid (K_3.out.ex ee (fun h => h) (fun h => h))
              have O_4 := Lib.hid (O_3.out.ex ee (fun h => h) (fun h => h))
              have L_4 := Lib.hid (Ex.below L_3.out ee (fun k hk => hk.elim))
              clear ee K_3 O_3 L_3 hb6
              go_wp2_with fail
              refine (WStep_any g h op r cc _ _ (spotOf m 3) rec tries _ _ K_4.out O_4.out WI.out (by have o_ := OR2.out; omega)).mono ?_; rintro e w7 ⟨rfl, hk7, ho7, hx7⟩
              rw [HWS.out] at hk7 ho7
              rw [HWS.out]
              simp only
              have ee : Ex (fun k => k = g ∨ k = h ∨ k = op) w6 w7 := hx7
              have L_5 := Lib.hid (Ex.below L_4.out ee (fun k hk => by have o_ := OR2.out; have hk : k = g ∨ k = h ∨ k = op := hk; omega))
              have K_5 := Lib.hid (hk7)
              have O_5 := Lib.hid (ho7)
              clear ee K_4 O_4 L_4 hx7 hk7 ho7
              go_wp2_with fail
              refine (WSteps_any op r cc (spotOf m 3) rec tries _ _ O_5.out).mono ?_; rintro e w8 ⟨rfl, rfl⟩
              try simp only [WS.again]
              go_wp2_with fail
              refine (WSteps_any op r cc (spotOf m 3) rec tries _ _ O_5.out).mono ?_; rintro e w8 ⟨rfl, rfl⟩
              try simp only [WS.again]
              go_wp2_with fail
              exact ⟨⟨i + 1, sw, _, _, _, by have := HI.out; omega, rfl, rfl, rfl, by go_num, K_5.out, O_5.out, WI2.out, ⟨HP2.out, rfl, by simp, fun h => absurd rfl h⟩, L_5.out⟩, by have := HI.out; simp [intOf]; omega⟩
      · have kp : bPhase ⟨0, 2, had, (i : Int), sq, nn⟩ = 2 := by unfold bPhase; simp
        rw [kp]
        clear kp
        have hsw : sw = sq := HP.out.2.2.2 (by simp)
        subst hsw
        have HP2 := Lib.hid (show ws.length = N from HP.out.1)
        have kin : inW ws 1 := by unfold inW; rw [HP.out.1]; have := HNN.out; have := HMM.out; omega
        have HIN := Lib.hid kin
        clear kin
        have ks : (had == tries) = false := beq_eq_false_iff_ne.2 (by have := HDT.out; omega)
        generalize hnow : wordF ws 1 = now at *
        have HNOW := Lib.hid hnow
        clear hnow
        obtain ⟨z, hz⟩ : ∃ z, (li != 0) = z := ⟨_, rfl⟩
        have hnn : 0 ≤ nn ∧ nn < m := ⟨HSN.out.1, HSN.out.2 rfl rfl⟩
        have hpl := bound_place HMM.out (by rw [HP.out.1]; exact HNN.out.symm) sw nn hnn
        have hws : wStep (spotOf m 3) rec tries ⟨0, 2, had, (i : Int), sw, nn⟩ ws t = (⟨0, if nn + 1 = (rec.length : Int) then 3 else 2, had, (i : Int) + 1, sw, nn + 1⟩, setF ws (placeF (spotOf m 3) sw nn) (nth rec nn.toNat), tickF ws (placeF (spotOf m 3) sw nn) t) := by
          unfold wStep; simp only [ne_eq, if_false, if_true, show ((2 : Int) = 0) = False by simp, show ((2 : Int) = 1) = False by simp, not_true]; rw [if_pos hpl]
        have WI2 := Lib.hid (WI.out.step ws t K0.out.fit)
        rw [hws] at WI2
        have HWS := Lib.hid hws
        have HP3 := Lib.hid (show (setF ws (placeF (spotOf m 3) sw nn) (nth rec nn.toNat)).length = N by rw [setF_len]; exact HP2.out)
        have hbp : bPhase ⟨0, if nn + 1 = (rec.length : Int) then 3 else 2, had, (i : Int) + 1, sw, nn + 1⟩ = 2 := by unfold bPhase; simp only; split <;> simp
        have HBP := Lib.hid hbp
        generalize (if nn + 1 = (rec.length : Int) then (3 : Int) else 2) = nx2 at *
        generalize setF ws (placeF (spotOf m 3) sw nn) (nth rec nn.toNat) = ws3 at *
        generalize tickF ws (placeF (spotOf m 3) sw nn) t = t3 at *
        clear hnn hpl hws HP2 hbp
        have HP2 := HP3
        clear HP3
        cases z
        · skip
          go_wp2_with fail
          have kmost : decide ((i : Int) + 1 > 2 * tries + (m : Int) + 1) = false := decide_eq_false (by have h9 : (i : Int) + 1 ≤ 2 * tries + (m : Int) + 1 := WI2.out.steps.2.2.2.2; omega)
          have kmost2 : decide (2 * tries + (m : Int) < (i : Int)) = false := decide_eq_false (by have h9 : (i : Int) + 1 ≤ 2 * tries + (m : Int) + 1 := WI2.out.steps.2.2.2.2; omega)
          have kmost3 : (i : Int) ≤ 2 * tries + (m : Int) := by have h9 : (i : Int) + 1 ≤ 2 * tries + (m : Int) + 1 := WI2.out.steps.2.2.2.2; omega
          refine (Peek_any g h _ _ 1 _ K0.out).mono ?_; rintro e w6 ⟨rfl, hb6⟩
          rw [HNOW.out]
          have ee : Ex (fun _ => False) wr w6 := Ex.of_below hb6
          have K_3 := Lib.hid (K0.out.ex ee (fun h => h) (fun h => h))
          have O_3 := Lib.hid (O0.out.ex ee (fun h => h) (fun h => h))
          have L_3 := Lib.hid (Ex.below L0.out ee (fun k hk => hk.elim))
          clear ee K0 O0 L0 hb6
          go_wp2_with fail
          refine (WStep_any g h op r cc _ _ (spotOf m 3) rec tries _ _ K_3.out O_3.out WI.out (by have o_ := OR2.out; omega)).mono ?_; rintro e w7 ⟨rfl, hk7, ho7, hx7⟩
          rw [HWS.out] at hk7 ho7
          rw [HWS.out]
          simp only
          have ee : Ex (fun k => k = g ∨ k = h ∨ k = op) w6 w7 := hx7
          have L_4 := Lib.hid (Ex.below L_3.out ee (fun k hk => by have o_ := OR2.out; have hk : k = g ∨ k = h ∨ k = op := hk; omega))
          have K_4 := Lib.hid (hk7)
          have O_4 := Lib.hid (ho7)
          clear ee K_3 O_3 L_3 hx7 hk7 ho7
          go_wp2_with fail
          refine (WSteps_any op r cc (spotOf m 3) rec tries _ _ O_4.out).mono ?_; rintro e w8 ⟨rfl, rfl⟩
          try simp only [WS.again]
          go_wp2_with fail
          refine (WSteps_any op r cc (spotOf m 3) rec tries _ _ O_4.out).mono ?_; rintro e w8 ⟨rfl, rfl⟩
          try simp only [WS.again]
          go_wp2_with fail
          exact ⟨⟨i + 1, sw, _, _, _, by have := HI.out; omega, by rw [HBP.out], rfl, rfl, by go_num, K_4.out, O_4.out, WI2.out, ⟨HP2.out, rfl, by simp, fun _ => rfl⟩, L_4.out⟩, by have := HI.out; simp [intOf]; omega⟩
        · skip
          go_wp2_with fail
          have kmost : decide ((i : Int) + 1 > 2 * tries + (m : Int) + 1) = false := decide_eq_false (by have h9 : (i : Int) + 1 ≤ 2 * tries + (m : Int) + 1 := WI2.out.steps.2.2.2.2; omega)
          have kmost2 : decide (2 * tries + (m : Int) < (i : Int)) = false := decide_eq_false (by have h9 : (i : Int) + 1 ≤ 2 * tries + (m : Int) + 1 := WI2.out.steps.2.2.2.2; omega)
          have kmost3 : (i : Int) ≤ 2 * tries + (m : Int) := by have h9 : (i : Int) + 1 ≤ 2 * tries + (m : Int) + 1 := WI2.out.steps.2.2.2.2; omega
          refine (Peek_any g h _ _ 1 _ K0.out).mono ?_; rintro e w6 ⟨rfl, hb6⟩
          rw [HNOW.out]
          have ee : Ex (fun _ => False) wr w6 := Ex.of_below hb6
          have K_3 := Lib.hid (K0.out.ex ee (fun h => h) (fun h => h))
          have O_3 := Lib.hid (O0.out.ex ee (fun h => h) (fun h => h))
          have L_3 := Lib.hid (Ex.below L0.out ee (fun k hk => hk.elim))
          clear ee K0 O0 L0 hb6
          go_wp2_with fail
          refine (WStep_any g h op r cc _ _ (spotOf m 3) rec tries _ _ K_3.out O_3.out WI.out (by have o_ := OR2.out; omega)).mono ?_; rintro e w7 ⟨rfl, hk7, ho7, hx7⟩
          rw [HWS.out] at hk7 ho7
          rw [HWS.out]
          simp only
          have ee : Ex (fun k => k = g ∨ k = h ∨ k = op) w6 w7 := hx7
          have L_4 := Lib.hid (Ex.below L_3.out ee (fun k hk => by have o_ := OR2.out; have hk : k = g ∨ k = h ∨ k = op := hk; omega))
          have K_4 := Lib.hid (hk7)
          have O_4 := Lib.hid (ho7)
          clear ee K_3 O_3 L_3 hx7 hk7 ho7
          go_wp2_with fail
          refine (WSteps_any op r cc (spotOf m 3) rec tries _ _ O_4.out).mono ?_; rintro e w8 ⟨rfl, rfl⟩
          try simp only [WS.again]
          go_wp2_with fail
          refine (WSteps_any op r cc (spotOf m 3) rec tries _ _ O_4.out).mono ?_; rintro e w8 ⟨rfl, rfl⟩
          try simp only [WS.again]
          go_wp2_with fail
          exact ⟨⟨i + 1, sw, _, _, _, by have := HI.out; omega, by rw [HBP.out], rfl, rfl, by go_num, K_4.out, O_4.out, WI2.out, ⟨HP2.out, rfl, by simp, fun _ => rfl⟩, L_4.out⟩, by have := HI.out; simp [intOf]; omega⟩
      · have kp : bPhase ⟨0, 3, had, (i : Int), sq, nn⟩ = 2 := by unfold bPhase; simp
        rw [kp]
        clear kp
        have hsw : sw = sq := HP.out.2.2.2 (by simp)
        subst hsw
        have HP2 := Lib.hid (show ws.length = N from HP.out.1)
        have kin : inW ws 1 := by unfold inW; rw [HP.out.1]; have := HNN.out; have := HMM.out; omega
        have HIN := Lib.hid kin
        clear kin
        have ks : (had == tries) = false := beq_eq_false_iff_ne.2 (by have := HDT.out; omega)
        generalize hnow : wordF ws 1 = now at *
        have HNOW := Lib.hid hnow
        clear hnow
        obtain ⟨z, hz⟩ : ∃ z, (li != 0) = z := ⟨_, rfl⟩
        have hws : wStep (spotOf m 3) rec tries ⟨0, 3, had, (i : Int), sw, nn⟩ ws t = (⟨1, 3, had, (i : Int) + 1, sw, nn⟩, setF ws 1 (IntKind.u64.wrap (sw + 2)), tickF ws 1 t) := by
          unfold wStep; simp only [ne_eq, if_false, if_true, show ((3 : Int) = 0) = False by simp, show ((3 : Int) = 1) = False by simp, show ((3 : Int) = 2) = False by simp, not_true]; rw [show (spotOf m 3).seq = 1 from rfl, if_pos HIN.out]
        have WI2 := Lib.hid (WI.out.step ws t K0.out.fit)
        rw [hws] at WI2
        have HWS := Lib.hid hws
        have HSEE := Lib.hid (show wordF (setF ws 1 (IntKind.u64.wrap (sw + 2))) 1 = IntKind.u64.wrap (sw + 2) from wordF_setF HIN.out)
        generalize setF ws 1 (IntKind.u64.wrap (sw + 2)) = ws3 at *
        clear hws
        cases z
        · skip
          go_wp2_with fail
          have kmost : decide ((i : Int) + 1 > 2 * tries + (m : Int) + 1) = false := decide_eq_false (by have h9 : (i : Int) + 1 ≤ 2 * tries + (m : Int) + 1 := WI2.out.steps.2.2.2.2; omega)
          have kmost2 : decide (2 * tries + (m : Int) < (i : Int)) = false := decide_eq_false (by have h9 : (i : Int) + 1 ≤ 2 * tries + (m : Int) + 1 := WI2.out.steps.2.2.2.2; omega)
          have kmost3 : (i : Int) ≤ 2 * tries + (m : Int) := by have h9 : (i : Int) + 1 ≤ 2 * tries + (m : Int) + 1 := WI2.out.steps.2.2.2.2; omega
          refine (Peek_any g h _ _ 1 _ K0.out).mono ?_; rintro e w6 ⟨rfl, hb6⟩
          rw [HNOW.out]
          have ee : Ex (fun _ => False) wr w6 := Ex.of_below hb6
          have K_3 := Lib.hid (K0.out.ex ee (fun h => h) (fun h => h))
          have O_3 := Lib.hid (O0.out.ex ee (fun h => h) (fun h => h))
          have L_3 := Lib.hid (Ex.below L0.out ee (fun k hk => hk.elim))
          clear ee K0 O0 L0 hb6
          go_wp2_with fail
          refine (WStep_any g h op r cc _ _ (spotOf m 3) rec tries _ _ K_3.out O_3.out WI.out (by have o_ := OR2.out; omega)).mono ?_; rintro e w7 ⟨rfl, hk7, ho7, hx7⟩
          rw [HWS.out] at hk7 ho7
          rw [HWS.out]
          simp only
          have ee : Ex (fun k => k = g ∨ k = h ∨ k = op) w6 w7 := hx7
          have L_4 := Lib.hid (Ex.below L_3.out ee (fun k hk => by have o_ := OR2.out; have hk : k = g ∨ k = h ∨ k = op := hk; omega))
          have K_4 := Lib.hid (hk7)
          have O_4 := Lib.hid (ho7)
          clear ee K_3 O_3 L_3 hx7 hk7 ho7
          go_wp2_with fail
          refine (WSteps_any op r cc (spotOf m 3) rec tries _ _ O_4.out).mono ?_; rintro e w8 ⟨rfl, rfl⟩
          try simp only [WS.again]
          go_wp2_with fail
          refine (WSteps_any op r cc (spotOf m 3) rec tries _ _ O_4.out).mono ?_; rintro e w8 ⟨rfl, rfl⟩
          try simp only [WS.again]
          go_wp2_with fail
          refine (Peek_any g h _ _ 1 _ K_4.out).mono ?_; rintro e w9 ⟨rfl, hb6⟩
          rw [HSEE.out]
          have ee : Ex (fun _ => False) w7 w9 := Ex.of_below hb6
          have K_5 := Lib.hid (K_4.out.ex ee (fun h => h) (fun h => h))
          have O_5 := Lib.hid (O_4.out.ex ee (fun h => h) (fun h => h))
          have L_5 := Lib.hid (Ex.below L_4.out ee (fun k hk => hk.elim))
          clear ee K_4 O_4 L_4 hb6
          go_wp2_with fail
          refine (awake_any _).mono ?_; rintro e wz ⟨rfl, hb⟩
          have LZ := Lib.hid (bl L_5.out hb)
          clear hb
          go_wp2_with fail
          go_ret
          exact ⟨rfl, LZ.out⟩
        · skip
          go_wp2_with fail
          have kmost : decide ((i : Int) + 1 > 2 * tries + (m : Int) + 1) = false := decide_eq_false (by have h9 : (i : Int) + 1 ≤ 2 * tries + (m : Int) + 1 := WI2.out.steps.2.2.2.2; omega)
          have kmost2 : decide (2 * tries + (m : Int) < (i : Int)) = false := decide_eq_false (by have h9 : (i : Int) + 1 ≤ 2 * tries + (m : Int) + 1 := WI2.out.steps.2.2.2.2; omega)
          have kmost3 : (i : Int) ≤ 2 * tries + (m : Int) := by have h9 : (i : Int) + 1 ≤ 2 * tries + (m : Int) + 1 := WI2.out.steps.2.2.2.2; omega
          refine (Peek_any g h _ _ 1 _ K0.out).mono ?_; rintro e w6 ⟨rfl, hb6⟩
          rw [HNOW.out]
          have ee : Ex (fun _ => False) wr w6 := Ex.of_below hb6
          have K_3 := Lib.hid (K0.out.ex ee (fun h => h) (fun h => h))
          have O_3 := Lib.hid (O0.out.ex ee (fun h => h) (fun h => h))
          have L_3 := Lib.hid (Ex.below L0.out ee (fun k hk => hk.elim))
          clear ee K0 O0 L0 hb6
          go_wp2_with fail
          refine (WStep_any g h op r cc _ _ (spotOf m 3) rec tries _ _ K_3.out O_3.out WI.out (by have o_ := OR2.out; omega)).mono ?_; rintro e w7 ⟨rfl, hk7, ho7, hx7⟩
          rw [HWS.out] at hk7 ho7
          rw [HWS.out]
          simp only
          have ee : Ex (fun k => k = g ∨ k = h ∨ k = op) w6 w7 := hx7
          have L_4 := Lib.hid (Ex.below L_3.out ee (fun k hk => by have o_ := OR2.out; have hk : k = g ∨ k = h ∨ k = op := hk; omega))
          have K_4 := Lib.hid (hk7)
          have O_4 := Lib.hid (ho7)
          clear ee K_3 O_3 L_3 hx7 hk7 ho7
          go_wp2_with fail
          refine (WSteps_any op r cc (spotOf m 3) rec tries _ _ O_4.out).mono ?_; rintro e w8 ⟨rfl, rfl⟩
          try simp only [WS.again]
          go_wp2_with fail
          refine (WSteps_any op r cc (spotOf m 3) rec tries _ _ O_4.out).mono ?_; rintro e w8 ⟨rfl, rfl⟩
          try simp only [WS.again]
          go_wp2_with fail
          refine (Peek_any g h _ _ 1 _ K_4.out).mono ?_; rintro e w9 ⟨rfl, hb6⟩
          rw [HSEE.out]
          have ee : Ex (fun _ => False) w7 w9 := Ex.of_below hb6
          have K_5 := Lib.hid (K_4.out.ex ee (fun h => h) (fun h => h))
          have O_5 := Lib.hid (O_4.out.ex ee (fun h => h) (fun h => h))
          have L_5 := Lib.hid (Ex.below L_4.out ee (fun k hk => hk.elim))
          clear ee K_4 O_4 L_4 hb6
          go_wp2_with fail
          refine (awake_any _).mono ?_; rintro e wz ⟨rfl, hb⟩
          have LZ := Lib.hid (bl L_5.out hb)
          clear hb
          go_wp2_with fail
          go_ret
          exact ⟨rfl, LZ.out⟩
    · obtain rfl : i = L := by omega
      have kd : decide ((i : Int) < (i : Int)) = false := decide_eq_false (by omega)
      go_wp2_with fail
      refine (awake_any _).mono ?_; rintro e wz ⟨rfl, hb⟩
      have LZ := Lib.hid (bl L0.out hb)
      clear hb
      go_wp2_with fail
      go_ret
      exact ⟨rfl, LZ.out⟩
end Go.Proofs.Ytpfjadgcnaffgaa.Bank
