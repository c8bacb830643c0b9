/-
  SnapAlone, walked. Printed by wip/tools/mksna.py. No condition. By an AI agent.
-/
import Derived.Test.YtjdalllfnlpmnaaSnXb
import Derived.Deep.CutRange
namespace Go.Proofs.Ytjdalllfnlpmnaa.Bank
set_option linter.unusedVariables false
set_option linter.unusedSimpArgs false
open Go Go.RowKit Go.Proofs.Ytjdalllfnlpmnaa.Base

set_option maxRecDepth 100000 in
set_option maxHeartbeats 30000000 in
theorem SnapAlone_walk (v : Value) (y : Nat × (Nat → Tp)) (v2 : Value) (ts : List Int) (v3 : Value) (x : Int × Bool) (w : World) (h : Tps w v y.1 y.2) (ht : Ints w .i64 v2 ts) (hf : ∀ z ∈ ts, (Lit.int .i64 z).wf = true) (hx : v3 = .agg #[.int .i64 x.1, .bool x.2]) : Calls Try.prog 7 #[v, v2, v3] w fun e w' => e = .returned (.bool true) ∧ Below w.heap.size w w' := by
  obtain ⟨n, l⟩ := y
  obtain ⟨st, bt⟩ := x
  subst hx
  simp only at h ⊢
  have HTP := Lib.hid h
  have HTI := Lib.hid ht
  have HTF := Lib.hid hf
  clear h ht hf
  have JB := Lib.hid (Blk.new w 79 #[.int .i64 st, .bool bt])
  have L0 := Lib.hid ((Below.refl w.heap.size w).alloc (Nat.le_refl _) (.cells #[.int .i64 st, .bool bt] 79))
  have hjb : w.heap.size < (w.alloc (.cells #[.int .i64 st, .bool bt] 79)).heap.size := by simp
  have HTP1 := Lib.hid (HTP.out.below L0.out)
  obtain ⟨A0, c0, rfl, hn, hg⟩ := HTP.out.form
  have HN := Lib.hid hn
  have HG := Lib.hid hg
  clear hn hg
  go_enter Try.func7, Try.ntmps7
  go_wp2_with fail
  generalize w.alloc (.cells #[.int .i64 st, .bool bt] 79) = w1 at *
  refine (lay_any _ n l w1 HTP1.out).mono ?_; rintro e w2 ⟨ho, hl⟩
  have JB2 := Lib.hid (JB.out.bl hl)
  have L2 := Lib.hid (bl L0.out hl)
  clear hl JB L0 HTP1
  rcases ho with ⟨hok, v1, p1, rfl, r, c, g, h, rfl, rfl, hown, hk, q0, q1, q2, q3⟩ | ⟨hok, rfl⟩
  case inr =>
    clear hok hjb
    go_upto_region 2 with fail
    have hne : Nonempty (Held (fun W => W = w2.drew)) := ⟨⟨_, rfl⟩⟩
    refine drawn_bars (S := fun _ => True) [] [0, 1, 2, 3, 4, 5, 6, 7, 8, 9, 10, 11, 12, 13, 14, 15, 16, 17, 18, 19, 20, 21] (by kernel_rfl) (by kernel_rfl) (by kernel_rfl) rfl trivial ?_
    refine Phased.end_ ?_
    simp only [pick, List.map_cons, List.map_nil, List.getElem?_cons_zero, List.getElem?_cons_succ, Option.getD_some]
    repeat (go_big_quiet_step (fail))
    refine wpQuiet_nil ?_
    clear hne
    have ee : Ex (fun _ => False) w2 w2.drew := (Ex.refl _ w2).drew
    have J_1 := Lib.hid (JB2.out.ex ee (fun h => h))
    have L_1 := Lib.hid (Ex.below L2.out ee (fun k hk => hk.elim))
    clear ee JB2 L2
    generalize w2.drew = w3 at *
    go_wp2_with fail
    refine (awake_any _).mono ?_; rintro e wz ⟨rfl, hb⟩
    have LZ := Lib.hid (bl L_1.out hb)
    clear hb
    go_wp2_with fail
    go_ret
    exact ⟨rfl, LZ.out⟩
  have TOK := Lib.hid hok
  obtain ⟨jb, hjbe⟩ : ∃ jb, w.heap.size = jb := ⟨_, rfl⟩
  have HJB := Lib.hid hjbe
  have JB3 := Lib.hid (show Blk w2 jb 79 #[.int .i64 st, .bool bt] from hjbe ▸ JB2.out)
  have ORD1 := Lib.hid (show w.heap.size = jb ∧ jb < r ∧ r < h ∧ h < g from by have := hjbe; omega)
  obtain ⟨N, hN⟩ : ∃ N : Nat, (N : Int) = offT l n := ⟨(offT l n).toNat, by have := (offT_bounds hok.2 n (Nat.le_refl _)).1; omega⟩
  have hk : BankAt w2 g h (zeros N) 0 := by rw [show (offT l n).toNat = N by omega] at hk; exact hk
  have HNN := Lib.hid hN
  obtain ⟨m, hm⟩ : ∃ m : Nat, widthF (laidS l) n = (m : Int) := ⟨(widthF (laidS l) n).toNat, by have := (widthF_bounds (wrongE_zero (laid_wrong hok (tries := 1) (by omega))).2.1 n (Nat.le_refl _)).1; omega⟩
  have HM := Lib.hid hm
  have HMB := Lib.hid (wide_bounds hok hm)
  have K0 := Lib.hid hk
  have S0 := Lib.hid (srow_of_own hown (by have := hok.1; omega))
  have HN5 := Lib.hid hok.1
  have HW0 := Lib.hid (geo hok hN (show 0 < n by have := hok.1; omega) 0)
  obtain ⟨tb, tob, rfl, htb, htc⟩ := HG.out (by have := hok.1; omega)
  have HTB := Lib.hid htb
  have HTC := Lib.hid htc
  have HSZ2 := Lib.hid q3
  clear hok q0 q1 q2 q3 hk hown hN hm HG htb htc JB2 hjbe hjb
  have HM0 := Lib.hid (show (l 0).words = (mT l 0 : Int) from HW0.out.2.1)
  have HM04 := Lib.hid HW0.out.2.2.2.2.2.2.2.2.2
  have kw2 : wrap64 ((l 0).words + 2) = (l 0).words + 2 := wrap64_in _ (by have := HM0.out; have := HM04.out; omega)
  by_cases q1 : st < 0
  · skip
    have kq1 : decide (st < 0) = true := decide_eq_true (by omega)
    clear q1
    have kz0 : (0 : Int) < (n : Int) := by have := HN5.out; omega
    go_upto_region 2 with fail
    have hne : Nonempty (Held (fun W => W = w2.drew)) := ⟨⟨_, rfl⟩⟩
    have r0 : ∀ y : Held (fun W => W = w2.drew), y.w.cell? ⟨w.heap.size, 0, none⟩ = some (.int .i64 st) := fun y => by rw [y.ok, HJB.out]; exact JB3.out.cell 0
    have rt : ∀ y : Held (fun W => W = w2.drew), y.w.cell? ⟨tb, tob + 0 * 2, none⟩ = some (.int .i64 (l 0).words) := fun y => by rw [y.ok]; exact (L2.out.drew.cell (p := ⟨tb, tob + 0 * 2, none⟩) HTB.out).trans (HTC.out 0 (by have := HN5.out; omega)).1
    have rt2 := rt
    simp only [Nat.zero_mul, Nat.add_zero] at rt2
    refine drawn_bars (S := fun _ => True) [] [0, 1, 2, 3, 4, 5, 6, 7, 8, 9, 10, 11, 12, 13, 14, 15, 16, 17, 18, 19, 20, 21] (by kernel_rfl) (by kernel_rfl) (by kernel_rfl) rfl trivial ?_
    refine Phased.end_ ?_
    simp only [pick, List.map_cons, List.map_nil, List.getElem?_cons_zero, List.getElem?_cons_succ, Option.getD_some]
    repeat (go_big_quiet_step (fail))
    refine wpQuiet_nil ?_
    clear hne r0 rt rt2 kz0
    have ee : Ex (fun _ => False) w2 w2.drew := (Ex.refl _ w2).drew
    have J_2 := Lib.hid (JB3.out.ex ee (fun h => h))
    have K_2 := Lib.hid (K0.out.ex ee (fun h => h) (fun h => h))
    have S_2 := Lib.hid (S0.out.ex ee (fun h => h))
    have L_2 := Lib.hid (Ex.below L2.out ee (fun k hk => hk.elim))
    clear ee JB3 K0 S0 L2
    generalize w2.drew = w3 at *
    go_wp2_with fail
    refine (awake_any _).mono ?_; rintro e wz ⟨rfl, hb⟩
    have LZ := Lib.hid (bl L_2.out hb)
    clear hb
    go_wp2_with fail
    go_ret
    exact ⟨rfl, LZ.out⟩
  by_cases q2 : 6 < st
  · skip
    have kq1 : decide (st < 0) = false := decide_eq_false (by omega)
    have kq2 : decide (st > 6) = true := decide_eq_true (by omega)
    clear q1 q2
    have kz0 : (0 : Int) < (n : Int) := by have := HN5.out; omega
    go_upto_region 2 with fail
    have hne : Nonempty (Held (fun W => W = w2.drew)) := ⟨⟨_, rfl⟩⟩
    have r0 : ∀ y : Held (fun W => W = w2.drew), y.w.cell? ⟨w.heap.size, 0, none⟩ = some (.int .i64 st) := fun y => by rw [y.ok, HJB.out]; exact JB3.out.cell 0
    have rt : ∀ y : Held (fun W => W = w2.drew), y.w.cell? ⟨tb, tob + 0 * 2, none⟩ = some (.int .i64 (l 0).words) := fun y => by rw [y.ok]; exact (L2.out.drew.cell (p := ⟨tb, tob + 0 * 2, none⟩) HTB.out).trans (HTC.out 0 (by have := HN5.out; omega)).1
    have rt2 := rt
    simp only [Nat.zero_mul, Nat.add_zero] at rt2
    refine drawn_bars (S := fun _ => True) [] [0, 1, 2, 3, 4, 5, 6, 7, 8, 9, 10, 11, 12, 13, 14, 15, 16, 17, 18, 19, 20, 21] (by kernel_rfl) (by kernel_rfl) (by kernel_rfl) rfl trivial ?_
    refine Phased.end_ ?_
    simp only [pick, List.map_cons, List.map_nil, List.getElem?_cons_zero, List.getElem?_cons_succ, Option.getD_some]
    repeat (go_big_quiet_step (fail))
    refine wpQuiet_nil ?_
    clear hne r0 rt rt2 kz0
    have ee : Ex (fun _ => False) w2 w2.drew := (Ex.refl _ w2).drew
    have J_2 := Lib.hid (JB3.out.ex ee (fun h => h))
    have K_2 := Lib.hid (K0.out.ex ee (fun h => h) (fun h => h))
    have S_2 := Lib.hid (S0.out.ex ee (fun h => h))
    have L_2 := Lib.hid (Ex.below L2.out ee (fun k hk => hk.elim))
    clear ee JB3 K0 S0 L2
    generalize w2.drew = w3 at *
    go_wp2_with fail
    refine (awake_any _).mono ?_; rintro e wz ⟨rfl, hb⟩
    have LZ := Lib.hid (bl L_2.out hb)
    clear hb
    go_wp2_with fail
    go_ret
    exact ⟨rfl, LZ.out⟩
  by_cases q3 : (l 0).words + 2 < st
  · skip
    have kq1 : decide (st < 0) = false := decide_eq_false (by omega)
    have kq2 : decide (st > 6) = false := decide_eq_false (by omega)
    have kq3 : decide (st > (l 0).words + 2) = true := decide_eq_true (by omega)
    clear q1 q2 q3
    have kz0 : (0 : Int) < (n : Int) := by have := HN5.out; omega
    go_upto_region 2 with fail
    have hne : Nonempty (Held (fun W => W = w2.drew)) := ⟨⟨_, rfl⟩⟩
    have r0 : ∀ y : Held (fun W => W = w2.drew), y.w.cell? ⟨w.heap.size, 0, none⟩ = some (.int .i64 st) := fun y => by rw [y.ok, HJB.out]; exact JB3.out.cell 0
    have rt : ∀ y : Held (fun W => W = w2.drew), y.w.cell? ⟨tb, tob + 0 * 2, none⟩ = some (.int .i64 (l 0).words) := fun y => by rw [y.ok]; exact (L2.out.drew.cell (p := ⟨tb, tob + 0 * 2, none⟩) HTB.out).trans (HTC.out 0 (by have := HN5.out; omega)).1
    have rt2 := rt
    simp only [Nat.zero_mul, Nat.add_zero] at rt2
    refine drawn_bars (S := fun _ => True) [] [0, 1, 2, 3, 4, 5, 6, 7, 8, 9, 10, 11, 12, 13, 14, 15, 16, 17, 18, 19, 20, 21] (by kernel_rfl) (by kernel_rfl) (by kernel_rfl) rfl trivial ?_
    refine Phased.end_ ?_
    simp only [pick, List.map_cons, List.map_nil, List.getElem?_cons_zero, List.getElem?_cons_succ, Option.getD_some]
    repeat (go_big_quiet_step (fail))
    refine wpQuiet_nil ?_
    clear hne r0 rt rt2 kz0
    have ee : Ex (fun _ => False) w2 w2.drew := (Ex.refl _ w2).drew
    have J_2 := Lib.hid (JB3.out.ex ee (fun h => h))
    have K_2 := Lib.hid (K0.out.ex ee (fun h => h) (fun h => h))
    have S_2 := Lib.hid (S0.out.ex ee (fun h => h))
    have L_2 := Lib.hid (Ex.below L2.out ee (fun k hk => hk.elim))
    clear ee JB3 K0 S0 L2
    generalize w2.drew = w3 at *
    go_wp2_with fail
    refine (awake_any _).mono ?_; rintro e wz ⟨rfl, hb⟩
    have LZ := Lib.hid (bl L_2.out hb)
    clear hb
    go_wp2_with fail
    go_ret
    exact ⟨rfl, LZ.out⟩
  have kq1 : decide (st < 0) = false := decide_eq_false (by omega)
  have kq2 : decide (st > 6) = false := decide_eq_false (by omega)
  have kq3 : decide (st > (l 0).words + 2) = false := decide_eq_false (by omega)
  obtain ⟨sn, rfl⟩ : ∃ sn : Nat, st = sn := ⟨st.toNat, by omega⟩
  have HST := Lib.hid (show sn ≤ mT l 0 + 2 ∧ sn ≤ 6 by have := HM0.out; omega)
  clear q1 q2 q3
  have kz0 : (0 : Int) < (n : Int) := by have := HN5.out; omega
  go_upto_region 2 with fail
  have hne : Nonempty (Held (fun W => W = w2.drew)) := ⟨⟨_, rfl⟩⟩
  have r0 : ∀ y : Held (fun W => W = w2.drew), y.w.cell? ⟨w.heap.size, 0, none⟩ = some (.int .i64 (sn : Int)) := fun y => by rw [y.ok, HJB.out]; exact JB3.out.cell 0
  have rt : ∀ y : Held (fun W => W = w2.drew), y.w.cell? ⟨tb, tob + 0 * 2, none⟩ = some (.int .i64 (l 0).words) := fun y => by rw [y.ok]; exact (L2.out.drew.cell (p := ⟨tb, tob + 0 * 2, none⟩) HTB.out).trans (HTC.out 0 (by have := HN5.out; omega)).1
  have rt2 := rt
  simp only [Nat.zero_mul, Nat.add_zero] at rt2
  refine drawn_bars (S := fun _ => True) [] [0, 1, 2, 3, 4, 5, 6, 7, 8, 9, 10, 11, 12, 13, 14, 15, 16, 17, 18, 19, 20, 21] (by kernel_rfl) (by kernel_rfl) (by kernel_rfl) rfl trivial ?_
  refine Phased.end_ ?_
  simp only [pick, List.map_cons, List.map_nil, List.getElem?_cons_zero, List.getElem?_cons_succ, Option.getD_some]
  repeat (go_big_quiet_step (fail))
  refine wpQuiet_nil ?_
  clear hne r0 rt rt2 kz0
  have ee : Ex (fun _ => False) w2 w2.drew := (Ex.refl _ w2).drew
  have J_2 := Lib.hid (JB3.out.ex ee (fun h => h))
  have K_2 := Lib.hid (K0.out.ex ee (fun h => h) (fun h => h))
  have S_2 := Lib.hid (S0.out.ex ee (fun h => h))
  have L_2 := Lib.hid (Ex.below L2.out ee (fun k hk => hk.elim))
  clear ee JB3 K0 S0 L2
  generalize w2.drew = w3 at *
  skip
  go_wp2_with fail
  clear kq1 kq2 kq3 kw2
  obtain ⟨BB, hBB⟩ : ∃ BB, w3.heap.size = BB := ⟨_, rfl⟩
  have hgB : g < BB := hBB ▸ K_2.out.head.lt
  have ORD3 := Lib.hid (show w.heap.size = jb ∧ jb < r ∧ r < h ∧ h < g ∧ g < BB from by have o_ := ORD1.out; omega)
  clear ORD1
  have OW0 := Lib.hid (OwnR.nil w3 BB)
  have HB0 := Lib.hid (show BB ≤ w3.heap.size from Nat.le_of_eq hBB.symm)
  clear hBB hgB
  obtain ⟨wk, rfl⟩ : ∃ wk : World, wk = w3 := ⟨_, rfl⟩
  go_loopw [10, 11, 12, 13, 14] (fun s10 s11 s12 s13 s14 wr => ∃ (k : Nat) (t : Int) (ws : List Int), k ≤ n ∧ s12 = .int .i64 k ∧ s10 = .int .i64 (2 * (k : Int) + widthF (laidS l) k) ∧ OwnR wr BB s11 (ofF k fun j => (timesF ts j : Int)) ∧ SeqIs l n N ws (cntA ts k) ∧ BankAt wr g h ws t ∧ SRow wr r n (laidS l) ∧ Blk wr jb 79 #[.int .i64 sn, .bool bt] ∧ BB ≤ wr.heap.size ∧ Below w.heap.size w wr) (fun s10 s11 s12 s13 s14 _ => n - (intOf s12).toNat)
  case atStart => exact ⟨0, 0, zeros N, by omega, rfl, rfl, OW0.out, SeqIs.zero.congr (fun j _ => by unfold cntA; rw [if_neg (by omega)]), K_2.out, S_2.out, J_2.out, HB0.out, L_2.out⟩
  case round =>
    clear K_2 S_2 J_2 L_2 OW0 HB0
    obtain ⟨k, t, ws, hk, rfl, rfl, how, hsq, hbk, hsr, hj, hz, hl⟩ := hrel
    have K0 := Lib.hid hbk
    have S0 := Lib.hid hsr
    have J0 := Lib.hid hj
    have L0 := Lib.hid hl
    have O0 := Lib.hid how
    have Z0 := Lib.hid hz
    have HSQ := Lib.hid hsq
    clear hbk hsr hl hj how hz hsq
    by_cases hlt : k < n
    · have kd : decide ((k : Int) < (n : Int)) = true := decide_eq_true (by omega)
      have ki0 : (0 : Int) ≤ (k : Int) := by omega
      have ki1 : (k : Int) < (n : Int) := by omega
      have ki5 : (k : Int) ≤ 5 := by have := HN5.out; omega
      have HI := Lib.hid hlt
      clear hk hlt
      obtain ⟨AT, ct, hte, htl, htf⟩ := HTI.out.form
      have HTL := Lib.hid htl
      have HTE := Lib.hid htf
      subst hte
      clear htf
      obtain ⟨cb, hcb⟩ : ∃ cb, decide (k < ts.length ∧ 0 < nth ts k ∧ nth ts k ≤ 8) = cb := ⟨_, rfl⟩
      have HCB := Lib.hid hcb
      clear hcb htl
      go_upto_region 10 with fail
      obtain ⟨wq, rfl⟩ : ∃ W : World, W = wr := ⟨_, rfl⟩
      go_cut [85] from 68 to 85 (fun v wx => v = .bool cb ∧ wx = wq)
      case first =>
        by_cases hc1 : k < ts.length
        · have kc1 : decide ((k : Int) < (ts.length : Int)) = true := decide_eq_true (by omega)
          have kc5 : (k : Int) < (ts.length : Int) := by omega
          obtain ⟨b2, o2, rfl, hb2, hx2⟩ := HTE.out (by intro e; subst e; simp at hc1)
          have hx3 := (L0.out.cell (p := ⟨b2, o2 + k, none⟩) hb2).trans (hx2 k hc1)
          clear hb2 hx2
          have hcbe := HCB.out
          generalize nth ts k = z at *
          by_cases hc2 : 0 < z
          · have kc2 : decide (z > 0) = true := decide_eq_true hc2
            by_cases hc3 : z ≤ 8
            · have kc3 : decide (z ≤ 8) = true := decide_eq_true hc3
              rw [decide_eq_true ⟨hc1, hc2, hc3⟩] at hcbe
              subst hcbe
              clear hc1 hc2 hc3
              go_wp2_with fail
              go_meet
              exact ⟨rfl, rfl⟩
            · have kc3 : decide (z ≤ 8) = false := decide_eq_false hc3
              rw [decide_eq_false (fun h => hc3 h.2.2)] at hcbe
              subst hcbe
              clear hc1 hc2 hc3
              go_wp2_with fail
              go_meet
              exact ⟨rfl, rfl⟩
          · have kc2 : decide (z > 0) = false := decide_eq_false hc2
            rw [decide_eq_false (fun h => hc2 h.2.1)] at hcbe
            subst hcbe
            clear hc1 hc2
            go_wp2_with fail
            go_meet
            exact ⟨rfl, rfl⟩
        · have kc1 : decide ((k : Int) < (ts.length : Int)) = false := decide_eq_false (by omega)
          have hcbe := HCB.out
          rw [decide_eq_false (fun h => hc1 h.1)] at hcbe
          subst hcbe
          have kc2 : decide (k < ts.length) = false := decide_eq_false hc1
          have kc3 : ¬ (k : Int) < (ts.length : Int) := by omega
          go_wp2_with fail
          go_meet
          exact ⟨rfl, rfl⟩
      case rest =>
        obtain ⟨rfl, hwc⟩ := hcut
        subst hwc
        go_upto_if 85 with fail
        go_cut [13] from 85 to 89 (fun v wx => v = .int .i64 (timesF ts k : Int) ∧ wx = wc)
        case first =>
          cases cb with
          | true =>
            have hcc := of_decide_eq_true HCB.out
            have htm : (timesF ts k : Int) = nth ts k := by unfold timesF; rw [if_pos hcc]; omega
            have kc5 : (k : Int) < (ts.length : Int) := by omega
            obtain ⟨b2, o2, rfl, hb2, hx2⟩ := HTE.out (by intro e; subst e; simp at hcc)
            have hx3 := (L0.out.cell (p := ⟨b2, o2 + k, none⟩) hb2).trans (hx2 k hcc.1)
            clear hb2 hx2 hcc
            have HTMM := Lib.hid htm
            clear htm
            generalize nth ts k = z at *
            go_wp2_with fail
            go_meet
            exact ⟨by rw [HTMM.out], rfl⟩
          | false =>
            have hcc := of_decide_eq_false HCB.out
            have htm : (timesF ts k : Int) = 0 := by unfold timesF; rw [if_neg hcc]; rfl
            have HTMM := Lib.hid htm
            clear htm
            go_wp2_with fail
            go_meet
            exact ⟨by rw [HTMM.out], rfl⟩
        case rest =>
          obtain ⟨rfl, hwc⟩ := hcut
          subst hwc
          clear HCB HTE HTL
          have HTM := Lib.hid (timesF_le ts k)
          generalize hMM : timesF ts k = M at *
          have HMM := Lib.hid hMM
          clear hMM
          go_wp2_with fail
          obtain ⟨wk2, rfl⟩ : ∃ wk2 : World, wk2 = wc := ⟨_, rfl⟩
          go_loopw [14] (fun s14 wr => ∃ (i : Nat) (t : Int) (ws : List Int), i ≤ M ∧ s14 = .int .i64 i ∧ SeqIs l n N ws (cntB ts k i) ∧ BankAt wr g h ws t ∧ SRow wr r n (laidS l) ∧ Blk wr jb 79 #[.int .i64 sn, .bool bt] ∧ OwnR wr BB u11 (ofF k fun j => (timesF ts j : Int)) ∧ BB ≤ wr.heap.size ∧ Below w.heap.size w wr) (fun s14 _ => M - (intOf s14).toNat)
          case atStart => exact ⟨0, t, ws, by omega, rfl, HSQ.out.congr (fun j _ => cnt_zero ts k j), K0.out, S0.out, J0.out, O0.out, Z0.out, L0.out⟩
          case round =>
            clear K0 S0 J0 L0 O0 Z0 HSQ
            obtain ⟨i, t, ws, hi, rfl, hsq, hbk, hsr, hj, how, hz, hl⟩ := hrel
            have K0 := Lib.hid hbk
            have S0 := Lib.hid hsr
            have J0 := Lib.hid hj
            have L0 := Lib.hid hl
            have O0 := Lib.hid how
            have Z0 := Lib.hid hz
            have HSQ := Lib.hid hsq
            clear hbk hsr hl hj how hz hsq
            by_cases hlt : i < M
            · have kd2 : decide ((i : Int) < (M : Int)) = true := decide_eq_true (by omega)
              have kI5 : (i : Int) ≤ 8 := by have := HTM.out; omega
              have kx1 : wrap64 (10 * (k : Int)) = 10 * (k : Int) := wrap64_in _ (by omega)
              have kx2 : wrap64 (10 * (k : Int) + (i : Int)) = 10 * (k : Int) + (i : Int) := wrap64_in _ (by omega)
              have kx3 : IntKind.u64.wrap (10 * (k : Int) + (i : Int)) = 10 * (k : Int) + (i : Int) := u64_wrap_in (by omega)
              have HII := Lib.hid hlt
              have HGE := Lib.hid (geo TOK.out HNN.out HI.out i)
              have hcnt : nth ws (qT l k) = 2 * (i : Int) := by have := HSQ.out.2 k HI.out; rw [cntB_self] at this; exact this
              have HP := Lib.hid (publish_any g h ws t (laidS l k) (mT l k) (qT l k) (pG l k i) i (10 * (k : Int) + (i : Int)) wr HGE.out.1 HGE.out.2.1 HGE.out.2.2.1 (by have := HTM.out; omega) K0.out (by rw [HSQ.out.1]; exact HGE.out.2.2.2.1) hcnt HGE.out.2.2.2.2.1 (by rw [HSQ.out.1]; exact HGE.out.2.2.2.2.2.1) HGE.out.2.2.2.2.2.2.1 ⟨K0.out.head.lt, K0.out.row.lt⟩)
              have HSP := Lib.hid (S0.out.five HI.out)
              have hq2 := HSQ.out.pub TOK.out HNN.out HI.out (10 * (k : Int) + (i : Int))
              rw [cntB_self] at hq2
              have HQ2 := Lib.hid (hq2.congr (c2 := cntB ts k (i + 1)) (fun j _ => up_inner ts k i j))
              clear hlt hi hcnt hq2
              generalize laidS l k = s at HP HSP ⊢
              obtain ⟨e0, e1, e2, e3, e4⟩ := HSP.out
              unfold Spot.val at HP
              go_wp2_with fail
              clear e0 e1 e2 e3 e4 HSP kx1 kx2 kx3
              refine HP.out.mono ?_; rintro e w4 ⟨rfl, hk4, hx4⟩
              have ee : Ex (fun k => k = g ∨ k = h) wr w4 := hx4
              have J_4 := Lib.hid (J0.out.ex ee (by have o_ := ORD3.out; omega))
              have S_4 := Lib.hid (S0.out.ex ee (by have o_ := ORD3.out; omega))
              have O_4 := Lib.hid (O0.out.ex ee (fun b_ h_ => by have o_ := ORD3.out; have h_ : b_ = g ∨ b_ = h := h_; first | omega | (show _ ∨ _; omega)))
              have L_4 := Lib.hid (Ex.below L0.out ee (fun k hk => by have o_ := ORD3.out; have hk : k = g ∨ k = h := hk; omega))
              have K_4 := Lib.hid (hk4)
              clear ee J0 K0 S0 O0 L0 hk4
              have Z1 := Lib.hid (Nat.le_trans Z0.out hx4.size)
              clear hx4 HP Z0
              go_wp2_with fail
              go_roundw
              case rel => exact ⟨i + 1, _, _, by have := HII.out; omega, by go_num, HQ2.out, K_4.out, S_4.out, J_4.out, O_4.out, Z1.out, L_4.out⟩
              case measure => have := HII.out; simp [intOf]; omega
            · obtain rfl : i = M := by omega
              have kd2 : decide ((i : Int) < (i : Int)) = false := decide_eq_false (by omega)
              have kx : IntKind.u64.wrap (i : Int) = (i : Int) := u64_wrap_in (by have := HTM.out; omega)
              clear hi hlt
              obtain ⟨i0_, hi0, hz0, hz1, hz2⟩ := info_parts wordU_info
              obtain ⟨va, vc, rfl⟩ := O0.out.form
              have OWN := Lib.hid (show wr.ownsRow BB 42 1 _ (ofF k fun j => (timesF ts j : Int)).length _ from O0.out)
              go_wp2_with (at_builtin; refine wpList_append_own _ rfl _ _ 41 rfl BB 42 i0_ (.int .u64 0) 1 8 Try.underlying41 hi0 hz0 hz1 hz2 rfl (by decide) _ _ _ rfl (OWN.out.alloc _) ⟨wr.heap.size, 0, none⟩ 1 1 [.int .u64 i] rfl rfl ?c1 ?c2 ?c3 ?c4 ?c5 ?_)
              case c1 =>
                have hbn := Blk.new wr 42 #[.int .u64 (i : Int)]
                intro j u hj
                match j, hj with
                | 0, hj => simp at hj; subst hj; exact hbn.cell 0
              case c2 =>
                intro u hu
                simp only [List.mem_cons, List.not_mem_nil, or_false] at hu
                subst hu; rfl
              case c3 => rw [ofF_len]; have := HI.out; have := HN5.out; unfold maxLen; omega
              case c4 => rw [ofF_len]; have := HI.out; have := HN5.out; omega
              case c5 => have := Z0.out; simp; omega
              intro v' w8 hown' hgrow _
              have hbel' := ((Below.refl BB wr).alloc Z0.out (.cells #[.int .u64 (i : Int)] 42)).grown hgrow (by have := Z0.out; simp; omega) (fun k hk => (OWN.out.lt k hk).1)
              have he : Ex (fun k => BB ≤ k) wr w8 := ⟨hbel'.os, hbel'.tape, hbel'.output, hbel'.size, fun k hk hn => hbel'.block k (by omega)⟩
              have hown2 : OwnR w8 BB v' (ofF (k + 1) fun j => (timesF ts j : Int)) := by
                rw [ofF_succ, HMM.out]
                unfold OwnR
                simpa using hown'
              clear hown' hgrow hbel' kx OWN
              have K_9 := Lib.hid (K0.out.ex he (by have o_ := ORD3.out; omega) (by have o_ := ORD3.out; omega))
              have S_9 := Lib.hid (S0.out.ex he (by have o_ := ORD3.out; omega))
              have J_9 := Lib.hid (J0.out.ex he (by have o_ := ORD3.out; omega))
              have L_9 := Lib.hid (Ex.below L0.out he (fun k hk => by have o_ := ORD3.out; have hk : BB ≤ k := hk; omega))
              have Z_9 := Lib.hid (Nat.le_trans Z0.out he.size)
              have O_9 := Lib.hid hown2
              clear K0 S0 J0 L0 Z0 O0 he hown2
              have tc := (L_9.out.cell (p := ⟨tb, tob + k * 2, none⟩) HTB.out).trans (HTC.out k HI.out).1
              have HWD := Lib.hid (width_num2 TOK.out HI.out)
              have kn2 := HWD.out.1
              go_wp2_with fail
              exact ⟨⟨k + 1, t, ws, by have := HI.out; omega, by go_num, by rw [HWD.out.2], O_9.out, HSQ.out.congr (fun j _ => up_outer ts k i j HMM.out), K_9.out, S_9.out, J_9.out, Z_9.out, L_9.out⟩, by have := HI.out; simp [intOf]; omega⟩
    · obtain rfl : k = n := by omega
      have kd : decide ((k : Int) < (k : Int)) = false := decide_eq_false (by omega)
      clear hk hlt
      have HSQ2 := Lib.hid (HSQ.out.congr (c2 := timesF ts) (fun j hj => by unfold cntA; rw [if_pos hj]))
      clear HSQ
      obtain ⟨gr, gc, hge, hgb, hgr⟩ := grow_of_own O0.out (by intro e; have := ofF_len k (fun j => (timesF ts j : Int)); rw [e] at this; have := HN5.out; simp at *; omega)
      rw [ofF_len] at hge
      subst hge
      have HGB := Lib.hid (show BB ≤ gr ∧ gr < wr.heap.size from ⟨hgb, hgr.lt⟩)
      have G0 := Lib.hid hgr
      clear hgb hgr
      have ORD4 := Lib.hid (show w.heap.size = jb ∧ jb < r ∧ r < h ∧ h < g ∧ g < BB ∧ g < gr ∧ gr ≥ BB from by have o_ := ORD3.out; have := HGB.out; omega)
      obtain ⟨c0n, hc0n⟩ : ∃ c, timesF ts 0 = c := ⟨_, rfl⟩
      have HC0 := Lib.hid (show timesF ts 0 = c0n ∧ c0n ≤ 8 from ⟨hc0n, hc0n ▸ timesF_le ts 0⟩)
      clear hc0n O0 Z0
      obtain ⟨q, hqe⟩ : ∃ q, k = q + 1 := ⟨k - 1, by have := HN5.out; omega⟩
      have HQE := Lib.hid hqe
      have kl1 : wrap64 ((k : Int) - 1) = (q : Int) := by rw [wrap64_in _ (by have := HN5.out; omega)]; omega
      clear hqe
      have kz0 : (0 : Int) < (k : Int) := by have := HN5.out; omega
      go_upto_region 20 with fail
      have hne : Nonempty (Held (Below wr.heap.size wr)) := ⟨⟨wr, Below.refl _ _⟩⟩
      have s0 : ∀ y : Held (Below wr.heap.size wr), y.w.cell? ⟨r, 0 * 5 + 0, none⟩ = some (.int .i64 (laidS l 0).owners) := fun y => (S0.out.bl y.ok).cell 0 (by have := HN5.out; omega) 0 (by decide)
      have s1 : ∀ y : Held (Below wr.heap.size wr), y.w.cell? ⟨r, 0 * 5 + 1, none⟩ = some (.int .i64 (laidS l 0).seq) := fun y => (S0.out.bl y.ok).cell 0 (by have := HN5.out; omega) 1 (by decide)
      have s2 : ∀ y : Held (Below wr.heap.size wr), y.w.cell? ⟨r, 0 * 5 + 2, none⟩ = some (.int .i64 (laidS l 0).first) := fun y => (S0.out.bl y.ok).cell 0 (by have := HN5.out; omega) 2 (by decide)
      have s3 : ∀ y : Held (Below wr.heap.size wr), y.w.cell? ⟨r, 0 * 5 + 3, none⟩ = some (.int .i64 (laidS l 0).words) := fun y => (S0.out.bl y.ok).cell 0 (by have := HN5.out; omega) 3 (by decide)
      have s4 : ∀ y : Held (Below wr.heap.size wr), y.w.cell? ⟨r, 0 * 5 + 4, none⟩ = some (.int .i64 (laidS l 0).depth) := fun y => (S0.out.bl y.ok).cell 0 (by have := HN5.out; omega) 4 (by decide)
      have rt : ∀ y : Held (Below wr.heap.size wr), y.w.cell? ⟨tb, tob + 0 * 2, none⟩ = some (.int .i64 (mT l 0 : Int)) := fun y => by rw [← HM0.out]; exact ((bl L0.out y.ok).cell (p := ⟨tb, tob + 0 * 2, none⟩) HTB.out).trans (HTC.out 0 (by have := HN5.out; omega)).1
      have rt2 := rt
      simp only [Nat.zero_mul, Nat.add_zero, Nat.zero_add] at s0 s1 s2 s3 s4 rt2
      have HNW := Lib.hid (fun r c W (h : IntsIn W .u64 r c (recL (mT l 0) 9)) => WNew_in (laidS l 0) 1 r 0 (mT l 0) c (recL (mT l 0) 9) W (by unfold mayF; exact decide_eq_true ⟨HW0.out.1, by omega, by omega⟩) HW0.out.2.1.symm (recL_len _ _) h.lt (fun i hi => by rw [Nat.zero_add]; exact h.at_ i (by rw [recL_len]; exact hi)))
      unfold Spot.val at HNW
      refine drawn_bars (S := (Below wr.heap.size wr)) [([0, 1, 2, 3, 4, 5, 6], 7), ([], 8)] [9, 10, 11, 12, 13] (by kernel_rfl) (by kernel_rfl) (by kernel_rfl) rfl (Below.refl _ _).drew ?_
      refine Phased.go ?_
      simp only [pick, List.map_cons, List.map_nil, List.getElem?_cons_zero, List.getElem?_cons_succ, Option.getD_some]
      repeat (go_big_quiet_step (fail))
      refine wpQuiet_nil ?_
      go_wp2_with fail
      refine (record_any (mT l 0) 9 wr.drew (by have := HM04.out; omega)).mono ?_; rintro e w4 ⟨rv, rfl, hown, hl1⟩
      obtain ⟨rr, rc, rfl, hrb, hri⟩ := rec_slice hown (by have := HM04.out; omega) (by have := HM04.out; omega)
      have hl2 := bl ((Below.refl wr.heap.size wr).drew) hl1
      clear hown
      go_wp2_with fail
      refine behind_normal ⟨(Below wr.heap.size wr), fun W h => h, hl2, ?_⟩
      refine Phased.go ?_
      simp only [pick, List.map_cons, List.map_nil, List.getElem?_cons_zero, List.getElem?_cons_succ, Option.getD_some]
      repeat (go_big_quiet_step (fail))
      refine wpQuiet_nil ?_
      go_wp2_with fail
      refine (HNW.out _ _ _ hri).mono ?_; rintro e w5 ⟨ow, rw0, cc, rfl, hwo, q1, q2, hl3⟩
      have hl4 := bl hl2 hl3
      go_wp2_with fail
      refine behind_normal ⟨(Below wr.heap.size wr), fun W h => h, hl4, ?_⟩
      refine Phased.end_ ?_
      have hne5 : Nonempty (Held (fun W => W = w5)) := ⟨⟨_, rfl⟩⟩
      simp only [pick, List.map_cons, List.map_nil, List.getElem?_cons_zero, List.getElem?_cons_succ, Option.getD_some]
      repeat (go_big_quiet_step (fail))
      refine wpQuiet_nil ?_
      clear hne5 HNW rt rt2 hne s0 s1 s2 s3 s4
      have hq3 : wr.heap.size ≤ rw0 := Nat.le_trans hl2.size q1
      have hkl := K0.out.head.lt
      have hkl2 := K0.out.row.lt
      have ORD5 := Lib.hid (show w.heap.size = jb ∧ jb < r ∧ r < h ∧ h < g ∧ g < BB ∧ g < gr ∧ gr ≥ BB ∧ gr < rw0 ∧ rw0 < ow from by have o_ := ORD4.out; have := HGB.out; omega)
      clear ORD4
      clear q1 q2 hq3 hkl hkl2 hri hrb hl1 hl2 hl3
      have ee : Ex (fun _ => False) wr w5 := Ex.of_below hl4
      have J_6 := Lib.hid (J0.out.ex ee (fun h => h))
      have K_6 := Lib.hid (K0.out.ex ee (fun h => h) (fun h => h))
      have S_6 := Lib.hid (S0.out.ex ee (fun h => h))
      have G_6 := Lib.hid (G0.out.ex ee (fun h => h))
      have L_6 := Lib.hid (Ex.below L0.out ee (fun k hk => hk.elim))
      have W_6 := Lib.hid (show OpAt w5 ow rw0 cc (laidS l 0) (recL (mT l 0) 9) 1 (aloneX (mT l 0) c0n 0) from hwo)
      clear ee J0 K0 S0 G0 L0 hl4 hwo HGB
      go_wp2_with fail
      refine (SNew_in _ k (laidS l) 2 w5 (S_6.out.sps (by have := HN5.out; unfold maxLen; omega)) (laid_wrong TOK.out (by omega)) m HM.out).mono ?_; rintro e w6 ⟨o, rs, cs, rg, rw, rfl, ho, q0, q1, q2, q3, hl⟩
      have hwl := W_6.out.head.lt
      have hwl2 := K_6.out.head.lt
      have ORD7 := Lib.hid (show w.heap.size = jb ∧ jb < r ∧ r < h ∧ h < g ∧ g < BB ∧ g < gr ∧ gr ≥ BB ∧ gr < rw0 ∧ rw0 < ow ∧ ow < rs ∧ ow < rg ∧ ow < rw ∧ ow < o from by have o_ := ORD5.out; omega)
      clear ORD5
      clear q0 q1 q2 q3 hwl hwl2
      have ee : Ex (fun _ => False) w5 w6 := Ex.of_below hl
      have J_8 := Lib.hid (J_6.out.ex ee (fun h => h))
      have K_8 := Lib.hid (K_6.out.ex ee (fun h => h) (fun h => h))
      have S_8 := Lib.hid (S_6.out.ex ee (fun h => h))
      have G_8 := Lib.hid (G_6.out.ex ee (fun h => h))
      have W_8 := Lib.hid (W_6.out.ex ee (fun h => h) (fun h => h))
      have L_8 := Lib.hid (Ex.below L_6.out ee (fun k hk => hk.elim))
      have O_8 := Lib.hid (show SnX w6 o rs cs rg rw k m (laidS l) (SX.zero 2 k m) from ho)
      clear ee J_6 K_6 S_6 G_6 W_6 L_6 ho hl
      go_wp2_with fail
      have HST2 := Lib.hid (fun i (hi : i < mT l 0 + 3) => by
        have hg := geo TOK.out HNN.out (show 0 < k by have := HN5.out; omega) c0n
        have hs0 := HSQ2.out.2 0 (by have := HN5.out; omega)
        rw [HC0.out.1] at hs0
        have := alone_step (s := laidS l 0) (rec := recL (mT l 0) 9) (tries := 1) (k := c0n) (p := pG l 0 c0n) (ws := ws) (q := qT l 0) (t := t) (by rw [recL_len]; have := HM04.out; omega) hg.2.2.1 (by rw [HSQ2.out.1]; exact hg.2.2.2.1) hs0 (by have := HC0.out; omega) hg.2.2.2.2.1 (by rw [recL_len, HSQ2.out.1]; exact hg.2.2.2.2.2.1) hg.2.2.2.2.2.2.1 i (by rw [recL_len]; exact hi)
        rw [recL_len] at this
        exact this)
      have HWI0 := Lib.hid (WInv.zero_ (s := laidS l 0) (rec := recL (mT l 0) 9) (tries := 1) (by unfold mayF; exact decide_eq_true ⟨HW0.out.1, by omega, by omega⟩) (by rw [recL_len]; exact HW0.out.2.1.symm) (recL_fit _ _))
      obtain ⟨wk3, rfl⟩ : ∃ wk3 : World, wk3 = w6 := ⟨_, rfl⟩
      go_loopw [20] (fun s20 wr => ∃ (i : Nat), i ≤ sn ∧ s20 = .int .i64 i ∧ WInv (laidS l 0) (recL (mT l 0) 9) 1 (aloneX (mT l 0) c0n i) ∧ Blk wr jb 79 #[.int .i64 sn, .bool bt] ∧ BankAt wr g h (aloneW (qT l 0) (pG l 0 c0n) (recL (mT l 0) 9) c0n ws i) (tickN t i) ∧ SRow wr r k (laidS l) ∧ GRow wr gr (ofF k fun j => (timesF ts j : Int)) ∧ OpAt wr ow rw0 cc (laidS l 0) (recL (mT l 0) 9) 1 (aloneX (mT l 0) c0n i) ∧ SnX wr o rs cs rg rw k m (laidS l) (SX.zero 2 k m) ∧ Below w.heap.size w wr) (fun s20 _ => sn - (intOf s20).toNat)
      case atStart => exact ⟨0, by omega, rfl, HWI0.out, J_8.out, K_8.out, S_8.out, G_8.out, W_8.out, O_8.out, L_8.out⟩
      case round =>
        clear J_8 K_8 S_8 G_8 W_8 O_8 L_8
        obtain ⟨i, hi, rfl, hwi, hj0, hbk, hsr, hgr, hwo, ho, hl⟩ := hrel
        have J0 := Lib.hid hj0
        have K0 := Lib.hid hbk
        have S0 := Lib.hid hsr
        have G0 := Lib.hid hgr
        have W0 := Lib.hid hwo
        have O0 := Lib.hid ho
        have L0 := Lib.hid hl
        clear hj0 hbk hsr hgr hwo ho hl
        have WI := Lib.hid hwi
        clear hwi
        have c0 : wr.cell? ⟨w.heap.size, 0, none⟩ = some (.int .i64 sn) := by rw [HJB.out]; exact J0.out.cell 0
        by_cases hlt : i < sn
        · have kd3 : decide ((i : Int) < (sn : Int)) = true := decide_eq_true (by omega)
          have kI5 : (i : Int) ≤ 6 := by have := HST.out; omega
          have HII := Lib.hid hlt
          have HS := Lib.hid (HST2.out i (by have := HST.out; omega))
          have HW := Lib.hid (WI.out.step (aloneW (qT l 0) (pG l 0 c0n) (recL (mT l 0) 9) c0n ws i) (tickN t i) K0.out.fit)
          rw [HS.out] at HW
          clear hi hlt
          go_wp2_with fail
          refine (WStep_any g h ow rw0 cc _ _ (laidS l 0) (recL (mT l 0) 9) 1 (aloneX (mT l 0) c0n i) _ K0.out W0.out WI.out (by have := ORD7.out; omega)).mono ?_; rintro e w7 ⟨rfl, hk6, ho6, hx6⟩
          rw [HS.out] at hk6 ho6
          clear c0
          have ee : Ex (fun k => k = g ∨ k = h ∨ k = ow) wr w7 := hx6
          have J_9 := Lib.hid (J0.out.ex ee (by have o_ := ORD7.out; omega))
          have S_9 := Lib.hid (S0.out.ex ee (by have o_ := ORD7.out; omega))
          have G_9 := Lib.hid (G0.out.ex ee (by have o_ := ORD7.out; omega))
          have O_9 := Lib.hid (O0.out.ex ee (by have o_ := ORD7.out; omega) (by have o_ := ORD7.out; omega) (by have o_ := ORD7.out; omega) (by have o_ := ORD7.out; omega))
          have L_9 := Lib.hid (Ex.below L0.out ee (fun k hk => by have o_ := ORD7.out; have hk : k = g ∨ k = h ∨ k = ow := hk; omega))
          have K_9 := Lib.hid (hk6)
          have W_9 := Lib.hid (ho6)
          clear ee J0 K0 S0 G0 W0 O0 L0 hk6 ho6 hx6
          go_wp2_with fail
          go_roundw
          case rel => exact ⟨i + 1, by have := HII.out; omega, by go_num, HW.out, J_9.out, K_9.out, S_9.out, G_9.out, W_9.out, O_9.out, L_9.out⟩
          case measure => have := HII.out; simp [intOf]; omega
        · obtain rfl : i = sn := by omega
          obtain ⟨sn, rfl⟩ : ∃ z, z = i := ⟨_, rfl⟩
          have kd3 : decide ((sn : Int) < (sn : Int)) = false := decide_eq_false (by omega)
          have HBG := Lib.hid (begun_gen TOK.out HNN.out HSQ2.out 9 (i := sn) HST.out.1)
          rw [HC0.out.1] at HBG
          clear hi hlt WI HST2 HWI0
          generalize aloneW (qT l 0) (pG l 0 c0n) (recL (mT l 0) 9) c0n ws sn = ws1 at *
          generalize tickN t sn = t1 at *
          generalize aloneX (mT l 0) c0n sn = xw at *
          have HGO := Lib.hid (HBG.out.1.gOf TOK.out HNN.out)
          have HLEN := Lib.hid (show (ws1.length : Int) = offT l k by rw [HBG.out.1.1]; exact HNN.out)
          have HWF := Lib.hid (wordF_range K0.out)
          go_wp2_with fail
          clear c0 kd3
          obtain ⟨wk4, rfl⟩ : ∃ wk4 : World, wk4 = wr := ⟨_, rfl⟩
          go_loopw [21] (fun s21 wr => ∃ (i : Nat) (t : Int), i ≤ k ∧ s21 = .int .i64 i ∧ Blk wr jb 79 #[.int .i64 sn, .bool bt] ∧ BankAt wr g h ws1 t ∧ SRow wr r k (laidS l) ∧ GRow wr gr (ofF k fun j => (timesF ts j : Int)) ∧ OpAt wr ow rw0 cc (laidS l 0) (recL (mT l 0) 9) 1 xw ∧ SnX wr o rs cs rg rw k m (laidS l) (xM k m 2 0 0 (gOf (laidS l) k ws1) (zeros k) (zeros m) (zeros m) i) ∧ Below w.heap.size w wr) (fun s21 _ => k - (intOf s21).toNat)
          case atStart => exact ⟨0, t1, by omega, rfl, J0.out, K0.out, S0.out, G0.out, W0.out, by rw [xM_zero _ _ _ HN5.out.1]; exact O0.out, L0.out⟩
          case round =>
            clear J0 K0 S0 G0 W0 O0 L0
            obtain ⟨i, t2, hi, rfl, hj0, hbk, hsr, hgr, hwo, ho, hl⟩ := hrel
            have J0 := Lib.hid hj0
            have K0 := Lib.hid hbk
            have S0 := Lib.hid hsr
            have G0 := Lib.hid hgr
            have W0 := Lib.hid hwo
            have O0 := Lib.hid ho
            have L0 := Lib.hid hl
            clear hj0 hbk hsr hgr hwo ho hl
            by_cases hlt : i < k
            · have kd3 : decide ((i : Int) < (k : Int)) = true := decide_eq_true (by omega)
              have kI5 : (i : Int) ≤ 5 := by have := HN5.out; omega
              have HII := Lib.hid hlt
              clear hi hlt
              have HOK := Lib.hid (xM_ok2 TOK.out HM.out (T := 2) (s0 := 0) (b0 := 0) (G := (gOf (laidS l) k ws1)) (G0 := zeros k) (V := zeros m) (V0 := zeros m) (by omega) (by have := HMB.out; have := HN5.out; omega) (gOf_fit HWF.out) (fun j _ => by rw [nth_zeros]; omega) (i := i) (by have := HN5.out; have := HMB.out; have := HII.out; omega))
              go_wp2_with fail
              have HS := Lib.hid (xM_A (m := m) (G := gOf (laidS l) k ws1) (V := zeros m) (V0 := zeros m) (T := 2) (s0 := 0) (b0 := 0) (G0 := zeros k) HII.out HN5.out.1 (seq_in TOK.out HLEN.out HII.out) (by unfold gOf; rw [ofF_nth _ _ HII.out]) t2)
              refine (SStep_any g h o rs cs rg rw k m ws1 t2 (laidS l) (xM k m 2 0 0 (gOf (laidS l) k ws1) (zeros k) (zeros m) (zeros m) i) _ K0.out O0.out HOK.out.inv (by have := ORD7.out; omega)).mono ?_; rintro e w7 ⟨rfl, hk5, ho5, hx5⟩
              rw [HS.out.1] at ho5 ⊢
              clear HS
              have ee : Ex (fun k => k = g ∨ k = h ∨ k = o ∨ k = rg ∨ k = rw) wr w7 := hx5
              have J_9 := Lib.hid (J0.out.ex ee (by have o_ := ORD7.out; omega))
              have S_9 := Lib.hid (S0.out.ex ee (by have o_ := ORD7.out; omega))
              have G_9 := Lib.hid (G0.out.ex ee (by have o_ := ORD7.out; omega))
              have W_9 := Lib.hid (W0.out.ex ee (by have o_ := ORD7.out; omega) (by have o_ := ORD7.out; omega))
              have L_9 := Lib.hid (Ex.below L0.out ee (fun k hk => by have o_ := ORD7.out; have hk : k = g ∨ k = h ∨ k = o ∨ k = rg ∨ k = rw := hk; omega))
              have K_9 := Lib.hid (hk5)
              have O_9 := Lib.hid (ho5)
              clear ee J0 K0 S0 G0 W0 O0 L0 hk5 ho5 hx5 HOK
              have hhow : ((xM k m 2 0 0 (gOf (laidS l) k ws1) (zeros k) (zeros m) (zeros m) (i + 1))).how = 0 := by unfold xM; simp only; rw [if_neg (by have := HII.out; have := HMB.out; omega)]
              rw [hhow]
              clear hhow
              go_wp2_with fail
              go_roundw
              case rel => exact ⟨i + 1, _, by have := HII.out; omega, by go_num, J_9.out, K_9.out, S_9.out, G_9.out, W_9.out, O_9.out, L_9.out⟩
              case measure => have := HII.out; simp [intOf]; omega
            · obtain rfl : i = k := by omega
              obtain ⟨k, rfl⟩ : ∃ z, z = i := ⟨_, rfl⟩
              have kd3 : decide ((k : Int) < (k : Int)) = false := decide_eq_false (by omega)
              clear hi hlt
              have c1 : wr.cell? ⟨w.heap.size, 1, none⟩ = some (.bool bt) := by rw [HJB.out]; exact J0.out.cell 1
              have kn1 : wrap64 (2 * (k : Int) + widthF (laidS l) k - 1) = 2 * (k : Int) + widthF (laidS l) k - 1 := wrap64_in _ (by have := HM.out; have := HMB.out; have := HN5.out; omega)
              have HNU := Lib.hid (show widthF (laidS l) k = (m : Int) from HM.out)
              by_cases hbt : bt = true ∧ 1 < k
              case pos =>
                obtain ⟨rfl, hk1⟩ := hbt
                have HQ1 := Lib.hid (show 1 ≤ q ∧ k = q + 1 ∧ q < k by have := HQE.out; omega)
                have kb : decide ((q : Int) > 0) = true := decide_eq_true (by have := HQ1.out; omega)
                have kb2 : decide (0 < q) = true := decide_eq_true (by have := HQ1.out; omega)
                have kq0 : (0 : Int) ≤ (q : Int) := by omega
                have kq1 : (q : Int) < (k : Int) := by have := HQ1.out; omega
                have kq5 : (q : Int) ≤ 5 := by have := HQ1.out; have := HN5.out; omega
                clear hk1
                obtain ⟨cq, hcq⟩ : ∃ cq, timesF ts q = cq := ⟨_, rfl⟩
                have HCQ := Lib.hid (show timesF ts q = cq ∧ cq ≤ 8 from ⟨hcq, hcq ▸ timesF_le ts q⟩)
                have HGQ := Lib.hid (geo TOK.out HNN.out HQ1.out.2.2 cq)
                have hcn : nth ws1 (qT l q) = 2 * (cq : Int) := by rw [HBG.out.2 q HQ1.out.1 HQ1.out.2.2, hcq]
                have HP := Lib.hid (publish_any g h ws1 t2 (laidS l q) (mT l q) (qT l q) (pG l q cq) cq 5 wr HGQ.out.1 HGQ.out.2.1 HGQ.out.2.2.1 (by have := HCQ.out; omega) K0.out (by rw [HBG.out.1.1]; exact HGQ.out.2.2.2.1) hcn HGQ.out.2.2.2.2.1 (by rw [HBG.out.1.1]; exact HGQ.out.2.2.2.2.2.1) HGQ.out.2.2.2.2.2.2.1 ⟨K0.out.head.lt, K0.out.row.lt⟩)
                have hb2 := between_gen TOK.out HNN.out HBG.out.1 HQ1.out.2.2 5
                rw [hcq] at hb2
                have HB2 := Lib.hid hb2
                have HSP := Lib.hid (S0.out.five HQ1.out.2.2)
                have hlen2 : (aloneW (qT l q) (pG l q cq) (recL (mT l q) 5) cq ws1 (mT l q + 3)).length = ws1.length := aloneW_len _
                clear hcq hcn hb2
                generalize aloneW (qT l q) (pG l q cq) (recL (mT l q) 5) cq ws1 (mT l q + 3) = ws2 at *
                have HLEN2 := Lib.hid (show (ws2.length : Int) = offT l k by rw [hlen2]; exact HLEN.out)
                clear hlen2
                generalize hsq9 : laidS l q = s at HP HSP
                clear hsq9
                obtain ⟨e0, e1, e2, e3, e4⟩ := HSP.out
                unfold Spot.val at HP
                go_wp2_with fail
                clear e0 e1 e2 e3 e4 HSP c1 kb kb2
                refine HP.out.mono ?_; rintro e w7 ⟨rfl, hk4, hx4⟩
                clear HP
                have ee : Ex (fun k => k = g ∨ k = h) wr w7 := hx4
                have J_9 := Lib.hid (J0.out.ex ee (by have o_ := ORD7.out; omega))
                have S_9 := Lib.hid (S0.out.ex ee (by have o_ := ORD7.out; omega))
                have G_9 := Lib.hid (G0.out.ex ee (by have o_ := ORD7.out; omega))
                have W_9 := Lib.hid (W0.out.ex ee (by have o_ := ORD7.out; omega) (by have o_ := ORD7.out; omega))
                have O_9 := Lib.hid (O0.out.ex ee (by have o_ := ORD7.out; omega) (by have o_ := ORD7.out; omega) (by have o_ := ORD7.out; omega) (by have o_ := ORD7.out; omega))
                have L_9 := Lib.hid (Ex.below L0.out ee (fun k hk => by have o_ := ORD7.out; have hk : k = g ∨ k = h := hk; omega))
                have K_9 := Lib.hid (hk4)
                clear ee J0 K0 S0 G0 W0 O0 L0 hk4 hx4
                have HWF2 := Lib.hid (wordF_range K_9.out)
                have gq := G_9.out.cell (i := q) (by rw [ofF_len]; exact HQ1.out.2.2)
                have gz := G_9.out.frozen q
                rw [ofF_nth _ _ HQ1.out.2.2, HCQ.out.1] at gq
                have kcq : IntKind.u64.wrap ((cq : Int) + 1) = (cq : Int) + 1 := u64_wrap_in (by have := HCQ.out; omega)
                have gs := G_9.out.store (k := q) (by rw [ofF_len]; exact HQ1.out.2.2) ((cq : Int) + 1)
                rw [set_up HQ1.out.2.2 HCQ.out.1] at gs
                go_upto_region 37 with fail
                clear gq gz kcq
                have ee : Ex (fun k => k = gr) w7 (w7.setCell ⟨gr, q, none⟩ (.int .u64 ((cq : Int) + 1))) := (Ex.refl (fun k => k = gr) w7).setCell (q := ⟨gr, q, none⟩) (.inl rfl) (.int .u64 ((cq : Int) + 1))
                have J_10 := Lib.hid (J_9.out.ex ee (by have o_ := ORD7.out; omega))
                have K_10 := Lib.hid (K_9.out.ex ee (by have o_ := ORD7.out; omega) (by have o_ := ORD7.out; omega))
                have S_10 := Lib.hid (S_9.out.ex ee (by have o_ := ORD7.out; omega))
                have W_10 := Lib.hid (W_9.out.ex ee (by have o_ := ORD7.out; omega) (by have o_ := ORD7.out; omega))
                have O_10 := Lib.hid (O_9.out.ex ee (by have o_ := ORD7.out; omega) (by have o_ := ORD7.out; omega) (by have o_ := ORD7.out; omega) (by have o_ := ORD7.out; omega))
                have L_10 := Lib.hid (Ex.below L_9.out ee (fun k hk => by have o_ := ORD7.out; have hk : k = gr := hk; omega))
                have G_10 := Lib.hid (gs)
                clear ee J_9 K_9 S_9 G_9 W_9 O_9 L_9 gs
                generalize (w7.setCell ⟨gr, q, none⟩ (.int .u64 ((cq : Int) + 1))) = w8 at *
                have HG2 := Lib.hid (HB2.out.gOf TOK.out HNN.out)
                have HEQ := Lib.hid (fun j (hj : j + 1 < k) => show wordF ws2 (laidS l j).seq / 2 = nth (gOf (laidS l) k ws1) j from mid_eq TOK.out HNN.out HBG.out.1 HB2.out (show j < k by omega) (show j ≠ q by have := HQ1.out; omega))
                have HNE := Lib.hid (show ¬ wordF ws2 (laidS l q).seq / 2 = nth (gOf (laidS l) k ws1) q from last_ne TOK.out HNN.out HBG.out.1 HB2.out HQ1.out.2.2 (by have := HCQ.out; omega))
                go_wp2_with fail
                obtain ⟨wk5, rfl⟩ : ∃ wk5 : World, wk5 = w8 := ⟨_, rfl⟩
                go_loopw [22] (fun s22 wr => ∃ (i : Nat) (t : Int), k ≤ i ∧ i + 1 ≤ 2 * k + m ∧ s22 = .int .i64 i ∧ Blk wr jb 79 #[.int .i64 sn, .bool true] ∧ BankAt wr g h ws2 t ∧ SRow wr r k (laidS l) ∧ GRow wr gr (ofF k fun j => (upC (timesF ts) q (cq + 1) j : Int)) ∧ OpAt wr ow rw0 cc (laidS l 0) (recL (mT l 0) 9) 1 xw ∧ SnX wr o rs cs rg rw k m (laidS l) (xM k m 2 0 0 (gOf (laidS l) k ws1) (zeros k) (vOf (laidS l) k m (gOf (laidS l) k ws1) ws2) (zeros m) i) ∧ Below w.heap.size w wr) (fun s22 _ => 2 * k + m - (intOf s22).toNat)
                case atStart => exact ⟨k, _, by omega, by have := HMB.out; have := HN5.out; omega, rfl, J_10.out, K_10.out, S_10.out, G_10.out, W_10.out, by have h9 := O_10.out; rw [xM_V (V' := (vOf (laidS l) k m (gOf (laidS l) k ws1) ws2)) (Nat.le_refl k)] at h9; exact h9, L_10.out⟩
                case round =>
                  clear J_10 K_10 S_10 G_10 W_10 O_10 L_10
                  obtain ⟨i, t3, hi0, hi, rfl, hj0, hbk, hsr, hgr, hwo, ho, hl⟩ := hrel
                  have J0 := Lib.hid hj0
                  have K0 := Lib.hid hbk
                  have S0 := Lib.hid hsr
                  have G0 := Lib.hid hgr
                  have W0 := Lib.hid hwo
                  have O0 := Lib.hid ho
                  have L0 := Lib.hid hl
                  clear hj0 hbk hsr hgr hwo ho hl
                  by_cases hlt : i + 1 < 2 * k + m
                  · have kd3 : decide ((i : Int) < 2 * (k : Int) + widthF (laidS l) k - 1) = true := decide_eq_true (by have := HM.out; omega)
                    have kI5 : (i : Int) ≤ 50 := by have := HN5.out; have := HMB.out; omega
                    have HII := Lib.hid (show k ≤ i ∧ i + 1 < 2 * k + m from ⟨hi0, hlt⟩)
                    clear hi hlt hi0
                    have HOK := Lib.hid (xM_ok2 TOK.out HM.out (T := 2) (s0 := 0) (b0 := 0) (G := (gOf (laidS l) k ws1)) (G0 := zeros k) (V := (vOf (laidS l) k m (gOf (laidS l) k ws1) ws2)) (V0 := zeros m) (by omega) (by have := HMB.out; have := HN5.out; omega) (gOf_fit HWF.out) (fun j _ => by rw [nth_zeros]; omega) (i := i) (by have := HN5.out; have := HMB.out; have := HII.out; omega))
                    go_wp2_with fail
                    have HS := Lib.hid (mid_step TOK.out HM.out HLEN2.out (T := 2) (s0 := 0) (b0 := 0) (G0 := zeros k) (V0 := zeros m) (gOf_len _ _ _) HEQ.out HII.out.1 HII.out.2 t3)
                    refine (SStep_any g h o rs cs rg rw k m ws2 t3 (laidS l) (xM k m 2 0 0 (gOf (laidS l) k ws1) (zeros k) (vOf (laidS l) k m (gOf (laidS l) k ws1) ws2) (zeros m) i) _ K0.out O0.out HOK.out.inv (by have := ORD7.out; omega)).mono ?_; rintro e w7 ⟨rfl, hk5, ho5, hx5⟩
                    rw [HS.out.1] at ho5 ⊢
                    clear HS
                    have ee : Ex (fun k => k = g ∨ k = h ∨ k = o ∨ k = rg ∨ k = rw) wr w7 := hx5
                    have J_11 := Lib.hid (J0.out.ex ee (by have o_ := ORD7.out; omega))
                    have S_11 := Lib.hid (S0.out.ex ee (by have o_ := ORD7.out; omega))
                    have G_11 := Lib.hid (G0.out.ex ee (by have o_ := ORD7.out; omega))
                    have W_11 := Lib.hid (W0.out.ex ee (by have o_ := ORD7.out; omega) (by have o_ := ORD7.out; omega))
                    have L_11 := Lib.hid (Ex.below L0.out ee (fun k hk => by have o_ := ORD7.out; have hk : k = g ∨ k = h ∨ k = o ∨ k = rg ∨ k = rw := hk; omega))
                    have K_11 := Lib.hid (hk5)
                    have O_11 := Lib.hid (ho5)
                    clear ee J0 K0 S0 G0 W0 O0 L0 hk5 ho5 hx5 HOK
                    have hhow : ((xM k m 2 0 0 (gOf (laidS l) k ws1) (zeros k) (vOf (laidS l) k m (gOf (laidS l) k ws1) ws2) (zeros m) (i + 1))).how = 0 := xM_how (by have := HII.out; omega)
                    rw [hhow]
                    clear hhow
                    go_wp2_with fail
                    go_roundw
                    case rel => exact ⟨i + 1, _, by have := HII.out; omega, by have := HII.out; omega, by go_num, J_11.out, K_11.out, S_11.out, G_11.out, W_11.out, O_11.out, L_11.out⟩
                    case measure => have := HII.out; simp [intOf]; omega
                  · have kd3 : decide ((i : Int) < 2 * (k : Int) + widthF (laidS l) k - 1) = false := decide_eq_false (by have := HM.out; omega)
                    have HII := Lib.hid (show i = k + m + q ∧ i ≤ 2 * k + m by have := HQ1.out; omega)
                    clear hi hlt hi0
                    have HOK := Lib.hid (xM_ok2 TOK.out HM.out (T := 2) (s0 := 0) (b0 := 0) (G := (gOf (laidS l) k ws1)) (G0 := zeros k) (V := (vOf (laidS l) k m (gOf (laidS l) k ws1) ws2)) (V0 := zeros m) (by omega) (by have := HMB.out; have := HN5.out; omega) (gOf_fit HWF.out) (fun j _ => by rw [nth_zeros]; omega) (i := i) (by have := HN5.out; have := HMB.out; have := HII.out; omega))
                    go_wp2_with fail
                    have hie := HII.out.1
                    subst hie
                    have HS := Lib.hid (xM_D (T := 2) (s0 := 0) (b0 := 0) (G := (gOf (laidS l) k ws1)) (G0 := zeros k) (V := (vOf (laidS l) k m (gOf (laidS l) k ws1) ws2)) (V0 := zeros m) HQ1.out.2.2 (gOf_len _ _ _) (vOf_len _ _ _ _ _) (seq_in TOK.out HLEN2.out HQ1.out.2.2) HNE.out (by decide) HN5.out.1 (gOf (laidS l) k ws2) (vOf (laidS l) k m (gOf (laidS l) k ws2) ws2) t3)
                    refine (SStep_any g h o rs cs rg rw k m ws2 t3 (laidS l) (xM k m 2 0 0 (gOf (laidS l) k ws1) (zeros k) (vOf (laidS l) k m (gOf (laidS l) k ws1) ws2) (zeros m) (k + m + q)) _ K0.out O0.out HOK.out.inv (by have := ORD7.out; omega)).mono ?_; rintro e w7 ⟨rfl, hk5, ho5, hx5⟩
                    rw [HS.out.1] at ho5 ⊢
                    clear HS
                    have ee : Ex (fun k => k = g ∨ k = h ∨ k = o ∨ k = rg ∨ k = rw) wr w7 := hx5
                    have J_11 := Lib.hid (J0.out.ex ee (by have o_ := ORD7.out; omega))
                    have S_11 := Lib.hid (S0.out.ex ee (by have o_ := ORD7.out; omega))
                    have G_11 := Lib.hid (G0.out.ex ee (by have o_ := ORD7.out; omega))
                    have W_11 := Lib.hid (W0.out.ex ee (by have o_ := ORD7.out; omega) (by have o_ := ORD7.out; omega))
                    have L_11 := Lib.hid (Ex.below L0.out ee (fun k hk => by have o_ := ORD7.out; have hk : k = g ∨ k = h ∨ k = o ∨ k = rg ∨ k = rw := hk; omega))
                    have K_11 := Lib.hid (hk5)
                    have O_11 := Lib.hid (ho5)
                    clear ee J0 K0 S0 G0 W0 O0 L0 hk5 ho5 hx5 HOK
                    have hhow : ((xM k m (2 - 1) (0 + ((k + m + q : Nat) : Int) + 1) (0 + (k : Int)) (gOf (laidS l) k ws2) (gOf (laidS l) k ws1) (vOf (laidS l) k m (gOf (laidS l) k ws2) ws2) (vOf (laidS l) k m (gOf (laidS l) k ws1) ws2) 0)).how = 0 := xM_how (by have := HN5.out; omega)
                    rw [hhow]
                    clear hhow kd3
                    go_wp2_with fail
                    have HS1 := Lib.hid (show (0 : Int) + ((k + m + q : Nat) : Int) + 1 = 2 * (k : Int) + (m : Int) by have := HQ1.out; omega)
                    obtain ⟨s1, hs1⟩ : ∃ s1 : Int, (0 : Int) + ((k + m + q : Nat) : Int) + 1 = s1 := ⟨_, rfl⟩
                    have O_4 := Lib.hid (show SnX w7 o rs cs rg rw k m (laidS l) (xM k m 1 s1 (k : Int) (gOf (laidS l) k ws2) (gOf (laidS l) k ws1) (vOf (laidS l) k m (gOf (laidS l) k ws2) ws2) (vOf (laidS l) k m (gOf (laidS l) k ws1) ws2) 0) from by have h9 := O_11.out; rw [hs1, show (0 : Int) + (k : Int) = k by omega, show (2 : Int) - 1 = 1 from rfl] at h9; exact h9)
                    have HS2 := Lib.hid (show s1 = 2 * (k : Int) + (m : Int) by rw [← hs1]; exact HS1.out)
                    clear hs1 HS1 O_11 HII
                    obtain ⟨wk6, rfl⟩ : ∃ wk6 : World, wk6 = w7 := ⟨_, rfl⟩
                    go_loopw [23] (fun s23 wr => ∃ (i : Nat) (t : Int), i + 1 ≤ 2 * k + m ∧ s23 = .int .i64 ((i : Int) + 1) ∧ Blk wr jb 79 #[.int .i64 sn, .bool true] ∧ BankAt wr g h ws2 t ∧ SRow wr r k (laidS l) ∧ GRow wr gr (ofF k fun j => (upC (timesF ts) q (cq + 1) j : Int)) ∧ OpAt wr ow rw0 cc (laidS l 0) (recL (mT l 0) 9) 1 xw ∧ SnX wr o rs cs rg rw k m (laidS l) (xM k m 1 s1 (k : Int) (gOf (laidS l) k ws2) (gOf (laidS l) k ws1) (vOf (laidS l) k m (gOf (laidS l) k ws2) ws2) (vOf (laidS l) k m (gOf (laidS l) k ws1) ws2) i) ∧ Below w.heap.size w wr) (fun s23 _ => 2 * k + m + 1 - (intOf s23).toNat)
                    case atStart => exact ⟨0, _, by have := HMB.out; have := HN5.out; omega, rfl, J_11.out, K_11.out, S_11.out, G_11.out, W_11.out, O_4.out, L_11.out⟩
                    case round =>
                      clear J_11 K_11 S_11 G_11 W_11 O_4 L_11
                      obtain ⟨i, t4, hi, rfl, hj0, hbk, hsr, hgr, hwo, ho, hl⟩ := hrel
                      have J0 := Lib.hid hj0
                      have K0 := Lib.hid hbk
                      have S0 := Lib.hid hsr
                      have G0 := Lib.hid hgr
                      have W0 := Lib.hid hwo
                      have O0 := Lib.hid ho
                      have L0 := Lib.hid hl
                      clear hj0 hbk hsr hgr hwo ho hl
                      by_cases hlt : i + 1 < 2 * k + m
                      · have kd3 : decide ((i : Int) + 1 < 2 * (k : Int) + widthF (laidS l) k) = true := decide_eq_true (by have := HM.out; omega)
                        have kI5 : (i : Int) + 1 ≤ 50 := by have := HN5.out; have := HMB.out; omega
                        have HII := Lib.hid hlt
                        clear hi hlt
                        have HOK := Lib.hid (xM_ok2 TOK.out HM.out (T := 1) (s0 := s1) (b0 := (k : Int)) (G := (gOf (laidS l) k ws2)) (G0 := (gOf (laidS l) k ws1)) (V := (vOf (laidS l) k m (gOf (laidS l) k ws2) ws2)) (V0 := (vOf (laidS l) k m (gOf (laidS l) k ws1) ws2)) (by omega) (by have := HMB.out; have := HN5.out; have := HS2.out; omega) (gOf_fit HWF2.out) (gOf_fit HWF.out) (i := i) (by have := HN5.out; have := HMB.out; have := HII.out; omega))
                        go_wp2_with fail
                        have HS := Lib.hid (al_step (i := i) TOK.out HM.out HLEN2.out (T := 1) (s0 := s1) (b0 := (k : Int)) (G0 := gOf (laidS l) k ws1) (V0 := vOf (laidS l) k m (gOf (laidS l) k ws1) ws2) (by have := HII.out; omega) t4)
                        refine (SStep_any g h o rs cs rg rw k m ws2 t4 (laidS l) (xM k m 1 s1 (k : Int) (gOf (laidS l) k ws2) (gOf (laidS l) k ws1) (vOf (laidS l) k m (gOf (laidS l) k ws2) ws2) (vOf (laidS l) k m (gOf (laidS l) k ws1) ws2) i) _ K0.out O0.out HOK.out.inv (by have := ORD7.out; omega)).mono ?_; rintro e w7 ⟨rfl, hk5, ho5, hx5⟩
                        rw [HS.out.1] at ho5 ⊢
                        clear HS
                        have ee : Ex (fun k => k = g ∨ k = h ∨ k = o ∨ k = rg ∨ k = rw) wr w7 := hx5
                        have J_12 := Lib.hid (J0.out.ex ee (by have o_ := ORD7.out; omega))
                        have S_12 := Lib.hid (S0.out.ex ee (by have o_ := ORD7.out; omega))
                        have G_12 := Lib.hid (G0.out.ex ee (by have o_ := ORD7.out; omega))
                        have W_12 := Lib.hid (W0.out.ex ee (by have o_ := ORD7.out; omega) (by have o_ := ORD7.out; omega))
                        have L_12 := Lib.hid (Ex.below L0.out ee (fun k hk => by have o_ := ORD7.out; have hk : k = g ∨ k = h ∨ k = o ∨ k = rg ∨ k = rw := hk; omega))
                        have K_12 := Lib.hid (hk5)
                        have O_12 := Lib.hid (ho5)
                        clear ee J0 K0 S0 G0 W0 O0 L0 hk5 ho5 hx5 HOK
                        have hhow : ((xM k m 1 s1 (k : Int) (gOf (laidS l) k ws2) (gOf (laidS l) k ws1) (vOf (laidS l) k m (gOf (laidS l) k ws2) ws2) (vOf (laidS l) k m (gOf (laidS l) k ws1) ws2) (i + 1))).how = 0 := xM_how (by have := HII.out; omega)
                        rw [hhow]
                        clear hhow
                        go_wp2_with fail
                        go_roundw
                        case rel => exact ⟨i + 1, _, by have := HII.out; omega, by go_num, J_12.out, K_12.out, S_12.out, G_12.out, W_12.out, O_12.out, L_12.out⟩
                        case measure => have := HII.out; simp [intOf]; omega
                      · have kd3 : decide ((i : Int) + 1 < 2 * (k : Int) + widthF (laidS l) k) = false := decide_eq_false (by have := HM.out; omega)
                        have HII := Lib.hid (show i + 1 = 2 * k + m by omega)
                        clear hi hlt
                        have HOK := Lib.hid (xM_ok2 TOK.out HM.out (T := 1) (s0 := s1) (b0 := (k : Int)) (G := (gOf (laidS l) k ws2)) (G0 := (gOf (laidS l) k ws1)) (V := (vOf (laidS l) k m (gOf (laidS l) k ws2) ws2)) (V0 := (vOf (laidS l) k m (gOf (laidS l) k ws1) ws2)) (by omega) (by have := HMB.out; have := HN5.out; have := HS2.out; omega) (gOf_fit HWF2.out) (gOf_fit HWF.out) (i := i) (by have := HN5.out; have := HMB.out; have := HII.out; omega))
                        go_wp2_with fail
                        have HS := Lib.hid (al_step (i := i) TOK.out HM.out HLEN2.out (T := 1) (s0 := s1) (b0 := (k : Int)) (G0 := gOf (laidS l) k ws1) (V0 := vOf (laidS l) k m (gOf (laidS l) k ws1) ws2) (by have := HII.out; omega) t4)
                        refine (SStep_any g h o rs cs rg rw k m ws2 t4 (laidS l) (xM k m 1 s1 (k : Int) (gOf (laidS l) k ws2) (gOf (laidS l) k ws1) (vOf (laidS l) k m (gOf (laidS l) k ws2) ws2) (vOf (laidS l) k m (gOf (laidS l) k ws1) ws2) i) _ K0.out O0.out HOK.out.inv (by have := ORD7.out; omega)).mono ?_; rintro e w7 ⟨rfl, hk5, ho5, hx5⟩
                        rw [HS.out.1] at ho5 ⊢
                        clear HS
                        have ee : Ex (fun k => k = g ∨ k = h ∨ k = o ∨ k = rg ∨ k = rw) wr w7 := hx5
                        have J_12 := Lib.hid (J0.out.ex ee (by have o_ := ORD7.out; omega))
                        have S_12 := Lib.hid (S0.out.ex ee (by have o_ := ORD7.out; omega))
                        have G_12 := Lib.hid (G0.out.ex ee (by have o_ := ORD7.out; omega))
                        have W_12 := Lib.hid (W0.out.ex ee (by have o_ := ORD7.out; omega) (by have o_ := ORD7.out; omega))
                        have L_12 := Lib.hid (Ex.below L0.out ee (fun k hk => by have o_ := ORD7.out; have hk : k = g ∨ k = h ∨ k = o ∨ k = rg ∨ k = rw := hk; omega))
                        have K_12 := Lib.hid (hk5)
                        have O_12 := Lib.hid (ho5)
                        clear ee J0 K0 S0 G0 W0 O0 L0 hk5 ho5 hx5 HOK
                        have HX1 := Lib.hid (xM_fin (T := 1) (s0 := s1) (b0 := (k : Int)) (G := (gOf (laidS l) k ws2)) (G0 := (gOf (laidS l) k ws1)) (V := (vOf (laidS l) k m (gOf (laidS l) k ws2) ws2)) (V0 := (vOf (laidS l) k m (gOf (laidS l) k ws1) ws2)) (i := i + 1) (gOf_len _ _ _) (vOf_len _ _ _ _ _) HII.out)
                        generalize (xM k m 1 s1 (k : Int) (gOf (laidS l) k ws2) (gOf (laidS l) k ws1) (vOf (laidS l) k m (gOf (laidS l) k ws2) ws2) (vOf (laidS l) k m (gOf (laidS l) k ws1) ws2) (i + 1)) = x1 at *
                        rw [HX1.out.1]
                        go_wp2_with fail
                        refine (XGot_done o rs cs rg rw k m (laidS l) x1 w7 O_12.out HX1.out.1 ⟨by have := HMB.out; omega, by have := HMB.out; omega⟩ ⟨HN5.out.1, by have := HN5.out; omega⟩).mono ?_; rintro e w9 ⟨q9, G9, rfl, q0, hi1, hi2, hG9, hown9, hl⟩
                        rw [HX1.out.2.1, HG2.out] at hi2
                        have I2 := Lib.hid hi2
                        clear q0 hi1 hG9 hown9 hi2 kd3
                        have ee : Ex (fun _ => False) w7 w9 := Ex.of_below hl
                        have J_13 := Lib.hid (J_12.out.ex ee (fun h => h))
                        have K_13 := Lib.hid (K_12.out.ex ee (fun h => h) (fun h => h))
                        have S_13 := Lib.hid (S_12.out.ex ee (fun h => h))
                        have G_13 := Lib.hid (G_12.out.ex ee (fun h => h))
                        have W_13 := Lib.hid (W_12.out.ex ee (fun h => h) (fun h => h))
                        have O_13 := Lib.hid (O_12.out.ex ee (fun h => h) (fun h => h) (fun h => h) (fun h => h))
                        have L_13 := Lib.hid (Ex.below L_12.out ee (fun k hk => hk.elim))
                        clear ee J_12 K_12 S_12 G_12 W_12 O_12 L_12 hl
                        go_wp2_with fail
                        refine (words_any _ _ _ _ w9 I2.out (G_13.out.ints (n := k) (c := gc) (ofF_len _ _) (by have := HN5.out; unfold maxLen; omega)) (by rw [ofF_len]; have := HN5.out; omega)).mono ?_; rintro e w10 ⟨rfl, hl⟩
                        rw [decide_eq_true (by rfl)]
                        have ee : Ex (fun _ => False) w9 w10 := Ex.of_below hl
                        have J_14 := Lib.hid (J_13.out.ex ee (fun h => h))
                        have K_14 := Lib.hid (K_13.out.ex ee (fun h => h) (fun h => h))
                        have S_14 := Lib.hid (S_13.out.ex ee (fun h => h))
                        have G_14 := Lib.hid (G_13.out.ex ee (fun h => h))
                        have W_14 := Lib.hid (W_13.out.ex ee (fun h => h) (fun h => h))
                        have O_14 := Lib.hid (O_13.out.ex ee (fun h => h) (fun h => h) (fun h => h) (fun h => h))
                        have L_14 := Lib.hid (Ex.below L_13.out ee (fun k hk => hk.elim))
                        clear ee J_13 K_13 S_13 G_13 W_13 O_13 L_13 hl I2
                        have kn3 : wrap64 (2 * (k : Int) + widthF (laidS l) k + (k : Int)) = s1 + (k : Int) := by rw [HM.out, HS2.out]; exact wrap64_in _ (by have := HN5.out; have := HMB.out; omega)
                        have kn4 : wrap64 (2 * (2 * (k : Int) + widthF (laidS l) k)) = s1 + ((2 * k + m : Nat) : Int) := by rw [HM.out, HS2.out, wrap64_in _ (by have := HN5.out; have := HMB.out; omega)]; push_cast; omega
                        go_wp2_with fail
                        refine (XAt_any o rs cs rg rw k m (laidS l) x1 w10 O_14.out).mono ?_; rintro e w11 ⟨rfl, rfl⟩
                        rw [if_pos HX1.out.1, HX1.out.2.2.2.1]
                        have kbb : (s1 + (k : Int) == s1 + (k : Int)) = true := by simp
                        go_wp2_with fail
                        refine (XSteps_any o rs cs rg rw k m (laidS l) x1 w10 O_14.out).mono ?_; rintro e w11 ⟨rfl, rfl⟩
                        rw [HX1.out.2.2.2.2]
                        have kss : (s1 + ((2 * k + m : Nat) : Int) == s1 + ((2 * k + m : Nat) : Int)) = true := by simp
                        go_wp2_with fail
                        refine (awake_any _).mono ?_; rintro e w12 ⟨rfl, hb12⟩
                        have L12 := Lib.hid (bl L_14.out hb12)
                        clear hb12
                        go_wp2_with fail
                        go_ret
                        exact ⟨rfl, L12.out⟩
              case neg =>
                obtain ⟨wq2, rfl⟩ : ∃ W : World, W = wr := ⟨_, rfl⟩
                go_upto_region 33 with fail
                go_cut [178] from 173 to 178 (fun v wx => v = .bool false ∧ wx = wq2)
                case first =>
                  cases bt with
                  | false =>
                    go_wp2_with fail
                    go_meet
                    exact ⟨rfl, rfl⟩
                  | true =>
                    have kb : decide ((q : Int) > 0) = false := decide_eq_false (by have := HQE.out; intro h; exact hbt ⟨rfl, by omega⟩)
                    have kb2 : decide (0 < q) = false := decide_eq_false (by have := HQE.out; intro h; exact hbt ⟨rfl, by omega⟩)
                    have kb3 : ¬ 0 < q := of_decide_eq_false kb2
                    go_wp2_with fail
                    go_meet
                    exact ⟨rfl, rfl⟩
                case rest =>
                  obtain ⟨rfl, hwc⟩ := hcut
                  subst hwc
                  clear hbt c1
                  go_wp2_with fail
                  refine (Clone_ex g h ws1 t2 wc K0.out).mono ?_; rintro e w7 ⟨g2, h2, rfl, hk2, q1, q2, q3, hl⟩
                  have hol := SnX.lt O0.out
                  have hkl := K0.out.head.lt
                  have ORD9 := Lib.hid (show w.heap.size = jb ∧ jb < r ∧ r < h ∧ h < g ∧ g < BB ∧ g < gr ∧ gr ≥ BB ∧ gr < rw0 ∧ rw0 < ow ∧ ow < rs ∧ ow < rg ∧ ow < rw ∧ ow < o ∧ o < h2 ∧ rs < h2 ∧ rg < h2 ∧ rw < h2 ∧ g < h2 ∧ h2 < g2 from by have o_ := ORD7.out; omega)
                  clear ORD7
                  clear q1 q2 q3 hol hkl
                  have ee : Ex (fun _ => False) wc w7 := Ex.of_below hl
                  have J_10 := Lib.hid (J0.out.ex ee (fun h => h))
                  have K_10 := Lib.hid (K0.out.ex ee (fun h => h) (fun h => h))
                  have S_10 := Lib.hid (S0.out.ex ee (fun h => h))
                  have G_10 := Lib.hid (G0.out.ex ee (fun h => h))
                  have W_10 := Lib.hid (W0.out.ex ee (fun h => h) (fun h => h))
                  have O_10 := Lib.hid (O0.out.ex ee (fun h => h) (fun h => h) (fun h => h) (fun h => h))
                  have L_10 := Lib.hid (Ex.below L0.out ee (fun k hk => hk.elim))
                  have Q_10 := Lib.hid (hk2)
                  clear ee J0 K0 S0 G0 W0 O0 L0 hl hk2
                  have KK1 := Lib.hid (show wrap64 ((k : Int) + 1) = (k : Int) + 1 from wrap64_in _ (by have := HN5.out; omega))
                  go_wp2_with fail
                  obtain ⟨wk7, rfl⟩ : ∃ wk7 : World, wk7 = w7 := ⟨_, rfl⟩
                  go_loopw [28] (fun s28 wr => ∃ (i : Nat) (t : Int), k ≤ i ∧ i + 1 ≤ 2 * k + m ∧ s28 = .int .i64 ((i : Int) + 1) ∧ Blk wr jb 79 #[.int .i64 sn, .bool bt] ∧ BankAt wr g h ws1 t ∧ SRow wr r k (laidS l) ∧ GRow wr gr (ofF k fun j => (timesF ts j : Int)) ∧ OpAt wr ow rw0 cc (laidS l 0) (recL (mT l 0) 9) 1 xw ∧ SnX wr o rs cs rg rw k m (laidS l) (xM k m 2 0 0 (gOf (laidS l) k ws1) (zeros k) (vOf (laidS l) k m (gOf (laidS l) k ws1) ws1) (zeros m) i) ∧ BankAt wr g2 h2 ws1 t2 ∧ Below w.heap.size w wr) (fun s28 _ => 2 * k + m + 1 - (intOf s28).toNat)
                  case atStart => exact ⟨k, _, by omega, by have := HMB.out; have := HN5.out; omega, by first | rw [KK1.out] | rfl, J_10.out, K_10.out, S_10.out, G_10.out, W_10.out, by have h9 := O_10.out; rw [xM_V (V' := (vOf (laidS l) k m (gOf (laidS l) k ws1) ws1)) (Nat.le_refl k)] at h9; exact h9, Q_10.out, L_10.out⟩
                  case round =>
                    clear J_10 K_10 S_10 G_10 W_10 O_10 Q_10 L_10
                    obtain ⟨i, t4, hi0, hi, rfl, hj0, hbk, hsr, hgr, hwo, ho, hq, hl⟩ := hrel
                    have J0 := Lib.hid hj0
                    have K0 := Lib.hid hbk
                    have S0 := Lib.hid hsr
                    have G0 := Lib.hid hgr
                    have W0 := Lib.hid hwo
                    have O0 := Lib.hid ho
                    have Q0 := Lib.hid hq
                    have L0 := Lib.hid hl
                    clear hj0 hbk hsr hgr hwo ho hq hl
                    by_cases hlt : i + 1 < 2 * k + m
                    · have kd3 : decide ((i : Int) + 1 < 2 * (k : Int) + widthF (laidS l) k) = true := decide_eq_true (by have := HM.out; omega)
                      have kI5 : (i : Int) + 1 ≤ 50 := by have := HN5.out; have := HMB.out; omega
                      have HII := Lib.hid (show k ≤ i ∧ i + 1 < 2 * k + m from ⟨hi0, hlt⟩)
                      clear hi hlt hi0
                      have HOK := Lib.hid (xM_ok2 TOK.out HM.out (T := 2) (s0 := 0) (b0 := 0) (G := (gOf (laidS l) k ws1)) (G0 := zeros k) (V := (vOf (laidS l) k m (gOf (laidS l) k ws1) ws1)) (V0 := zeros m) (by omega) (by have := HMB.out; have := HN5.out; omega) (gOf_fit HWF.out) (fun j _ => by rw [nth_zeros]; omega) (i := i) (by have := HN5.out; have := HMB.out; have := HII.out; omega))
                      go_wp2_with fail
                      have HS := Lib.hid (al_step (i := i) TOK.out HM.out HLEN.out (T := 2) (s0 := 0) (b0 := 0) (G0 := zeros k) (V0 := zeros m) (by have := HII.out; omega) t4)
                      refine (SStep_any g h o rs cs rg rw k m ws1 t4 (laidS l) (xM k m 2 0 0 (gOf (laidS l) k ws1) (zeros k) (vOf (laidS l) k m (gOf (laidS l) k ws1) ws1) (zeros m) i) _ K0.out O0.out HOK.out.inv (by have := ORD9.out; omega)).mono ?_; rintro e w7 ⟨rfl, hk5, ho5, hx5⟩
                      rw [HS.out.1] at ho5 ⊢
                      clear HS
                      have ee : Ex (fun k => k = g ∨ k = h ∨ k = o ∨ k = rg ∨ k = rw) wr w7 := hx5
                      have J_11 := Lib.hid (J0.out.ex ee (by have o_ := ORD9.out; omega))
                      have S_11 := Lib.hid (S0.out.ex ee (by have o_ := ORD9.out; omega))
                      have G_11 := Lib.hid (G0.out.ex ee (by have o_ := ORD9.out; omega))
                      have W_11 := Lib.hid (W0.out.ex ee (by have o_ := ORD9.out; omega) (by have o_ := ORD9.out; omega))
                      have Q_11 := Lib.hid (Q0.out.ex ee (by have o_ := ORD9.out; omega) (by have o_ := ORD9.out; omega))
                      have L_11 := Lib.hid (Ex.below L0.out ee (fun k hk => by have o_ := ORD9.out; have hk : k = g ∨ k = h ∨ k = o ∨ k = rg ∨ k = rw := hk; omega))
                      have K_11 := Lib.hid (hk5)
                      have O_11 := Lib.hid (ho5)
                      clear ee J0 K0 S0 G0 W0 O0 Q0 L0 hk5 ho5 hx5 HOK
                      have hhow : ((xM k m 2 0 0 (gOf (laidS l) k ws1) (zeros k) (vOf (laidS l) k m (gOf (laidS l) k ws1) ws1) (zeros m) (i + 1))).how = 0 := xM_how (by have := HII.out; omega)
                      rw [hhow]
                      clear hhow
                      go_wp2_with fail
                      go_roundw
                      case rel => exact ⟨i + 1, _, by have := HII.out; omega, by have := HII.out; omega, by go_num, J_11.out, K_11.out, S_11.out, G_11.out, W_11.out, O_11.out, Q_11.out, L_11.out⟩
                      case measure => have := HII.out; simp [intOf]; omega
                    · have kd3 : decide ((i : Int) + 1 < 2 * (k : Int) + widthF (laidS l) k) = false := decide_eq_false (by have := HM.out; omega)
                      have HII := Lib.hid (show i + 1 = 2 * k + m by omega)
                      clear hi hlt hi0
                      have HOK := Lib.hid (xM_ok2 TOK.out HM.out (T := 2) (s0 := 0) (b0 := 0) (G := (gOf (laidS l) k ws1)) (G0 := zeros k) (V := (vOf (laidS l) k m (gOf (laidS l) k ws1) ws1)) (V0 := zeros m) (by omega) (by have := HMB.out; have := HN5.out; omega) (gOf_fit HWF.out) (fun j _ => by rw [nth_zeros]; omega) (i := i) (by have := HN5.out; have := HMB.out; have := HII.out; omega))
                      go_wp2_with fail
                      have HS := Lib.hid (al_step (i := i) TOK.out HM.out HLEN.out (T := 2) (s0 := 0) (b0 := 0) (G0 := zeros k) (V0 := zeros m) (by have := HII.out; omega) t4)
                      refine (SStep_any g h o rs cs rg rw k m ws1 t4 (laidS l) (xM k m 2 0 0 (gOf (laidS l) k ws1) (zeros k) (vOf (laidS l) k m (gOf (laidS l) k ws1) ws1) (zeros m) i) _ K0.out O0.out HOK.out.inv (by have := ORD9.out; omega)).mono ?_; rintro e w7 ⟨rfl, hk5, ho5, hx5⟩
                      rw [HS.out.1] at ho5 ⊢
                      clear HS
                      have ee : Ex (fun k => k = g ∨ k = h ∨ k = o ∨ k = rg ∨ k = rw) wr w7 := hx5
                      have J_11 := Lib.hid (J0.out.ex ee (by have o_ := ORD9.out; omega))
                      have S_11 := Lib.hid (S0.out.ex ee (by have o_ := ORD9.out; omega))
                      have G_11 := Lib.hid (G0.out.ex ee (by have o_ := ORD9.out; omega))
                      have W_11 := Lib.hid (W0.out.ex ee (by have o_ := ORD9.out; omega) (by have o_ := ORD9.out; omega))
                      have Q_11 := Lib.hid (Q0.out.ex ee (by have o_ := ORD9.out; omega) (by have o_ := ORD9.out; omega))
                      have L_11 := Lib.hid (Ex.below L0.out ee (fun k hk => by have o_ := ORD9.out; have hk : k = g ∨ k = h ∨ k = o ∨ k = rg ∨ k = rw := hk; omega))
                      have K_11 := Lib.hid (hk5)
                      have O_11 := Lib.hid (ho5)
                      clear ee J0 K0 S0 G0 W0 O0 Q0 L0 hk5 ho5 hx5 HOK
                      have HX1 := Lib.hid (xM_fin (T := 2) (s0 := 0) (b0 := 0) (G := (gOf (laidS l) k ws1)) (G0 := zeros k) (V := (vOf (laidS l) k m (gOf (laidS l) k ws1) ws1)) (V0 := zeros m) (i := i + 1) (gOf_len _ _ _) (vOf_len _ _ _ _ _) HII.out)
                      generalize (xM k m 2 0 0 (gOf (laidS l) k ws1) (zeros k) (vOf (laidS l) k m (gOf (laidS l) k ws1) ws1) (zeros m) (i + 1)) = x1 at *
                      rw [HX1.out.1]
                      generalize sTickF (laidS l) k m ws1 (xM k m 2 0 0 (gOf (laidS l) k ws1) (zeros k) (vOf (laidS l) k m (gOf (laidS l) k ws1) ws1) (zeros m) i) t4 = t5 at *
                      go_wp2_with fail
                      clear kd3
                      obtain ⟨wk8, rfl⟩ : ∃ wk8 : World, wk8 = w7 := ⟨_, rfl⟩
                      go_loopw [30] (fun s30 wr => ∃ (a : Nat), a ≤ ws1.length ∧ s30 = .int .i64 (a : Int) ∧ Blk wr jb 79 #[.int .i64 sn, .bool bt] ∧ BankAt wr g h ws1 t5 ∧ SRow wr r k (laidS l) ∧ GRow wr gr (ofF k fun j => (timesF ts j : Int)) ∧ OpAt wr ow rw0 cc (laidS l 0) (recL (mT l 0) 9) 1 xw ∧ SnX wr o rs cs rg rw k m (laidS l) x1 ∧ BankAt wr g2 h2 ws1 t2 ∧ Below w.heap.size w wr) (fun s30 _ => ws1.length - (intOf s30).toNat)
                      case atStart => exact ⟨0, by omega, rfl, J_11.out, K_11.out, S_11.out, G_11.out, W_11.out, O_11.out, Q_11.out, L_11.out⟩
                      case round =>
                        clear J_11 K_11 S_11 G_11 W_11 O_11 Q_11 L_11
                        obtain ⟨a, ha, rfl, hj0, hbk, hsr, hgr, hwo, ho, hq, hl⟩ := hrel
                        have J0 := Lib.hid hj0
                        have K0 := Lib.hid hbk
                        have S0 := Lib.hid hsr
                        have G0 := Lib.hid hgr
                        have W0 := Lib.hid hwo
                        have O0 := Lib.hid ho
                        have Q0 := Lib.hid hq
                        have L0 := Lib.hid hl
                        clear hj0 hbk hsr hgr hwo ho hq hl
                        have HLB := Lib.hid (show ws1.length ≤ 110 by have h1 := HLEN.out; have h2 := offT_bounds TOK.out.2 k (Nat.le_refl _); have h3 := HN5.out; omega)
                        by_cases hlt : a < ws1.length
                        · have kd3 : decide ((a : Int) < (ws1.length : Int)) = true := decide_eq_true (by omega)
                          have kI5 : (a : Int) ≤ 110 := by have := HLB.out; omega
                          have HA := Lib.hid hlt
                          clear ha hlt
                          go_wp2_with fail
                          refine (Len_any g h ws1 t5 wr K0.out).mono ?_; rintro e w10 ⟨rfl, rfl⟩
                          go_wp2_with fail
                          refine (Peek_any g h ws1 t5 (a : Int) wr K0.out).mono ?_; rintro e w10 ⟨rfl, hl1⟩
                          have ee : Ex (fun _ => False) wr w10 := Ex.of_below hl1
                          have J_12 := Lib.hid (J0.out.ex ee (fun h => h))
                          have K_12 := Lib.hid (K0.out.ex ee (fun h => h) (fun h => h))
                          have S_12 := Lib.hid (S0.out.ex ee (fun h => h))
                          have G_12 := Lib.hid (G0.out.ex ee (fun h => h))
                          have W_12 := Lib.hid (W0.out.ex ee (fun h => h) (fun h => h))
                          have O_12 := Lib.hid (O0.out.ex ee (fun h => h) (fun h => h) (fun h => h) (fun h => h))
                          have Q_12 := Lib.hid (Q0.out.ex ee (fun h => h) (fun h => h))
                          have L_12 := Lib.hid (Ex.below L0.out ee (fun k hk => hk.elim))
                          clear ee J0 K0 S0 G0 W0 O0 Q0 L0 hl1
                          go_wp2_with fail
                          refine (Peek_any g2 h2 ws1 t2 (a : Int) w10 Q_12.out).mono ?_; rintro e w11 ⟨rfl, hl1⟩
                          have ee : Ex (fun _ => False) w10 w11 := Ex.of_below hl1
                          have J_13 := Lib.hid (J_12.out.ex ee (fun h => h))
                          have K_13 := Lib.hid (K_12.out.ex ee (fun h => h) (fun h => h))
                          have S_13 := Lib.hid (S_12.out.ex ee (fun h => h))
                          have G_13 := Lib.hid (G_12.out.ex ee (fun h => h))
                          have W_13 := Lib.hid (W_12.out.ex ee (fun h => h) (fun h => h))
                          have O_13 := Lib.hid (O_12.out.ex ee (fun h => h) (fun h => h) (fun h => h) (fun h => h))
                          have Q_13 := Lib.hid (Q_12.out.ex ee (fun h => h) (fun h => h))
                          have L_13 := Lib.hid (Ex.below L_12.out ee (fun k hk => hk.elim))
                          clear ee J_12 K_12 S_12 G_12 W_12 O_12 Q_12 L_12 hl1
                          generalize wordF ws1 (a : Int) = z9
                          have kzz : (z9 != z9) = false := by simp
                          go_wp2_with fail
                          go_roundw
                          case rel => exact ⟨a + 1, by have := HA.out; omega, by go_num, J_13.out, K_13.out, S_13.out, G_13.out, W_13.out, O_13.out, Q_13.out, L_13.out⟩
                          case measure => have := HA.out; simp [intOf]; omega
                        · have hae : a = ws1.length := by omega
                          have kd3 : decide ((a : Int) < (ws1.length : Int)) = false := decide_eq_false (by omega)
                          have kd4 : ¬ a < ws1.length := by omega
                          have kd5 : decide (a < ws1.length) = false := decide_eq_false kd4
                          clear ha hlt hae
                          go_wp2_with fail
                          refine (Len_any g h ws1 t5 wr K0.out).mono ?_; rintro e w10 ⟨rfl, rfl⟩
                          go_wp2_with fail
                          clear kd3 kd4 kd5
                          refine (XGot_done o rs cs rg rw k m (laidS l) x1 wr O0.out HX1.out.1 ⟨by have := HMB.out; omega, by have := HMB.out; omega⟩ ⟨HN5.out.1, by have := HN5.out; omega⟩).mono ?_; rintro e w9 ⟨q9, G9, rfl, q0, hi1, hi2, hG9, hown9, hl⟩
                          rw [HX1.out.2.1, HGO.out] at hi2
                          have I2 := Lib.hid hi2
                          clear q0 hi1 hG9 hown9 hi2
                          have ee : Ex (fun _ => False) wr w9 := Ex.of_below hl
                          have J_12 := Lib.hid (J0.out.ex ee (fun h => h))
                          have K_12 := Lib.hid (K0.out.ex ee (fun h => h) (fun h => h))
                          have S_12 := Lib.hid (S0.out.ex ee (fun h => h))
                          have G_12 := Lib.hid (G0.out.ex ee (fun h => h))
                          have W_12 := Lib.hid (W0.out.ex ee (fun h => h) (fun h => h))
                          have O_12 := Lib.hid (O0.out.ex ee (fun h => h) (fun h => h) (fun h => h) (fun h => h))
                          have Q_12 := Lib.hid (Q0.out.ex ee (fun h => h) (fun h => h))
                          have L_12 := Lib.hid (Ex.below L0.out ee (fun k hk => hk.elim))
                          clear ee J0 K0 S0 G0 W0 O0 Q0 L0 hl
                          go_wp2_with fail
                          refine (words_any _ _ _ _ w9 I2.out (G_12.out.ints (n := k) (c := gc) (ofF_len _ _) (by have := HN5.out; unfold maxLen; omega)) (by rw [ofF_len]; have := HN5.out; omega)).mono ?_; rintro e w10 ⟨rfl, hl⟩
                          rw [decide_eq_true (by rfl)]
                          have ee : Ex (fun _ => False) w9 w10 := Ex.of_below hl
                          have J_13 := Lib.hid (J_12.out.ex ee (fun h => h))
                          have K_13 := Lib.hid (K_12.out.ex ee (fun h => h) (fun h => h))
                          have S_13 := Lib.hid (S_12.out.ex ee (fun h => h))
                          have G_13 := Lib.hid (G_12.out.ex ee (fun h => h))
                          have W_13 := Lib.hid (W_12.out.ex ee (fun h => h) (fun h => h))
                          have O_13 := Lib.hid (O_12.out.ex ee (fun h => h) (fun h => h) (fun h => h) (fun h => h))
                          have Q_13 := Lib.hid (Q_12.out.ex ee (fun h => h) (fun h => h))
                          have L_13 := Lib.hid (Ex.below L_12.out ee (fun k hk => hk.elim))
                          clear ee J_12 K_12 S_12 G_12 W_12 O_12 Q_12 L_12 hl I2
                          go_wp2_with fail
                          refine (XAt_any o rs cs rg rw k m (laidS l) x1 w10 O_13.out).mono ?_; rintro e w11 ⟨rfl, rfl⟩
                          rw [if_pos HX1.out.1, HX1.out.2.2.2.1, Int.zero_add]
                          have kbb : ((k : Int) == (k : Int)) = true := by simp
                          go_wp2_with fail
                          refine (XSteps_any o rs cs rg rw k m (laidS l) x1 w10 O_13.out).mono ?_; rintro e w11 ⟨rfl, rfl⟩
                          rw [HX1.out.2.2.2.2, Int.zero_add, show ((2 * k + m : Nat) : Int) = 2 * (k : Int) + widthF (laidS l) k by rw [HM.out]; push_cast; omega]
                          have kss : (2 * (k : Int) + widthF (laidS l) k == 2 * (k : Int) + widthF (laidS l) k) = true := by simp
                          go_wp2_with fail
                          refine (awake_any _).mono ?_; rintro e w12 ⟨rfl, hb12⟩
                          have L12 := Lib.hid (bl L_13.out hb12)
                          clear hb12
                          go_wp2_with fail
                          go_ret
                          exact ⟨rfl, L12.out⟩
end Go.Proofs.Ytjdalllfnlpmnaa.Bank
