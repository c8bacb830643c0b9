/-
  Law 15: ArbiterSpent. Printed by wip/tools/mkasn.py. Conditions stand at each. By an AI agent.
-/
import Derived.Test.YtkmlikohgilnbaaDoorArbA
import Derived.Test.YtkmlikohgilnbaaDoorArbP
import Derived.Lib.Hide
namespace Go.Proofs.YtkmlikohgilnbaaDoor.Arb
set_option linter.unusedVariables false
set_option linter.unusedSimpArgs false
open Go Go.RowKit Go.Proofs.YtkmlikohgilnbaaDoor.Base Go.Proofs.YtkmlikohgilnbaaDoor.Reg
open Go.Proofs.YtkmlikohgilnbaaDoor.Bank (BankAt inW wordF setF tickF errF casB errF_in errF_out wordF_in wordF_out tickF_in tickF_out setF_in setF_out casB_out casB_in wordF_range Load_any CAS_any Load_nil New_in Store_any Peek_any Touches_any zeros)
open Go.Proofs.YtkmlikohgilnbaaDoor.Modes (Tab)
set_option maxRecDepth 100000 in
theorem Sp_bad0 (f n c : Int) (w : World) (ht : Tab w) (hh : f < 0) : Calls Tryd.prog 3 #[.int .i64 f, .int .i64 n, .int .i64 c] w fun e w' => e = .returned (.bool true) ∧ Below w.heap.size w w' := by
  have d0 : decide (f < 0) = true := decide_eq_true (by omega)
  have HA := Lib.hid (awake_any w ht)
  clear ht hh
  go_enter Tryd.func3, Tryd.ntmps3
  go_wp2_with fail
  refine HA.out.mono ?_; rintro e w1 ⟨rfl, hb⟩
  go_wp2_with fail
  go_ret
  exact ⟨rfl, hb⟩
set_option maxRecDepth 100000 in
theorem Sp_bad1 (f n c : Int) (w : World) (ht : Tab w) (hh : ¬ f < 0 ∧ f > 63) : Calls Tryd.prog 3 #[.int .i64 f, .int .i64 n, .int .i64 c] w fun e w' => e = .returned (.bool true) ∧ Below w.heap.size w w' := by
  have d0 : decide (f < 0) = false := decide_eq_false (by omega)
  have d1 : decide (f > 63) = true := decide_eq_true (by omega)
  have HA := Lib.hid (awake_any w ht)
  clear ht hh
  go_enter Tryd.func3, Tryd.ntmps3
  go_wp2_with fail
  refine HA.out.mono ?_; rintro e w1 ⟨rfl, hb⟩
  go_wp2_with fail
  go_ret
  exact ⟨rfl, hb⟩
set_option maxRecDepth 100000 in
theorem Sp_bad2 (f n c : Int) (w : World) (ht : Tab w) (hh : ¬ f < 0 ∧ ¬ f > 63 ∧ n < 1) : Calls Tryd.prog 3 #[.int .i64 f, .int .i64 n, .int .i64 c] w fun e w' => e = .returned (.bool true) ∧ Below w.heap.size w w' := by
  have d0 : decide (f < 0) = false := decide_eq_false (by omega)
  have d1 : decide (f > 63) = false := decide_eq_false (by omega)
  have d2 : decide (n < 1) = true := decide_eq_true (by omega)
  have HA := Lib.hid (awake_any w ht)
  clear ht hh
  go_enter Tryd.func3, Tryd.ntmps3
  go_wp2_with fail
  refine HA.out.mono ?_; rintro e w1 ⟨rfl, hb⟩
  go_wp2_with fail
  go_ret
  exact ⟨rfl, hb⟩
set_option maxRecDepth 100000 in
theorem Sp_bad3 (f n c : Int) (w : World) (ht : Tab w) (hh : ¬ f < 0 ∧ ¬ f > 63 ∧ ¬ n < 1 ∧ n > 16) : Calls Tryd.prog 3 #[.int .i64 f, .int .i64 n, .int .i64 c] w fun e w' => e = .returned (.bool true) ∧ Below w.heap.size w w' := by
  have d0 : decide (f < 0) = false := decide_eq_false (by omega)
  have d1 : decide (f > 63) = false := decide_eq_false (by omega)
  have d2 : decide (n < 1) = false := decide_eq_false (by omega)
  have d3 : decide (n > 16) = true := decide_eq_true (by omega)
  have HA := Lib.hid (awake_any w ht)
  clear ht hh
  go_enter Tryd.func3, Tryd.ntmps3
  go_wp2_with fail
  refine HA.out.mono ?_; rintro e w1 ⟨rfl, hb⟩
  go_wp2_with fail
  go_ret
  exact ⟨rfl, hb⟩
set_option maxRecDepth 100000 in
theorem Sp_bad4 (f n c : Int) (w : World) (ht : Tab w) (hh : ¬ f < 0 ∧ ¬ f > 63 ∧ ¬ n < 1 ∧ ¬ n > 16 ∧ c < 0) : Calls Tryd.prog 3 #[.int .i64 f, .int .i64 n, .int .i64 c] w fun e w' => e = .returned (.bool true) ∧ Below w.heap.size w w' := by
  have d0 : decide (f < 0) = false := decide_eq_false (by omega)
  have d1 : decide (f > 63) = false := decide_eq_false (by omega)
  have d2 : decide (n < 1) = false := decide_eq_false (by omega)
  have d3 : decide (n > 16) = false := decide_eq_false (by omega)
  have d4 : decide (c < 0) = true := decide_eq_true (by omega)
  have HA := Lib.hid (awake_any w ht)
  clear ht hh
  go_enter Tryd.func3, Tryd.ntmps3
  go_wp2_with fail
  refine HA.out.mono ?_; rintro e w1 ⟨rfl, hb⟩
  go_wp2_with fail
  go_ret
  exact ⟨rfl, hb⟩
set_option maxRecDepth 100000 in
theorem Sp_bad5 (f n c : Int) (w : World) (ht : Tab w) (hh : ¬ f < 0 ∧ ¬ f > 63 ∧ ¬ n < 1 ∧ ¬ n > 16 ∧ ¬ c < 0 ∧ c > 16) : Calls Tryd.prog 3 #[.int .i64 f, .int .i64 n, .int .i64 c] w fun e w' => e = .returned (.bool true) ∧ Below w.heap.size w w' := by
  have d0 : decide (f < 0) = false := decide_eq_false (by omega)
  have d1 : decide (f > 63) = false := decide_eq_false (by omega)
  have d2 : decide (n < 1) = false := decide_eq_false (by omega)
  have d3 : decide (n > 16) = false := decide_eq_false (by omega)
  have d4 : decide (c < 0) = false := decide_eq_false (by omega)
  have d5 : decide (c > 16) = true := decide_eq_true (by omega)
  have HA := Lib.hid (awake_any w ht)
  clear ht hh
  go_enter Tryd.func3, Tryd.ntmps3
  go_wp2_with fail
  refine HA.out.mono ?_; rintro e w1 ⟨rfl, hb⟩
  go_wp2_with fail
  go_ret
  exact ⟨rfl, hb⟩
set_option maxRecDepth 100000 in
set_option maxHeartbeats 2000000 in
theorem Sp_good (f n c : Int) (w : World) (ht : Tab w) (hf : 0 ≤ f ∧ f ≤ 63) (hn : 1 ≤ n ∧ n ≤ 16) (hc : 0 ≤ c ∧ c ≤ 16) : Calls Tryd.prog 3 #[.int .i64 f, .int .i64 n, .int .i64 c] w fun e w' => e = .returned (.bool true) ∧ Below w.heap.size w w' := by
  have d0 : decide (f < 0) = false := decide_eq_false (by omega)
  have d1 : decide (f > 63) = false := decide_eq_false (by omega)
  have d2 : decide (n < 1) = false := decide_eq_false (by omega)
  have d3 : decide (n > 16) = false := decide_eq_false (by omega)
  have d4 : decide (c < 0) = false := decide_eq_false (by omega)
  have d5 : decide (c > 16) = false := decide_eq_false (by omega)
  have HF := Lib.hid hf
  have HN := Lib.hid hn
  have HC := Lib.hid hc
  have HT := Lib.hid ht
  clear ht hf hn hc
  go_enter Tryd.func3, Tryd.ntmps3
  go_wp2_with fail
  refine (New_in 1 (by decide) (by decide) w).mono ?_; rintro e w1 ⟨rfl, hb, hl, hsz⟩
  have hb : BankAt w1 (w.heap.size + 1) w.heap.size [0] 0 := hb
  have K0 := Lib.hid hb
  have T0 := Lib.hid (HT.out.below hl)
  have L0 := Lib.hid (Lo.mk hl hl.size)
  have hp0 := lt_of_cell (HT.out 0 (by decide))
  have hp1 : 0 < w.heap.size := hp0
  generalize hg : w.heap.size + 1 = g at *
  generalize hh : w.heap.size = rr at *
  have ORD0 := Lib.hid (show 0 < rr ∧ rr + 1 = g from ⟨hp1, hg⟩)
  have HBS := Lib.hid (Nat.le_of_eq hh)
  clear hb hl hsz hp0 hp1 hg HT hh
  go_wp2_with fail
  refine (AHealth_in 0 n f w1 ⟨HN.out.1, HN.out.2, HF.out⟩).mono ?_; rintro e w1a ⟨oa, ba, rfl, ha, hs1, hs2, hs3, hs4, hb⟩
  obtain ⟨Ma, hM⟩ : ∃ Ma : Nat, g < Ma ∧ rr < Ma ∧ Ma ≤ oa ∧ (Ma ≤ ba ∨ ba = 0) := ⟨w1.heap.size, K0.out.head.lt, K0.out.row.lt, hs1, hs2⟩
  have ORD1 := Lib.hid (show 0 < rr ∧ rr + 1 = g ∧ g < Ma ∧ rr < Ma ∧ Ma ≤ oa ∧ (Ma ≤ ba ∨ ba = 0) from by have o_ := ORD0.out; omega)
  have Ia_1 := Lib.hid (show AInv (.tell f) n (AX.zero n) from AInv.zero (.inr ⟨HN.out.1, HN.out.2⟩) (fun _ => HN.out.1))
  have ee : Ex (fun _ => False) w1 w1a := Ex.of_below hb
  have K_2 := Lib.hid (K0.out.ex ee (fun h => h) (fun h => h))
  have T_2 := Lib.hid (T0.out.ex ee (fun h => h))
  have L_2 := Lib.hid (L0.out.ex ee (fun b_ h_ => h_.elim))
  have Aa_2 := Lib.hid (ha)
  clear ee K0 T0 L0 hb hs1 hs2 hs3 hs4 hM ORD0
  skip
  go_wp2_with fail
  go_loopw [11] (fun iv wr => ∃ i : Nat, iv = .int .i64 i ∧ (i : Int) < n ∧ (i : Int) ≤ c ∧ ∃ fl wd lf st tt nx, (0 ≤ fl ∧ fl ≤ 63) ∧ lf = n - i ∧ st = 2 * (i : Int) ∧ tt = 4 * (i : Int) ∧ BankAt wr g rr [wordI ⟨0, 0, false, fl, i⟩] tt ∧ ArbAt wr oa ba (.tell f) 0 ⟨0, false, wd, nx, St.zero, 0, lf, st⟩ ∧ Tab wr ∧ Lo rr w wr) (fun iv _ => (n - intOf iv).toNat)
  case atStart =>
    have h0 : wordI ⟨0, 0, false, 0, ((0 : Nat) : Int)⟩ = 0 := by decide
    exact ⟨0, rfl, by have := HN.out; omega, by have := HC.out; omega, 0, 0, n, 0, 0, St.zero, by decide, by simp, by simp, by simp, by rw [h0]; exact K_2.out, Aa_2.out, T_2.out, L_2.out⟩
  case round =>
    obtain ⟨i, rfl, hin, hic, fl, wd, lf, st, tt, nx, hfl, hlf, hst, htt, hb, ha, ht, hl⟩ := hrel
    have K1 := Lib.hid hb
    have A1 := Lib.hid ha
    have T1 := Lib.hid ht
    have L1 := Lib.hid hl
    have HI := Lib.hid (show (i : Int) < n ∧ (i : Int) ≤ c ∧ lf = n - i ∧ st = 2 * (i : Int) ∧ tt = 4 * (i : Int) from ⟨hin, hic, hlf, hst, htt⟩)
    have HFL := Lib.hid hfl
    have kn : decide ((i : Int) < n) = true := decide_eq_true hin
    have HS := Lib.hid (tell_S HF.out hfl (e := i) ⟨by omega, by have := HC.out; omega⟩)
    obtain ⟨u, hu⟩ : ∃ u, wordI ⟨0, 0, false, fl, i⟩ = u := ⟨_, rfl⟩
    rw [hu] at K1
    have HU := Lib.hid hu
    obtain ⟨ep, hep⟩ : ∃ ep : Int, (i : Int) + 1 = ep := ⟨_, rfl⟩
    have HEP := Lib.hid hep
    clear hb ha ht hl hin hic hlf hst htt hfl hu hep
    have IX := Lib.hid (show AInv (.tell f) n ⟨0, false, wd, nx, St.zero, 0, lf, st⟩ from ⟨HN.out.2, by have := HI.out; have := HN.out; simp only; omega, fun _ _ => by have := HI.out; have := HN.out; simp only; omega, fun _ _ => by have := HI.out; simp; omega, fun h => by simp [Kd.isRead] at h, fun _ h => by simp at h⟩)
    have e1 : aStep (.tell f) 0 [u] ⟨0, false, wd, nx, St.zero, 0, lf, st⟩ = ⟨0, true, u, ⟨0, 0, false, f, ep⟩, St.zero, 0, lf, st + 1⟩ := by
      have := (step_word (k := .tell f) HS.out.1 HS.out.2.1 (x := ⟨0, false, wd, nx, St.zero, 0, lf, st⟩) rfl rfl).1
      rw [if_neg HS.out.2.2.2.2, HS.out.2.2.2.1, HU.out, HEP.out] at this
      exact this
    have e2 : aWs 0 [u] ⟨0, false, wd, nx, St.zero, 0, lf, st⟩ = [u] := by
      have := (step_word (k := .tell f) HS.out.1 HS.out.2.1 (x := ⟨0, false, wd, nx, St.zero, 0, lf, st⟩) rfl rfl).2
      rw [HU.out] at this
      exact this
    have e3 : aT 0 [u] ⟨0, false, wd, nx, St.zero, 0, lf, st⟩ tt = tt + 1 := at_live rfl (by have := HI.out; have := HN.out; omega)
    have HX := Lib.hid e1
    have HY := Lib.hid e2
    have HZ := Lib.hid e3
    clear e1 e2 e3
    have HOK := Lib.hid (show (Kd.tell f).Ok from ⟨by have := HF.out; omega, by have := HF.out; omega⟩)
    go_wp2_with fail
    refine (Step_any g rr oa ba [u] (tt) (.tell f) HOK.out n 0 ⟨0, false, wd, nx, St.zero, 0, lf, st⟩ IX.out wr A1.out K1.out T1.out (by have o_ := ORD1.out; omega)).mono ?_; rintro e w2 ⟨rfl, hb, ha, hx⟩
    rw [HY.out, HZ.out] at hb
    rw [HX.out] at ha ⊢
    have ee : Ex (fun k => k = g ∨ k = rr ∨ k = oa) wr w2 := hx
    have T_101 := Lib.hid (T1.out.ex ee (by have o_ := ORD1.out; omega))
    have L_101 := Lib.hid (L1.out.ex ee (fun b_ h_ => by have o_ := ORD1.out; have h_ : b_ = g ∨ b_ = rr ∨ b_ = oa := h_; first | omega | (show _ ∨ _; omega)))
    have K_101 := Lib.hid (hb)
    have Aa_101 := Lib.hid (ha)
    clear ee K1 A1 T1 L1 hb ha hx
    clear HX HY HZ
    have HUR := Lib.hid (show 0 ≤ u ∧ u ≤ 18446744073709551615 from HU.out ▸ wordI_range (mayE_zero.1 HS.out.2.1).1 HS.out.1)
    have HUE := Lib.hid (show unE u = 0 ∧ (Kd.tell f).E (unS u) = 0 ∧ (⟨0, 0, false, f, ep⟩ : St) = (Kd.tell f).S (unS u) from by rw [← HU.out, (un_word HS.out.1 HS.out.2.1).1, (un_word HS.out.1 HS.out.2.1).2, HS.out.2.2.2.1, HEP.out]; exact ⟨rfl, HS.out.2.2.1, rfl⟩)
    by_cases hlt : (i : Int) < c
    · skip
      have kc : decide ((i : Int) < c) = true := decide_eq_true hlt
      have kg : decide ((i : Int) ≥ c) = false := decide_eq_false (by omega)
      have HLT := Lib.hid hlt
      clear hlt
      have q1 : wrap64 (f + (i : Int)) = f + i := by unfold wrap64; have := HF.out; have := HI.out; have := HN.out; omega
      obtain ⟨f2, hf2⟩ : ∃ f2, (f + (i : Int)).tmod 64 = f2 := ⟨_, rfl⟩
      have HF2 := Lib.hid (show 0 ≤ f2 ∧ f2 ≤ 63 by rw [← hf2, Int.tmod_eq_emod_of_nonneg (by have := HF.out; omega)]; omega)
      have HS2 := Lib.hid (tell_S HF2.out HFL.out (e := i) ⟨by omega, by have := HC.out; have := HI.out; omega⟩)
      go_wp2_with fail
      refine (AHealth_in 0 1 f2 w2 ⟨by decide, by decide, HF2.out⟩).mono ?_; rintro e w102c ⟨oc, bc, rfl, ha, hs1, hs2, hs3, hs4, hb⟩
      obtain ⟨Mc, hM⟩ : ∃ Mc : Nat, g < Mc ∧ rr < Mc ∧ oa < Mc ∧ ba < Mc ∧ Mc ≤ oc ∧ (Mc ≤ bc ∨ bc = 0) := ⟨w2.heap.size, K_101.out.head.lt, K_101.out.row.lt, Aa_101.out.head.lt, ArbAt.blt Aa_101.out rfl, hs1, hs2⟩
      have ORD102 := Lib.hid (show 0 < rr ∧ rr + 1 = g ∧ g < Ma ∧ rr < Ma ∧ Ma ≤ oa ∧ (Ma ≤ ba ∨ ba = 0) ∧ g < Mc ∧ rr < Mc ∧ oa < Mc ∧ ba < Mc ∧ Mc ≤ oc ∧ (Mc ≤ bc ∨ bc = 0) from by have o_ := ORD1.out; omega)
      have Ic_102 := Lib.hid (show AInv (.tell f2) 1 (AX.zero 1) from AInv.zero (.inr (by decide)) (fun _ => by decide))
      have ee : Ex (fun _ => False) w2 w102c := Ex.of_below hb
      have K_103 := Lib.hid (K_101.out.ex ee (fun h => h) (fun h => h))
      have Aa_103 := Lib.hid (Aa_101.out.ex ee (fun h => h) (fun h => h))
      have T_103 := Lib.hid (T_101.out.ex ee (fun h => h))
      have L_103 := Lib.hid (L_101.out.ex ee (fun b_ h_ => h_.elim))
      have Ac_103 := Lib.hid (ha)
      clear ee K_101 Aa_101 T_101 L_101 hb hs1 hs2 hs3 hs4 hM ORD1
      clear q1 hf2 kc
      go_wp2_with fail
      obtain ⟨u2, hu2⟩ : ∃ u2, wordI ⟨0, 0, false, f2, ep⟩ = u2 := ⟨_, rfl⟩
      have HU2 := Lib.hid hu2
      have hne : u2 ≠ u := by
        rw [← hu2, ← HU.out]
        have := HF2.out
        have := HFL.out
        have := HEP.out
        unfold wordI
        simp only
        omega
      have HNE := Lib.hid hne
      clear hu2 hne
      refine (run_any g rr oc bc [u] (tt + 1) (.tell f2) ⟨by have := HF2.out; omega, by have := HF2.out; omega⟩ 1 0 (AX.zero 1) Ic_102.out w102c rfl Ac_103.out K_103.out T_103.out (by have o_ := ORD102.out; omega)).mono ?_; rintro e w104r ⟨rfl, hb, ha, _, hx⟩
      have e1 : aRun (.tell f2) 0 40 ((AX.zero 1), [u], (tt + 1)) = (⟨1, false, u, ⟨0, 0, false, f2, ep⟩, ⟨0, 0, false, f2, ep⟩, 0, 1 - 1, 2⟩, [u2], (tt + 1 + 2)) := by have := alone_turn (k := .tell f2) (n := 1) (t := tt + 1) HS2.out.1 HS2.out.2.1 (by have := HI.out; have := HN.out; omega) HS2.out.2.2.2.2; rw [HS2.out.2.2.2.1, HU.out, HEP.out, HU2.out] at this; exact this
      rw [e1] at hb ha ⊢
      simp only at hb ha ⊢
      have ee : Ex (fun k => k = g ∨ k = rr ∨ k = oc) w102c w104r := hx
      have Aa_105 := Lib.hid (Aa_103.out.ex ee (by have o_ := ORD102.out; omega) (by have o_ := ORD102.out; omega))
      have T_105 := Lib.hid (T_103.out.ex ee (by have o_ := ORD102.out; omega))
      have L_105 := Lib.hid (L_103.out.ex ee (fun b_ h_ => by have o_ := ORD102.out; have h_ : b_ = g ∨ b_ = rr ∨ b_ = oc := h_; first | omega | (show _ ∨ _; omega)))
      have K_105 := Lib.hid (hb)
      have Ac_105 := Lib.hid (ha)
      clear ee K_103 Aa_103 T_103 L_103 Ac_103 hb ha hx e1
      clear Ac_105
      go_wp2_with fail
      by_cases hl1 : lf = 1
      · skip
        have e1 : aStep (.tell f) 0 [u2] ⟨0, true, u, ⟨0, 0, false, f, ep⟩, St.zero, 0, lf, st + 1⟩ = ⟨2, false, u, ⟨0, 0, false, f, ep⟩, St.zero, 20, lf - 1, st + 1 + 1⟩ := by
          have := (step_miss (k := .tell f) (u := u2) (x := ⟨0, true, u, ⟨0, 0, false, f, ep⟩, St.zero, 0, lf, st + 1⟩) rfl rfl HNE.out).1
          rw [if_pos hl1] at this
          exact this
        have e2 : aWs 0 [u2] ⟨0, true, u, ⟨0, 0, false, f, ep⟩, St.zero, 0, lf, st + 1⟩ = [u2] := (step_miss (k := .tell f) (u := u2) (x := ⟨0, true, u, ⟨0, 0, false, f, ep⟩, St.zero, 0, lf, st + 1⟩) rfl rfl HNE.out).2
        have e3 : aT 0 [u2] ⟨0, true, u, ⟨0, 0, false, f, ep⟩, St.zero, 0, lf, st + 1⟩ (tt + 1 + 2) = tt + 1 + 2 + 1 := at_live rfl (by have := HI.out; have := HN.out; omega)
        have HX := Lib.hid e1
        have HY := Lib.hid e2
        have HZ := Lib.hid e3
        clear e1 e2 e3
        refine (Step_any g rr oa ba [u2] (tt + 1 + 2) (.tell f) HOK.out n 0 ⟨0, true, u, ⟨0, 0, false, f, ep⟩, St.zero, 0, lf, st + 1⟩ (show AInv (.tell f) n ⟨0, true, u, ⟨0, 0, false, f, ep⟩, St.zero, 0, lf, st + 1⟩ from ⟨HN.out.2, by have := HI.out; have := HN.out; simp only; omega, fun _ _ => by have := HI.out; have := HN.out; simp only; omega, fun _ _ => by have := HI.out; simp; omega, fun h => by simp [Kd.isRead] at h, fun _ _ => ⟨HUR.out, HUE.out.1, HUE.out.2.1, HUE.out.2.2⟩⟩) w104r Aa_105.out K_105.out T_105.out (by have o_ := ORD102.out; omega)).mono ?_; rintro e w5 ⟨rfl, hb, ha, hx⟩
        rw [HY.out, HZ.out] at hb
        rw [HX.out] at ha ⊢
        have ee : Ex (fun k => k = g ∨ k = rr ∨ k = oa) w104r w5 := hx
        have T_106 := Lib.hid (T_105.out.ex ee (by have o_ := ORD102.out; omega))
        have L_106 := Lib.hid (L_105.out.ex ee (fun b_ h_ => by have o_ := ORD102.out; have h_ : b_ = g ∨ b_ = rr ∨ b_ = oa := h_; first | omega | (show _ ∨ _; omega)))
        have K_106 := Lib.hid (hb)
        have Aa_106 := Lib.hid (ha)
        clear ee K_105 Aa_105 T_105 L_105 hb ha hx
        clear HX HY HZ
        go_wp2_with fail
        have HG := Lib.hid (Got_any oa ba (.tell f) 0 ⟨2, false, u, ⟨0, 0, false, f, ep⟩, St.zero, 20, lf - 1, st + 1 + 1⟩ w5 Aa_106.out)
        unfold St.val at HG
        simp only [St.zero] at HG
        refine (HG.out).mono ?_; rintro e w6 ⟨rfl, hb⟩
        clear HG
        have ee : Ex (fun _ => False) w5 w6 := Ex.of_below hb
        have K_107 := Lib.hid (K_106.out.ex ee (fun h => h) (fun h => h))
        have Aa_107 := Lib.hid (Aa_106.out.ex ee (fun h => h) (fun h => h))
        have T_107 := Lib.hid (T_106.out.ex ee (fun h => h))
        have L_107 := Lib.hid (L_106.out.ex ee (fun b_ h_ => h_.elim))
        clear ee K_106 Aa_106 T_106 L_106 hb
        go_upto_region 18 with fail
        obtain ⟨sb, hsb, hM⟩ : ∃ sb : Nat, w6.heap.size = sb ∧ g < sb ∧ rr < sb ∧ oa < sb ∧ ba < sb := ⟨w6.heap.size, rfl, K_107.out.head.lt, K_107.out.row.lt, Aa_107.out.head.lt, ArbAt.blt Aa_107.out rfl⟩
        have ORD108 := Lib.hid (show 0 < rr ∧ rr + 1 = g ∧ g < Ma ∧ rr < Ma ∧ Ma ≤ oa ∧ (Ma ≤ ba ∨ ba = 0) ∧ g < Mc ∧ rr < Mc ∧ oa < Mc ∧ ba < Mc ∧ Mc ≤ oc ∧ (Mc ≤ bc ∨ bc = 0) ∧ g < sb ∧ rr < sb ∧ oa < sb ∧ ba < sb from by have o_ := ORD102.out; omega)
        have hnb := Blk.new w6 34 #[.int .i64 0, .int .i64 0, .bool false, .int .i64 0, .int .u64 0]
        rw [hsb] at hnb
        simp only [hsb]
        have ee : Ex (fun _ => False) w6 (w6.alloc (.cells #[.int .i64 0, .int .i64 0, .bool false, .int .i64 0, .int .u64 0] 34)) := (Ex.refl (fun _ => False) w6).alloc (.cells #[.int .i64 0, .int .i64 0, .bool false, .int .i64 0, .int .u64 0] 34)
        have K_109 := Lib.hid (K_107.out.ex ee (fun h => h) (fun h => h))
        have Aa_109 := Lib.hid (Aa_107.out.ex ee (fun h => h) (fun h => h))
        have T_109 := Lib.hid (T_107.out.ex ee (fun h => h))
        have L_109 := Lib.hid (L_107.out.ex ee (fun b_ h_ => h_.elim))
        have S_109 := Lib.hid (hnb)
        clear ee K_107 Aa_107 T_107 L_107 hnb hM ORD102
        generalize w6.alloc (.cells #[.int .i64 0, .int .i64 0, .bool false, .int .i64 0, .int .u64 0] 34) = w7 at *
        clear hsb
        have q2 : wrap64 (n - 1) = n - 1 := by unfold wrap64; have := HN.out; omega
        have q3 : ((i : Int) == n - 1) = true := by have := HI.out; simp; omega
        have hm := fun W => AMost_any n W
        simp only [show amostF n = 2 * n from if_pos HN.out] at hm
        have HM := Lib.hid hm
        have q4 : (st + 1 + 1 == 2 * n) = true := by have := HI.out; simp; omega
        clear hm hl1
        have Sq0 := (S_109.out).cell 0
        have Sq1 := (S_109.out).cell 1
        have Sq2 := (S_109.out).cell 2
        have Sq3 := (S_109.out).cell 3
        have Sq4 := (S_109.out).cell 4
        simp only [List.getElem?_toArray, List.getElem?_cons_succ, List.getElem?_cons_zero] at Sq0 Sq1 Sq2 Sq3 Sq4
        go_wp2_with fail
        refine (Steps_any oa ba (.tell f) 0 ⟨2, false, u, ⟨0, 0, false, f, ep⟩, St.zero, 20, lf - 1, st + 1 + 1⟩ w7 Aa_109.out).mono ?_; rintro e w_ ⟨rfl, rfl⟩
        go_wp2_with fail
        refine (HM.out w7).mono ?_; rintro e w_ ⟨rfl, rfl⟩
        go_wp2_with fail
        refine (At_not oa ba (.tell f) 0 ⟨2, false, u, ⟨0, 0, false, f, ep⟩, St.zero, 20, lf - 1, st + 1 + 1⟩ w7 Aa_109.out (show (2 : Int) ≠ 1 by decide)).mono ?_; rintro e w_ ⟨rfl, rfl⟩
        go_wp2_with fail
        have IZ := Lib.hid (show AInv (.tell f) n ⟨2, false, u, ⟨0, 0, false, f, ep⟩, St.zero, 20, lf - 1, st + 1 + 1⟩ from ⟨HN.out.2, by have := HI.out; have := HN.out; simp; omega, fun h => by simp at h, fun h => by simp at h, fun _ => ⟨rfl, fun h => by simp at h⟩, fun h => by simp at h⟩)
        have HQ := Lib.hid (still_step (k := .tell f) (at_ := 0) (ws := [u2]) (t := tt + 1 + 2 + 1) (x := ⟨2, false, u, ⟨0, 0, false, f, ep⟩, St.zero, 20, lf - 1, st + 1 + 1⟩) (show (2 : Int) ≠ 0 by decide))
        clear Sq0 Sq1 Sq2 Sq3 Sq4
        refine (Step_any g rr oa ba [u2] (tt + 1 + 2 + 1) (.tell f) HOK.out n 0 ⟨2, false, u, ⟨0, 0, false, f, ep⟩, St.zero, 20, lf - 1, st + 1 + 1⟩ IZ.out w7 Aa_109.out K_109.out T_109.out (by have o_ := ORD108.out; omega)).mono ?_; rintro e w8 ⟨rfl, hb, ha, hx⟩
        rw [HQ.out.2.1, HQ.out.2.2] at hb
        rw [HQ.out.1] at ha ⊢
        have ee : Ex (fun k => k = g ∨ k = rr ∨ k = oa) w7 w8 := hx
        have T_110 := Lib.hid (T_109.out.ex ee (by have o_ := ORD108.out; omega))
        have L_110 := Lib.hid (L_109.out.ex ee (fun b_ h_ => by have o_ := ORD108.out; have h_ : b_ = g ∨ b_ = rr ∨ b_ = oa := h_; first | omega | (show _ ∨ _; omega)))
        have S_110 := Lib.hid (S_109.out.ex ee (by have o_ := ORD108.out; omega))
        have K_110 := Lib.hid (hb)
        have Aa_110 := Lib.hid (ha)
        clear ee K_109 Aa_109 T_109 L_109 S_109 hb ha hx
        go_wp2_with fail
        refine (awake_any w8 T_110.out).mono ?_; rintro e w9 ⟨rfl, hb⟩
        have ee : Ex (fun _ => False) w8 w9 := Ex.of_below hb
        have K_111 := Lib.hid (K_110.out.ex ee (fun h => h) (fun h => h))
        have Aa_111 := Lib.hid (Aa_110.out.ex ee (fun h => h) (fun h => h))
        have T_111 := Lib.hid (T_110.out.ex ee (fun h => h))
        have L_111 := Lib.hid (L_110.out.ex ee (fun b_ h_ => h_.elim))
        have S_111 := Lib.hid (S_110.out.ex ee (fun h => h))
        clear ee K_110 Aa_110 T_110 L_110 S_110 hb
        go_wp2_with fail
        go_ret
        exact ⟨rfl, L_111.out.low.mono HBS.out⟩
      · skip
        have e1 : aStep (.tell f) 0 [u2] ⟨0, true, u, ⟨0, 0, false, f, ep⟩, St.zero, 0, lf, st + 1⟩ = ⟨0, false, u, ⟨0, 0, false, f, ep⟩, St.zero, 0, lf - 1, st + 1 + 1⟩ := by
          have := (step_miss (k := .tell f) (u := u2) (x := ⟨0, true, u, ⟨0, 0, false, f, ep⟩, St.zero, 0, lf, st + 1⟩) rfl rfl HNE.out).1
          rw [if_neg hl1] at this
          exact this
        have e2 : aWs 0 [u2] ⟨0, true, u, ⟨0, 0, false, f, ep⟩, St.zero, 0, lf, st + 1⟩ = [u2] := (step_miss (k := .tell f) (u := u2) (x := ⟨0, true, u, ⟨0, 0, false, f, ep⟩, St.zero, 0, lf, st + 1⟩) rfl rfl HNE.out).2
        have e3 : aT 0 [u2] ⟨0, true, u, ⟨0, 0, false, f, ep⟩, St.zero, 0, lf, st + 1⟩ (tt + 1 + 2) = tt + 1 + 2 + 1 := at_live rfl (by have := HI.out; have := HN.out; omega)
        have HX := Lib.hid e1
        have HY := Lib.hid e2
        have HZ := Lib.hid e3
        clear e1 e2 e3
        refine (Step_any g rr oa ba [u2] (tt + 1 + 2) (.tell f) HOK.out n 0 ⟨0, true, u, ⟨0, 0, false, f, ep⟩, St.zero, 0, lf, st + 1⟩ (show AInv (.tell f) n ⟨0, true, u, ⟨0, 0, false, f, ep⟩, St.zero, 0, lf, st + 1⟩ from ⟨HN.out.2, by have := HI.out; have := HN.out; simp only; omega, fun _ _ => by have := HI.out; have := HN.out; simp only; omega, fun _ _ => by have := HI.out; simp; omega, fun h => by simp [Kd.isRead] at h, fun _ _ => ⟨HUR.out, HUE.out.1, HUE.out.2.1, HUE.out.2.2⟩⟩) w104r Aa_105.out K_105.out T_105.out (by have o_ := ORD102.out; omega)).mono ?_; rintro e w5 ⟨rfl, hb, ha, hx⟩
        rw [HY.out, HZ.out] at hb
        rw [HX.out] at ha ⊢
        have ee : Ex (fun k => k = g ∨ k = rr ∨ k = oa) w104r w5 := hx
        have T_106 := Lib.hid (T_105.out.ex ee (by have o_ := ORD102.out; omega))
        have L_106 := Lib.hid (L_105.out.ex ee (fun b_ h_ => by have o_ := ORD102.out; have h_ : b_ = g ∨ b_ = rr ∨ b_ = oa := h_; first | omega | (show _ ∨ _; omega)))
        have K_106 := Lib.hid (hb)
        have Aa_106 := Lib.hid (ha)
        clear ee K_105 Aa_105 T_105 L_105 hb ha hx
        clear HX HY HZ
        go_wp2_with fail
        have HG := Lib.hid (Got_any oa ba (.tell f) 0 ⟨0, false, u, ⟨0, 0, false, f, ep⟩, St.zero, 0, lf - 1, st + 1 + 1⟩ w5 Aa_106.out)
        unfold St.val at HG
        simp only [St.zero] at HG
        refine (HG.out).mono ?_; rintro e w6 ⟨rfl, hb⟩
        clear HG
        have ee : Ex (fun _ => False) w5 w6 := Ex.of_below hb
        have K_107 := Lib.hid (K_106.out.ex ee (fun h => h) (fun h => h))
        have Aa_107 := Lib.hid (Aa_106.out.ex ee (fun h => h) (fun h => h))
        have T_107 := Lib.hid (T_106.out.ex ee (fun h => h))
        have L_107 := Lib.hid (L_106.out.ex ee (fun b_ h_ => h_.elim))
        clear ee K_106 Aa_106 T_106 L_106 hb
        go_upto_region 18 with fail
        obtain ⟨sb, hsb, hM⟩ : ∃ sb : Nat, w6.heap.size = sb ∧ g < sb ∧ rr < sb ∧ oa < sb ∧ ba < sb := ⟨w6.heap.size, rfl, K_107.out.head.lt, K_107.out.row.lt, Aa_107.out.head.lt, ArbAt.blt Aa_107.out rfl⟩
        have ORD108 := Lib.hid (show 0 < rr ∧ rr + 1 = g ∧ g < Ma ∧ rr < Ma ∧ Ma ≤ oa ∧ (Ma ≤ ba ∨ ba = 0) ∧ g < Mc ∧ rr < Mc ∧ oa < Mc ∧ ba < Mc ∧ Mc ≤ oc ∧ (Mc ≤ bc ∨ bc = 0) ∧ g < sb ∧ rr < sb ∧ oa < sb ∧ ba < sb from by have o_ := ORD102.out; omega)
        have hnb := Blk.new w6 34 #[.int .i64 0, .int .i64 0, .bool false, .int .i64 0, .int .u64 0]
        rw [hsb] at hnb
        simp only [hsb]
        have ee : Ex (fun _ => False) w6 (w6.alloc (.cells #[.int .i64 0, .int .i64 0, .bool false, .int .i64 0, .int .u64 0] 34)) := (Ex.refl (fun _ => False) w6).alloc (.cells #[.int .i64 0, .int .i64 0, .bool false, .int .i64 0, .int .u64 0] 34)
        have K_109 := Lib.hid (K_107.out.ex ee (fun h => h) (fun h => h))
        have Aa_109 := Lib.hid (Aa_107.out.ex ee (fun h => h) (fun h => h))
        have T_109 := Lib.hid (T_107.out.ex ee (fun h => h))
        have L_109 := Lib.hid (L_107.out.ex ee (fun b_ h_ => h_.elim))
        have S_109 := Lib.hid (hnb)
        clear ee K_107 Aa_107 T_107 L_107 hnb hM ORD102
        generalize w6.alloc (.cells #[.int .i64 0, .int .i64 0, .bool false, .int .i64 0, .int .u64 0] 34) = w7 at *
        clear hsb
        have q2 : wrap64 (n - 1) = n - 1 := by unfold wrap64; have := HN.out; omega
        have q3 : ((i : Int) == n - 1) = false := by have := HI.out; simp; omega
        have HL1 := Lib.hid hl1
        clear hl1
        have Sq0 := (S_109.out).cell 0
        have Sq1 := (S_109.out).cell 1
        have Sq2 := (S_109.out).cell 2
        have Sq3 := (S_109.out).cell 3
        have Sq4 := (S_109.out).cell 4
        simp only [List.getElem?_toArray, List.getElem?_cons_succ, List.getElem?_cons_zero] at Sq0 Sq1 Sq2 Sq3 Sq4
        go_upto_region 9 with fail
        clear Sq0 Sq1 Sq2 Sq3 Sq4
        have j0 : (0 : Int) ≤ (i : Int) := by omega
        have j1 : (i : Int) ≤ 16 := by have := HI.out; have := HN.out; omega
        clear kg q2 q3 kn
        go_wp2_with fail
        go_roundw
        case rel =>
          refine ⟨i + 1, by go_num, by have := HI.out; have := HL1.out; omega, by have := HLT.out; omega, f2, u, lf - 1, st + 1 + 1, tt + 1 + 2 + 1, ⟨0, 0, false, f, ep⟩, HF2.out, by have := HI.out; omega, by have := HI.out; omega, by have := HI.out; omega, ?_, Aa_109.out, T_109.out, L_109.out⟩
          rw [show ((i + 1 : Nat) : Int) = ep by rw [← HEP.out]; rfl, HU2.out]
          exact K_109.out
        case measure => have a_ := HI.out; have b_ := HN.out; have c_ := HL1.out; simp [intOf]; omega
    · skip
      have kc : decide ((i : Int) < c) = false := decide_eq_false hlt
      have kg : decide ((i : Int) ≥ c) = true := decide_eq_true (by omega)
      have HLT := Lib.hid hlt
      clear hlt
      have e1 := (step_hit (k := .tell f) (u := u) (x := ⟨0, true, u, ⟨0, 0, false, f, ep⟩, St.zero, 0, lf, st + 1⟩) rfl rfl rfl).1
      have e2 := (step_hit (k := .tell f) (u := u) (x := ⟨0, true, u, ⟨0, 0, false, f, ep⟩, St.zero, 0, lf, st + 1⟩) rfl rfl rfl).2
      have e3 : aT 0 [u] ⟨0, true, u, ⟨0, 0, false, f, ep⟩, St.zero, 0, lf, st + 1⟩ (tt + 1) = tt + 1 + 1 := at_live rfl (by have := HI.out; have := HN.out; omega)
      simp only at e1 e2
      have HX := Lib.hid e1
      have HY := Lib.hid e2
      have HZ := Lib.hid e3
      clear e1 e2 e3
      go_wp2_with fail
      refine (Step_any g rr oa ba [u] (tt + 1) (.tell f) HOK.out n 0 ⟨0, true, u, ⟨0, 0, false, f, ep⟩, St.zero, 0, lf, st + 1⟩ (show AInv (.tell f) n ⟨0, true, u, ⟨0, 0, false, f, ep⟩, St.zero, 0, lf, st + 1⟩ from ⟨HN.out.2, by have := HI.out; have := HN.out; simp only; omega, fun _ _ => by have := HI.out; have := HN.out; simp only; omega, fun _ _ => by have := HI.out; simp; omega, fun h => by simp [Kd.isRead] at h, fun _ _ => ⟨HUR.out, HUE.out.1, HUE.out.2.1, HUE.out.2.2⟩⟩) w2 Aa_101.out K_101.out T_101.out (by have o_ := ORD1.out; omega)).mono ?_; rintro e w5 ⟨rfl, hb, ha, hx⟩
      rw [HY.out, HZ.out] at hb
      rw [HX.out] at ha ⊢
      have ee : Ex (fun k => k = g ∨ k = rr ∨ k = oa) w2 w5 := hx
      have T_102 := Lib.hid (T_101.out.ex ee (by have o_ := ORD1.out; omega))
      have L_102 := Lib.hid (L_101.out.ex ee (fun b_ h_ => by have o_ := ORD1.out; have h_ : b_ = g ∨ b_ = rr ∨ b_ = oa := h_; first | omega | (show _ ∨ _; omega)))
      have K_102 := Lib.hid (hb)
      have Aa_102 := Lib.hid (ha)
      clear ee K_101 Aa_101 T_101 L_101 hb ha hx
      clear HX HY HZ
      go_wp2_with fail
      have HG := Lib.hid (Got_any oa ba (.tell f) 0 ⟨1, false, u, ⟨0, 0, false, f, ep⟩, ⟨0, 0, false, f, ep⟩, 0, lf - 1, st + 1 + 1⟩ w5 Aa_102.out)
      unfold St.val at HG
      simp only at HG
      refine (HG.out).mono ?_; rintro e w6 ⟨rfl, hb⟩
      clear HG
      have ee : Ex (fun _ => False) w5 w6 := Ex.of_below hb
      have K_103 := Lib.hid (K_102.out.ex ee (fun h => h) (fun h => h))
      have Aa_103 := Lib.hid (Aa_102.out.ex ee (fun h => h) (fun h => h))
      have T_103 := Lib.hid (T_102.out.ex ee (fun h => h))
      have L_103 := Lib.hid (L_102.out.ex ee (fun b_ h_ => h_.elim))
      clear ee K_102 Aa_102 T_102 L_102 hb
      go_upto_region 18 with fail
      obtain ⟨sb, hsb, hM⟩ : ∃ sb : Nat, w6.heap.size = sb ∧ g < sb ∧ rr < sb ∧ oa < sb ∧ ba < sb := ⟨w6.heap.size, rfl, K_103.out.head.lt, K_103.out.row.lt, Aa_103.out.head.lt, ArbAt.blt Aa_103.out rfl⟩
      have ORD104 := Lib.hid (show 0 < rr ∧ rr + 1 = g ∧ g < Ma ∧ rr < Ma ∧ Ma ≤ oa ∧ (Ma ≤ ba ∨ ba = 0) ∧ g < sb ∧ rr < sb ∧ oa < sb ∧ ba < sb from by have o_ := ORD1.out; omega)
      have hnb := Blk.new w6 34 #[.int .i64 0, .int .i64 0, .bool false, .int .i64 f, .int .u64 ep]
      rw [hsb] at hnb
      simp only [hsb]
      have ee : Ex (fun _ => False) w6 (w6.alloc (.cells #[.int .i64 0, .int .i64 0, .bool false, .int .i64 f, .int .u64 ep] 34)) := (Ex.refl (fun _ => False) w6).alloc (.cells #[.int .i64 0, .int .i64 0, .bool false, .int .i64 f, .int .u64 ep] 34)
      have K_105 := Lib.hid (K_103.out.ex ee (fun h => h) (fun h => h))
      have Aa_105 := Lib.hid (Aa_103.out.ex ee (fun h => h) (fun h => h))
      have T_105 := Lib.hid (T_103.out.ex ee (fun h => h))
      have L_105 := Lib.hid (L_103.out.ex ee (fun b_ h_ => h_.elim))
      have S_105 := Lib.hid (hnb)
      clear ee K_103 Aa_103 T_103 L_103 hnb hM ORD1
      generalize w6.alloc (.cells #[.int .i64 0, .int .i64 0, .bool false, .int .i64 f, .int .u64 ep] 34) = w7 at *
      clear hsb
      have q5 : (f == f) = true := by simp
      have q6 : IntKind.u64.wrap c = c := by rw [IntKind.wrap_u64]; have := HC.out; omega
      have q7 : IntKind.u64.wrap (c + 1) = c + 1 := by rw [IntKind.wrap_u64]; have := HC.out; omega
      have q8 : (ep == c + 1) = true := by have := HEP.out; have := HI.out; have := HLT.out; simp; omega
      have q9 : wrap64 (2 * c) = 2 * c := by unfold wrap64; have := HC.out; omega
      have q10 : wrap64 (2 * c + 2) = 2 * c + 2 := by unfold wrap64; have := HC.out; omega
      have q11 : (st + 1 + 1 == 2 * c + 2) = true := by have := HI.out; have := HLT.out; simp; omega
      have Sq0 := (S_105.out).cell 0
      have Sq1 := (S_105.out).cell 1
      have Sq2 := (S_105.out).cell 2
      have Sq3 := (S_105.out).cell 3
      have Sq4 := (S_105.out).cell 4
      simp only [List.getElem?_toArray, List.getElem?_cons_succ, List.getElem?_cons_zero] at Sq0 Sq1 Sq2 Sq3 Sq4
      go_wp2_with fail
      refine (Steps_any oa ba (.tell f) 0 ⟨1, false, u, ⟨0, 0, false, f, ep⟩, ⟨0, 0, false, f, ep⟩, 0, lf - 1, st + 1 + 1⟩ w7 Aa_105.out).mono ?_; rintro e w_ ⟨rfl, rfl⟩
      go_wp2_with fail
      refine (At_done oa ba (.tell f) 0 ⟨1, false, u, ⟨0, 0, false, f, ep⟩, ⟨0, 0, false, f, ep⟩, 0, lf - 1, st + 1 + 1⟩ w7 Aa_105.out rfl).mono ?_; rintro e w_ ⟨rfl, rfl⟩
      go_wp2_with fail
      refine (awake_any w7 T_105.out).mono ?_; rintro e w9 ⟨rfl, hb⟩
      clear Sq0 Sq1 Sq2 Sq3 Sq4
      have ee : Ex (fun _ => False) w7 w9 := Ex.of_below hb
      have K_106 := Lib.hid (K_105.out.ex ee (fun h => h) (fun h => h))
      have Aa_106 := Lib.hid (Aa_105.out.ex ee (fun h => h) (fun h => h))
      have T_106 := Lib.hid (T_105.out.ex ee (fun h => h))
      have L_106 := Lib.hid (L_105.out.ex ee (fun b_ h_ => h_.elim))
      have S_106 := Lib.hid (S_105.out.ex ee (fun h => h))
      clear ee K_105 Aa_105 T_105 L_105 S_105 hb
      go_wp2_with fail
      go_ret
      exact ⟨rfl, L_106.out.low.mono HBS.out⟩
theorem ArbiterSpent_walk (f n c : Int) (w : World) (ht : Tab w) : Calls Tryd.prog 3 #[.int .i64 f, .int .i64 n, .int .i64 c] w fun e w' => e = .returned (.bool true) ∧ Below w.heap.size w w' := by
  by_cases h0 : f < 0
  · exact Sp_bad0 f n c w ht h0
  by_cases h1 : f > 63
  · exact Sp_bad1 f n c w ht ⟨h0, h1⟩
  by_cases h2 : n < 1
  · exact Sp_bad2 f n c w ht ⟨h0, h1, h2⟩
  by_cases h3 : n > 16
  · exact Sp_bad3 f n c w ht ⟨h0, h1, h2, h3⟩
  by_cases h4 : c < 0
  · exact Sp_bad4 f n c w ht ⟨h0, h1, h2, h3, h4⟩
  by_cases h5 : c > 16
  · exact Sp_bad5 f n c w ht ⟨h0, h1, h2, h3, h4, h5⟩
  exact Sp_good f n c w ht (by omega) (by omega) (by omega)
end Go.Proofs.YtkmlikohgilnbaaDoor.Arb
