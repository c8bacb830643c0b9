/-
  SnapOwn, walked. Printed by wip/tools/mksno.py. No condition. By an AI agent.
-/
import Derived.Test.YtjdalllfnlpmnaaSnK
import Derived.ArgAppend
import Derived.Deep.CutRange
namespace Go.Proofs.Ytjdalllfnlpmnaa.Bank
set_option linter.unusedVariables false
set_option linter.unusedSimpArgs false
open Go Go.RowKit Go.Proofs.Ytjdalllfnlpmnaa.Base

set_option maxRecDepth 100000 in
set_option maxHeartbeats 16000000 in
theorem SnapOwn_walk (v : Value) (x : Nat × (Nat → Tp)) (w : World) (h : Tps w v x.1 x.2) : Calls Try.prog 6 #[v] w fun e w' => e = .returned (.bool true) ∧ Below w.heap.size w w' := by
  obtain ⟨n, l⟩ := x
  simp only at h
  obtain ⟨A0, c0, rfl, hn, hg⟩ := h.form
  have HN := Lib.hid hn
  have HTP := Lib.hid h
  have HG := Lib.hid hg
  clear h hn hg
  go_enter Try.func6, Try.ntmps6
  go_wp2_with fail
  refine (SnGot_none w).mono ?_; rintro e w1 ⟨rfl, rfl⟩
  go_wp2_with fail
  refine (SN_none _ w).mono ?_; rintro e w1 ⟨rfl, rfl⟩
  go_wp2_with fail
  refine (SnAt_none w).mono ?_; rintro e w1 ⟨rfl, rfl⟩
  go_wp2_with fail
  refine (SnSteps_none w).mono ?_; rintro e w1 ⟨rfl, rfl⟩
  go_wp2_with fail
  refine (lay_any _ n l w HTP.out).mono ?_; rintro e w2 ⟨ho, hl⟩
  have L0 := Lib.hid hl
  clear hl
  rcases ho with ⟨hok, v1, p1, rfl, r, c, g, h, rfl, rfl, hown, hk, q0, q1, q2, q3⟩ | ⟨hok, rfl⟩
  case inr =>
    clear hok
    go_wp2_with fail
    refine (awake_any _).mono ?_; rintro e wz ⟨rfl, hb⟩
    have LZ := Lib.hid (bl L0.out hb)
    clear hb
    go_wp2_with fail
    go_ret
    exact ⟨rfl, LZ.out⟩
  have TOK := Lib.hid hok
  have ORD := Lib.hid (show w.heap.size ≤ r ∧ r < h ∧ h < g ∧ g < w2.heap.size from ⟨q0, q1, q2, q3⟩)
  obtain ⟨N, hN⟩ : ∃ N : Nat, (N : Int) = offT l n := ⟨(offT l n).toNat, by have := (offT_bounds hok.2 n (Nat.le_refl _)).1; omega⟩
  have hk : BankAt w2 g h (zeros N) 0 := by rw [show (offT l n).toNat = N by omega] at hk; exact hk
  have HNN := Lib.hid hN
  obtain ⟨m, hm⟩ : ∃ m : Nat, widthF (laidS l) n = (m : Int) := ⟨(widthF (laidS l) n).toNat, by have := (widthF_bounds (wrongE_zero (laid_wrong hok (tries := 1) (by omega))).2.1 n (Nat.le_refl _)).1; omega⟩
  have HM := Lib.hid hm
  have HMB := Lib.hid (wide_bounds hok hm)
  have K0 := Lib.hid hk
  have S0 := Lib.hid (srow_of_own hown (by have := hok.1; omega))
  have HN5 := Lib.hid hok.1
  obtain ⟨tb, tob, rfl, htb, htc⟩ := HG.out (by have := hok.1; omega)
  have HTB := Lib.hid htb
  have HTC := Lib.hid htc
  clear hok q0 q1 q2 q3 hk hown hN hm HG htb htc
  go_wp2_with fail
  obtain ⟨wk, rfl⟩ : ∃ wk : World, wk = w2 := ⟨_, rfl⟩
  go_loopw [9] (fun iv wr => ∃ (k : Nat) (t : Int), k ≤ n ∧ iv = .int .i64 k ∧ BankAt wr g h (pubO l N k) t ∧ SRow wr r n (laidS l) ∧ Below w.heap.size w wr) (fun iv _ => n - (intOf iv).toNat)
  case atStart => exact ⟨0, 0, by omega, rfl, K0.out, S0.out, L0.out⟩
  case round =>
    have ORD := Lib.hid (show w.heap.size ≤ r ∧ r < h ∧ h < g by have := ORD.out; omega)
    clear K0 S0 L0
    obtain ⟨k, t, hk, rfl, hbk, hsr, hl⟩ := hrel
    have K0 := Lib.hid hbk
    have S0 := Lib.hid hsr
    have L0 := Lib.hid hl
    clear hbk hsr hl
    by_cases hlt : k < n
    · have kd : decide ((k : Int) < (n : Int)) = true := decide_eq_true (by omega)
      have ki0 : (0 : Int) ≤ (k : Int) := by omega
      have ki1 : (k : Int) < (n : Int) := by omega
      have ki5 : (k : Int) ≤ 5 := by have := HN5.out; omega
      have kw : IntKind.u64.wrap (k : Int) = (k : Int) := u64_wrap_in (by omega)
      have kw3 : IntKind.u64.wrap ((k : Int) + 3) = (k : Int) + 3 := u64_wrap_in (by omega)
      have HI := Lib.hid hlt
      have HPI := Lib.hid (pub_inv TOK.out HNN.out k (by omega))
      have HPG := Lib.hid (pub_geo TOK.out HNN.out hlt)
      have HP := Lib.hid (fun (W : World) (hb : BankAt W g h (pubO l N k) t) (h9 : g < W.heap.size ∧ h < W.heap.size) => publish_any g h (pubO l N k) t (laidS l k) (mT l k) (qT l k) (pT l k) 0 ((k : Int) + 3) W HPG.out.1 HPG.out.2.1 HPG.out.2.2.1 (by omega) hb (by rw [HPI.out.1]; exact HPG.out.2.2.2.1) (by rw [HPI.out.2.1 _ HPG.out.2.2.2.2.1]; rfl) HPG.out.2.2.2.2.2.1 (by rw [HPI.out.1]; exact HPG.out.2.2.2.2.2.2.1) HPG.out.2.2.2.2.2.2.2 h9)
      have HSP := Lib.hid (S0.out.five hlt)
      have e5 : pubO l N (k + 1) = aloneW (qT l k) (pT l k) (recL (mT l k) ((k : Int) + 3)) 0 (pubO l N k) (mT l k + 3) := rfl
      rw [← e5] at HP
      clear e5 hk hlt HPI HPG
      generalize laidS l k = s at *
      obtain ⟨e0, e1, e2, e3, e4⟩ := HSP.out
      unfold Spot.val at HP
      go_wp2_with fail
      clear e0 e1 e2 e3 e4 HSP
      refine (HP.out wr K0.out ⟨K0.out.head.lt, K0.out.row.lt⟩).mono ?_; rintro e w3 ⟨rfl, hk3, hx3⟩
      have ee : Ex (fun k => k = g ∨ k = h) wr w3 := hx3
      have S_1 := Lib.hid (S0.out.ex ee (by have o_ := ORD.out; omega))
      have L_1 := Lib.hid (Ex.below L0.out ee (fun k hk => by have o_ := ORD.out; have hk : k = g ∨ k = h := hk; omega))
      have K_1 := Lib.hid (hk3)
      clear ee K0 S0 L0 hk3 hx3 HP
      go_wp2_with fail
      go_roundw
      case rel => exact ⟨k + 1, _, by have := HI.out; omega, by go_num, K_1.out, S_1.out, L_1.out⟩
      case measure => have := HI.out; simp [intOf]; omega
    · obtain rfl : k = n := by omega
      have kd : decide ((k : Int) < (k : Int)) = false := decide_eq_false (by omega)
      clear hk hlt
      have HPI := Lib.hid (pub_inv TOK.out HNN.out k (Nat.le_refl _))
      generalize pubO l N k = ws at *
      have HLEN := Lib.hid (show (ws.length : Int) = offT l k by rw [HPI.out.1]; exact HNN.out)
      have HWF := Lib.hid (wordF_range K0.out)
      go_wp2_with fail
      clear kd
      refine (SNew_in _ k (laidS l) 1 wr (S0.out.sps (by have := HN5.out; unfold maxLen; omega)) (laid_wrong TOK.out (by omega)) m HM.out).mono ?_; rintro e w3 ⟨o, rs, cs, rg, rw, rfl, ho, q0, q1, q2, q3, hl⟩
      have hkl := K0.out.head.lt
      have hkl2 := K0.out.row.lt
      have ORD2 := Lib.hid (show w.heap.size ≤ r ∧ r < h ∧ h < g ∧ g < rs ∧ g < rg ∧ g < rw ∧ g < o from by have := ORD.out; omega)
      clear ORD q0 q1 q2 q3 hkl hkl2
      have ORD := Lib.hid ORD2.out
      clear ORD2
      have ee : Ex (fun _ => False) wr w3 := Ex.of_below hl
      have K_1 := Lib.hid (K0.out.ex ee (fun h => h) (fun h => h))
      have S_1 := Lib.hid (S0.out.ex ee (fun h => h))
      have L_1 := Lib.hid (Ex.below L0.out ee (fun k hk => hk.elim))
      have O_1 := Lib.hid (show SnX w3 o rs cs rg rw k m (laidS l) (xM k m 1 0 0 (gOf (laidS l) k ws) (zeros k) (vOf (laidS l) k m (gOf (laidS l) k ws) ws) (zeros m) 0) from by rw [xM_zero _ _ _ HN5.out.1]; exact ho)
      clear ee K0 S0 L0 ho hl
      have kz0 : (0 : Int) < (k : Int) := by have := HN5.out; omega
      have ez := S_1.out.cell 0 (by have := HN5.out; omega) 1 (by decide)
      have fz := S_1.out.frozen 1
      simp only [Nat.zero_mul, Nat.zero_add] at ez
      have hs9 := S_1.out.store (by have := HN5.out; omega)
      go_wp2_with fail
      clear ez fz
      have ee : Ex (fun k => k = r) w3 (w3.setCell ⟨r, 1, none⟩ (.int .i64 0)) := (Ex.refl (fun k => k = r) w3).setCell (q := ⟨r, 1, none⟩) (.inl rfl) (.int .i64 0)
      have K_2 := Lib.hid (K_1.out.ex ee (by have o_ := ORD.out; omega) (by have o_ := ORD.out; omega))
      have O_2 := Lib.hid (O_1.out.ex ee (by have o_ := ORD.out; omega) (by have o_ := ORD.out; omega) (by have o_ := ORD.out; omega) (by have o_ := ORD.out; omega))
      have L_2 := Lib.hid (Ex.below L_1.out ee (fun k hk => by have o_ := ORD.out; have hk : k = r := hk; omega))
      have S_2 := Lib.hid (hs9)
      clear ee K_1 S_1 O_1 L_1 hs9
      generalize (w3.setCell ⟨r, 1, none⟩ (.int .i64 0)) = w4 at *
      obtain ⟨wk2, rfl⟩ : ∃ wk : World, wk = w4 := ⟨_, rfl⟩
      go_loopw [12] (fun iv wr => ∃ (i : Nat) (t : Int), i < 2 * k + m ∧ iv = .int .i64 i ∧ BankAt wr g h ws t ∧ SRow wr r k (seq0 (laidS l)) ∧ SnX wr o rs cs rg rw k m (laidS l) (xM k m 1 0 0 (gOf (laidS l) k ws) (zeros k) (vOf (laidS l) k m (gOf (laidS l) k ws) ws) (zeros m) i) ∧ Below w.heap.size w wr) (fun iv _ => 2 * k + m - (intOf iv).toNat)
      case atStart => exact ⟨0, _, by have := HN5.out; omega, rfl, K_2.out, S_2.out, O_2.out, L_2.out⟩
      case round =>
        clear K_2 S_2 O_2 L_2
        obtain ⟨i, t, hi, rfl, hbk, hsr, ho, hl⟩ := hrel
        have K0 := Lib.hid hbk
        have S0 := Lib.hid hsr
        have O0 := Lib.hid ho
        have L0 := Lib.hid hl
        have HI := Lib.hid hi
        clear hbk hsr hl ho hi
        have kd : decide ((i : Int) < 50) = true := decide_eq_true (by have := HI.out; have := HN5.out; have := HMB.out; omega)
        have ki5 : (i : Int) ≤ 50 := by have := HI.out; have := HN5.out; have := HMB.out; omega
        have HS := Lib.hid (al_step TOK.out HM.out HLEN.out (T := 1) (s0 := 0) (b0 := 0) (G0 := zeros k) (V0 := zeros m) HI.out t)
        have HOK := Lib.hid (xM_ok TOK.out HM.out (ws := ws) HWF.out (i := i) (by have := HI.out; omega))
        go_wp2_with fail
        refine (SStep_any g h o rs cs rg rw k m ws t (laidS l) _ wr K0.out O0.out HOK.out.inv (by have := ORD.out; omega)).mono ?_; rintro e w5 ⟨rfl, hk5, ho5, hx5⟩
        rw [HS.out.1] at ho5 ⊢
        clear HS
        have ee : Ex (fun k => k = g ∨ k = h ∨ k = o ∨ k = rg ∨ k = rw) wr w5 := hx5
        have S_3 := Lib.hid (S0.out.ex ee (by have o_ := ORD.out; omega))
        have L_3 := Lib.hid (Ex.below L0.out ee (fun k hk => by have o_ := ORD.out; have hk : k = g ∨ k = h ∨ k = o ∨ k = rg ∨ k = rw := hk; omega))
        have K_3 := Lib.hid (hk5)
        have O_3 := Lib.hid (ho5)
        clear ee K0 S0 O0 L0 hk5 ho5 hx5 HOK
        have hhow : (xM k m 1 0 0 (gOf (laidS l) k ws) (zeros k) (vOf (laidS l) k m (gOf (laidS l) k ws) ws) (zeros m) (i + 1)).how = if i + 1 = 2 * k + m then 1 else 0 := rfl
        by_cases hlast : i + 1 = 2 * k + m
        case neg =>
          rw [if_neg hlast] at hhow
          rw [hhow]
          go_wp2_with fail
          refine (XAt_any o rs cs rg rw k m (laidS l) (xM k m 1 0 0 (gOf (laidS l) k ws) (zeros k) (vOf (laidS l) k m (gOf (laidS l) k ws) ws) (zeros m) (i + 1)) w5 O_3.out).mono ?_; rintro e w6 ⟨rfl, rfl⟩
          rw [hhow, if_neg (show ¬ (0 : Int) = 1 by decide)]
          clear hhow
          go_wp2_with fail
          go_roundw
          case rel => exact ⟨i + 1, _, by have := HI.out; omega, by go_num, K_3.out, S_3.out, O_3.out, L_3.out⟩
          case measure => have := HI.out; simp [intOf]; omega
        rw [if_pos hlast] at hhow
        rw [hhow]
        have HX1 := Lib.hid (xM_end (k := k) (m := m) (ws := ws) (l := laidS l) hlast)
        clear hhow hlast
        generalize (xM k m 1 0 0 (gOf (laidS l) k ws) (zeros k) (vOf (laidS l) k m (gOf (laidS l) k ws) ws) (zeros m) (i + 1)) = x1 at *
        go_wp2_with fail
        refine (XGot_done o rs cs rg rw k m (laidS l) x1 w5 O_3.out HX1.out.1 ⟨by have := HMB.out; omega, by have := HMB.out; omega⟩ ⟨HN5.out.1, by have := HN5.out; omega⟩).mono ?_; rintro e w6 ⟨q, G, rfl, q0, hi1, hi2, hG, hown, hl⟩
        have hQ := qrow_of_own hown (by have := HN5.out; omega)
        have hlt := SnX.lt O_3.out
        have ORD2 := Lib.hid (show w.heap.size ≤ r ∧ r < h ∧ h < g ∧ g < rs ∧ g < rg ∧ g < rw ∧ g < o ∧ rs < q ∧ rg < q ∧ rw < q ∧ o < q from by have := ORD.out; omega)
        clear ORD q0 hi1 hi2 hown hlt
        have ORD := Lib.hid ORD2.out
        have HGQ := Lib.hid hG
        clear ORD2 hG
        have ee : Ex (fun _ => False) w5 w6 := Ex.of_below hl
        have K_4 := Lib.hid (K_3.out.ex ee (fun h => h) (fun h => h))
        have S_4 := Lib.hid (S_3.out.ex ee (fun h => h))
        have O_4 := Lib.hid (O_3.out.ex ee (fun h => h) (fun h => h) (fun h => h) (fun h => h))
        have L_4 := Lib.hid (Ex.below L_3.out ee (fun k hk => hk.elim))
        have Q_4 := Lib.hid (hQ)
        clear ee K_3 S_3 O_3 L_3 hQ hl
        go_wp2_with fail
        generalize sTickF (laidS l) k m ws (xM k m 1 0 0 (gOf (laidS l) k ws) (zeros k) (vOf (laidS l) k m (gOf (laidS l) k ws) ws) (zeros m) i) t = t9 at *
        obtain ⟨wk3, rfl⟩ : ∃ wk : World, wk = w6 := ⟨_, rfl⟩
        go_loopw [15] (fun iv wr => ∃ (a : Nat), a ≤ m ∧ iv = .int .i64 a ∧ BankAt wr g h ws t9 ∧ SRow wr r k (seq0 (laidS l)) ∧ SnX wr o rs cs rg rw k m (laidS l) x1 ∧ QRow wr q G ∧ Below w.heap.size w wr) (fun iv _ => m - (intOf iv).toNat)
        case atStart => exact ⟨0, by omega, rfl, K_4.out, S_4.out, O_4.out, Q_4.out, L_4.out⟩
        case round =>
          clear K_4 S_4 O_4 Q_4 L_4
          obtain ⟨a, ha, rfl, hbk, hsr, ho, hq, hl⟩ := hrel
          have K0 := Lib.hid hbk
          have S0 := Lib.hid hsr
          have O0 := Lib.hid ho
          have Q0 := Lib.hid hq
          have L0 := Lib.hid hl
          clear hbk hsr hl ho hq
          by_cases hlt : a < m
          · have kd : decide ((a : Int) < (m : Int)) = true := decide_eq_true (by omega)
            have ka0 : (0 : Int) ≤ (a : Int) := by omega
            have ka1 : (a : Int) < (m : Int) := by omega
            have ka5 : (a : Int) ≤ 100 := by have := HMB.out; have := HN5.out; omega
            have HA := Lib.hid hlt
            clear ha hlt
            obtain ⟨u9, hu9⟩ := Q0.out.cell (i := a) (by have := HA.out; have := HGQ.out; omega)
            have f9 := Q0.out.frozen (a)
            have hq9 := Q0.out.store (a) (.int .u64 77)
            go_wp2_with fail
            clear hu9 f9
            have ee : Ex (fun k => k = q) wr (wr.setCell ⟨q, a, none⟩ (.int .u64 77)) := (Ex.refl (fun k => k = q) wr).setCell (q := ⟨q, a, none⟩) (.inl rfl) (.int .u64 77)
            have K_5 := Lib.hid (K0.out.ex ee (by have o_ := ORD.out; omega) (by have o_ := ORD.out; omega))
            have S_5 := Lib.hid (S0.out.ex ee (by have o_ := ORD.out; omega))
            have O_5 := Lib.hid (O0.out.ex ee (by have o_ := ORD.out; omega) (by have o_ := ORD.out; omega) (by have o_ := ORD.out; omega) (by have o_ := ORD.out; omega))
            have L_5 := Lib.hid (Ex.below L0.out ee (fun k hk => by have o_ := ORD.out; have hk : k = q := hk; omega))
            have Q_5 := Lib.hid (hq9)
            clear ee K0 S0 O0 Q0 L0 hq9
            generalize (wr.setCell ⟨q, a, none⟩ (.int .u64 77)) = w7 at *
            exact ⟨⟨a + 1, by have := HA.out; omega, by go_num, K_5.out, S_5.out, O_5.out, Q_5.out, L_5.out⟩, by have := HA.out; simp [intOf]; omega⟩
          · obtain rfl : a = m := by omega
            obtain ⟨MM, rfl⟩ : ∃ z, z = a := ⟨_, rfl⟩
            have kd : decide ((MM : Int) < (MM : Int)) = false := decide_eq_false (by omega)
            clear ha hlt
            go_wp2_with fail
            clear kd
            obtain ⟨wk4, rfl⟩ : ∃ wk : World, wk = wr := ⟨_, rfl⟩
            go_loopw [16] (fun iv wr => ∃ (a : Nat), a ≤ k ∧ iv = .int .i64 a ∧ BankAt wr g h ws t9 ∧ SRow wr r k (seq0 (laidS l)) ∧ SnX wr o rs cs rg rw k MM (laidS l) x1 ∧ QRow wr q G ∧ Below w.heap.size w wr) (fun iv _ => k - (intOf iv).toNat)
            case atStart => exact ⟨0, by omega, rfl, K0.out, S0.out, O0.out, Q0.out, L0.out⟩
            case round =>
              clear K0 S0 O0 Q0 L0
              obtain ⟨a, ha, rfl, hbk, hsr, ho, hq, hl⟩ := hrel
              have K0 := Lib.hid hbk
              have S0 := Lib.hid hsr
              have O0 := Lib.hid ho
              have Q0 := Lib.hid hq
              have L0 := Lib.hid hl
              clear hbk hsr hl ho hq
              by_cases hlt : a < k
              · have kd : decide ((a : Int) < (k : Int)) = true := decide_eq_true (by omega)
                have ka0 : (0 : Int) ≤ (a : Int) := by omega
                have ka1 : (a : Int) < (k : Int) := by omega
                have ka5 : (a : Int) ≤ 100 := by have := HMB.out; have := HN5.out; omega
                have HA := Lib.hid hlt
                clear ha hlt
                obtain ⟨u9, hu9⟩ := Q0.out.cell (i := MM + a) (by have := HA.out; have := HGQ.out; omega)
                have f9 := Q0.out.frozen (MM + a)
                have hq9 := Q0.out.store (MM + a) (.int .u64 77)
                go_wp2_with fail
                clear hu9 f9
                have ee : Ex (fun k => k = q) wr (wr.setCell ⟨q, MM + a, none⟩ (.int .u64 77)) := (Ex.refl (fun k => k = q) wr).setCell (q := ⟨q, MM + a, none⟩) (.inl rfl) (.int .u64 77)
                have K_5 := Lib.hid (K0.out.ex ee (by have o_ := ORD.out; omega) (by have o_ := ORD.out; omega))
                have S_5 := Lib.hid (S0.out.ex ee (by have o_ := ORD.out; omega))
                have O_5 := Lib.hid (O0.out.ex ee (by have o_ := ORD.out; omega) (by have o_ := ORD.out; omega) (by have o_ := ORD.out; omega) (by have o_ := ORD.out; omega))
                have L_5 := Lib.hid (Ex.below L0.out ee (fun k hk => by have o_ := ORD.out; have hk : k = q := hk; omega))
                have Q_5 := Lib.hid (hq9)
                clear ee K0 S0 O0 Q0 L0 hq9
                generalize (wr.setCell ⟨q, MM + a, none⟩ (.int .u64 77)) = w7 at *
                exact ⟨⟨a + 1, by have := HA.out; omega, by go_num, K_5.out, S_5.out, O_5.out, Q_5.out, L_5.out⟩, by have := HA.out; simp [intOf]; omega⟩
              · obtain rfl : a = k := by omega
                obtain ⟨NN, rfl⟩ : ∃ z, z = a := ⟨_, rfl⟩
                have kd : decide ((NN : Int) < (NN : Int)) = false := decide_eq_false (by omega)
                clear ha hlt
                obtain ⟨cur, hcur, hcs⟩ := Q0.out
                obtain ⟨i0_, hi0, hz0, hz1, hz2⟩ := info_parts wordU_info
                have HCU := Lib.hid hcur
                have HCS := Lib.hid hcs
                clear hcur hcs
                have kmm1 : wrap64 ((MM : Int) + 1) = (MM : Int) + 1 := wrap64_in _ (by have := HMB.out; omega)
                go_wp2_with (at_builtin; refine wpList_append_grows _ rfl _ _ 41 rfl 42 i0_ (.int .u64 0) 1 8 Try.underlying41 hi0 hz0 hz1 hz2 rfl (by decide) (some ⟨q, 0, none⟩) MM MM (cur.toList.take MM) rfl (fun h => by cases h) ?c0 ?c6 ⟨wr.heap.size, 0, none⟩ 1 1 [.int .u64 5] rfl rfl ?c1 ?c2 ?c3 ?c4 ?c5 ?_)
                case c0 => rw [List.length_take]; have := HCS.out; have := HGQ.out; simp; omega
                case c6 =>
                  intro b hb j u hj
                  injection hb with hb
                  subst hb
                  have e : (⟨q, 0, none⟩ : Addr).add j = ⟨q, j, none⟩ := by unfold Addr.add; split <;> simp_all
                  rw [e]
                  have hj2 : j < MM := by
                    have h1 := (List.getElem?_eq_some_iff.1 hj).1
                    rw [List.length_take] at h1
                    omega
                  rw [List.getElem?_take_of_lt hj2] at hj
                  have h3 := (HCU.out.alloc (.cells #[.int .u64 5] 42)).cell j
                  rw [h3]
                  simpa using hj
                case c1 =>
                  have hbn := Blk.new wr 42 #[.int .u64 5]
                  intro j u hj
                  match j, hj with
                  | 0, hj => simp at hj; subst hj; exact hbn.cell 0
                case c2 =>
                  intro u hu
                  simp only [List.mem_cons, List.not_mem_nil, or_false] at hu
                  subst hu; rfl
                case c3 => omega
                case c4 => have := HMB.out; unfold maxLen; omega
                case c5 => have := HMB.out; omega
                intro v9 w9 hown9 hgrow9
                obtain ⟨q9, G9, rfl, -, -, -⟩ := own_form hown9 (by omega)
                have hx9 := ((Ex.refl (fun _ => False) wr).alloc (.cells #[.int .u64 5] 42)).trans ((Ex.of_grown hgrow9).mono (fun k hk => by cases hk))
                clear hown9 hgrow9
                have ee : Ex (fun _ => False) wr w9 := hx9
                have K_5 := Lib.hid (K0.out.ex ee (fun h => h) (fun h => h))
                have S_5 := Lib.hid (S0.out.ex ee (fun h => h))
                have O_5 := Lib.hid (O0.out.ex ee (fun h => h) (fun h => h) (fun h => h) (fun h => h))
                have Q_5 := Lib.hid (Q0.out.ex ee (fun h => h))
                have L_5 := Lib.hid (Ex.below L0.out ee (fun k hk => hk.elim))
                clear ee K0 S0 O0 Q0 L0 hx9 HCU HCS
                go_wp2_with fail
                refine (XGot_done o rs cs rg rw NN MM (laidS l) x1 w9 O_5.out HX1.out.1 ⟨by have := HMB.out; omega, by have := HMB.out; omega⟩ ⟨HN5.out.1, by have := HN5.out; omega⟩).mono ?_; rintro e w10 ⟨q8, G8, rfl, q0, hi1, hi2, hG8, hown8, hl⟩
                have g0 := ints_cell hi2 (i := 0) (by rw [HX1.out.2.1, gOf_len]; have := HN5.out; omega)
                have v0 := ints_cell hi1 (i := 0) (by rw [HX1.out.2.2, vOf_len]; have := HMB.out; omega)
                rw [HX1.out.2.1, gen_first TOK.out HLEN.out HPI.out] at g0
                rw [HX1.out.2.2, word_first TOK.out HLEN.out HM.out HMB.out.1 HPI.out] at v0
                simp only [Nat.add_zero] at g0 v0
                have G0 := Lib.hid g0
                have V0 := Lib.hid v0
                clear q0 hi1 hi2 hown8 hG8 g0 v0
                have ee : Ex (fun _ => False) w9 w10 := Ex.of_below hl
                have K_6 := Lib.hid (K_5.out.ex ee (fun h => h) (fun h => h))
                have S_6 := Lib.hid (S_5.out.ex ee (fun h => h))
                have O_6 := Lib.hid (O_5.out.ex ee (fun h => h) (fun h => h) (fun h => h) (fun h => h))
                have Q_6 := Lib.hid (Q_5.out.ex ee (fun h => h))
                have L_6 := Lib.hid (Ex.below L_5.out ee (fun k hk => hk.elim))
                clear ee K_5 S_5 O_5 Q_5 L_5 hl
                go_wp2_with fail
                refine (Touches_any g h ws t9 w10 K_6.out).mono ?_; rintro e w11 ⟨rfl, rfl⟩
                have g0 := G0.out
                have v0 := V0.out
                have kz0 : (0 : Int) < (NN : Int) := by have := HN5.out; omega
                have kz1 : (0 : Int) < (MM : Int) := by have := HMB.out; omega
                have tc := (L_6.out.cell (p := ⟨tb, tob + 0 * 2, none⟩) HTB.out).trans (HTC.out 0 (by have := HN5.out; omega)).1
                have tc2 := tc
                simp only [Nat.zero_mul, Nat.add_zero] at tc2
                have klw : decide ((MM : Int) < (l 0).words) = false := decide_eq_false (by have := HMB.out; omega)
                have knn : ((NN : Int) != (NN : Int)) = false := by simp
                have kmm : (((MM + 1 : Nat) : Int) != (MM : Int) + 1) = false := by simp
                have ktt : (t9 != t9) = false := by simp
                go_wp2_with fail
                refine (SN_done o rs cs rg rw NN MM (laidS l) x1.tries x1.k x1.begun x1.steps x1.how x1.gl x1.wl _ w10 O_6.out (by rw [HX1.out.1]; decide)).mono ?_; rintro e w11 ⟨rfl, rfl⟩
                rw [HX1.out.1]
                go_wp2_with fail
                refine (Touches_any g h ws t9 w10 K_6.out).mono ?_; rintro e w11 ⟨rfl, rfl⟩
                go_wp2_with fail
                clear g0 v0 tc tc2 G0 V0 klw knn kmm ktt
                refine (SNew_in _ NN (seq0 (laidS l)) 1 w10 (S_6.out.sps (by have := HN5.out; unfold maxLen; omega)) (seq0_wrong TOK.out) MM (by rw [seq0_width]; exact HM.out)).mono ?_; rintro e w11 ⟨o2, rs2, cs2, rg2, rw2, rfl, ho2, q0, q1, q2, q3, hl⟩
                have hkl := K_6.out.head.lt
                have hkl2 := K_6.out.row.lt
                have ORD3 := Lib.hid (show h < g ∧ g < rs2 ∧ g < rg2 ∧ g < rw2 ∧ g < o2 ∧ w.heap.size ≤ h from by have := ORD.out; omega)
                clear q0 q1 q2 q3 hkl hkl2
                have ee : Ex (fun _ => False) w10 w11 := Ex.of_below hl
                have K_7 := Lib.hid (K_6.out.ex ee (fun h => h) (fun h => h))
                have L_7 := Lib.hid (Ex.below L_6.out ee (fun k hk => hk.elim))
                have P_7 := Lib.hid ((show SnAt w11 o2 rs2 cs2 rg2 rw2 NN MM (seq0 (laidS l)) _ _ _ _ _ _ _ from ho2))
                clear ee K_6 L_6 hl ho2
                go_wp2_with fail
                have hinv := (SOk.zero (T := 1) (seq0_wrong TOK.out) (show widthF (seq0 (laidS l)) NN = (MM : Int) by rw [seq0_width]; exact HM.out)).inv rfl
                refine (SN_nobank g h o2 rs2 cs2 rg2 rw2 NN MM ws t9 (seq0 (laidS l)) 1 0 0 0 (zeros NN) (zeros MM) 0 w11 K_7.out P_7.out hinv.1 (by have := ORD3.out; omega) (by have := HN5.out; omega) rfl).mono ?_; rintro e w12 ⟨rfl, hk12, ho12, hx12⟩
                have hx13 : Ex (fun k => k = g ∨ k = h ∨ k = o2 ∨ k = rg2 ∨ k = rw2) w11 w12 := hx12
                have L9 := Lib.hid (Ex.below L_7.out hx13 (fun k hk => by have o_ := ORD3.out; have hk : k = g ∨ k = h ∨ k = o2 ∨ k = rg2 ∨ k = rw2 := hk; omega))
                have P9 := Lib.hid ho12
                clear hx12 hx13 hk12 ho12 hinv
                go_wp2_with fail
                refine (SN_done o2 rs2 cs2 rg2 rw2 NN MM (seq0 (laidS l)) _ _ _ _ _ _ _ _ w12 P9.out (by decide)).mono ?_; rintro e w13 ⟨rfl, rfl⟩
                go_wp2_with fail
                refine (SnSteps_any o2 rs2 cs2 rg2 rw2 NN MM (seq0 (laidS l)) _ _ _ _ _ _ _ w12 P9.out).mono ?_; rintro e w13 ⟨rfl, rfl⟩
                go_wp2_with fail
                refine (awake_any _).mono ?_; rintro e w14 ⟨rfl, hb14⟩
                have L10 := Lib.hid (bl L9.out hb14)
                clear hb14
                go_wp2_with fail
                go_ret
                exact ⟨rfl, L10.out⟩
end Go.Proofs.Ytjdalllfnlpmnaa.Bank
