/-
  SnapTwo, walked. Printed by wip/tools/mksntw.py. No condition. By an AI agent.
-/
import Derived.Test.YtjdalllfnlpmnaaSnZb
import Derived.Deep.CutRange
namespace Go.Proofs.Ytjdalllfnlpmnaa.Bank
set_option linter.unusedVariables false
set_option linter.unusedSimpArgs false
open Go Go.RowKit Go.Proofs.Ytjdalllfnlpmnaa.Base

def doneOf (w : World) (o : Nat) : Nat := match w.cell? ⟨o, 2, none⟩ with | some v => (intOf v).toNat | none => 0
theorem doneOf_at {w : World} {o rs cs rg rw n m : Nat} {l : Nat → Spot} {T s0 b0 : Int} {G G0 V V0 : List Int} {i : Nat} (h : SnX w o rs cs rg rw n m l (xM n m T s0 b0 G G0 V V0 i)) : doneOf w o = i := by
  have h1 : w.cell? ⟨o, 2, none⟩ = some (.int .i64 (i : Int)) := h.box.cell 2
  unfold doneOf
  rw [h1]
  rfl
theorem was_step {lam : Nat → Nat} {B n g hh o k : Nat} (hg : g < B) (h1 : hh < B) (ho : lam o = k) (hk : k ≠ n) {b : Nat} (hb : b = g ∨ b = hh ∨ b = o) : b < B ∨ lam b ≠ n := by
  rcases hb with e | e | e
  · exact .inl (by omega)
  · exact .inl (by omega)
  · exact .inr (by rw [e, ho]; exact hk)
theorem up_le {cnt : Nat → Nat} {k i : Nat} (h : ∀ j, cnt j ≤ i) (j : Nat) : upC cnt k (cnt k + 1) j ≤ i + 1 := by
  unfold upC
  split
  · have := h k; omega
  · have := h j; omega
theorem up_ge (cnt : Nat → Nat) (k j : Nat) : (cnt j : Int) ≤ (upC cnt k (cnt k + 1) j : Int) := by
  unfold upC
  split
  · rename_i e; subst e; omega
  · exact Int.le_refl _
theorem alone_inv {l : Nat → Tp} {k cnt : Nat} {P : Prop} (hg : (laidS l k).Right ∧ (laidS l k).words = (mT l k : Int) ∧ P) (hc : cnt ≤ 1000) (x : Int) {i : Nat} (hi : i ≤ mT l k + 3) : WInv (laidS l k) (recL (mT l k) x) 1 (aloneX (mT l k) cnt i) := by
  have hm : mayF (laidS l k) 1 = true := by unfold mayF; exact decide_eq_true ⟨hg.1, by omega, by omega⟩
  have hw : (laidS l k).words = (mT l k : Int) := hg.2.1
  have hr := hg.1.1
  have key : ∀ X : WS, (X.next = 0 ∨ X.next = 1 ∨ X.next = 2 ∨ X.next = 3) → (X.how = 0 ∨ X.how = 1 ∨ X.how = 2 ∨ X.how = 3) → (0 ≤ X.had ∧ (X.how = 0 → X.had < 1)) → (0 ≤ X.sq ∧ X.sq ≤ 18446744073709551615) → (0 ≤ X.n ∧ (X.how = 0 → X.next = 2 → X.n < (laidS l k).words)) → (X.how = 0 → X.next < 2 → X.n = 0) →
      (0 ≤ X.steps ∧ (X.how = 0 → X.next < 2 → X.steps ≤ 2 * X.had + X.next) ∧ (X.how = 0 → X.next = 2 → X.steps ≤ 2 * X.had + 2 + X.n) ∧ (X.how = 0 → X.next = 3 → X.steps ≤ 2 * X.had + 2 + (laidS l k).words) ∧ X.steps ≤ 2 * 1 + (laidS l k).words + 1) → WInv (laidS l k) (recL (mT l k) x) 1 X :=
    fun X a b c d e f g => ⟨hg.1, by omega, by rw [recL_len]; exact hw.symm, a, b, c, d, e, f, g, recL_fit _ _⟩
  by_cases h0 : i = 0
  · subst h0; exact WInv.zero_ hm (by rw [recL_len]; exact hw.symm) (recL_fit _ _)
  by_cases h1 : i = 1
  · subst h1
    have e : aloneX (mT l k) cnt 1 = ⟨0, 1, 0, 1, 2 * cnt, 0⟩ := rfl
    rw [e]
    apply key <;> dsimp only <;> omega
  by_cases h2 : i ≤ mT l k + 1
  · have e : aloneX (mT l k) cnt i = ⟨0, 2, 0, i, 2 * cnt, (i : Int) - 2⟩ := by unfold aloneX; rw [if_neg h0, if_neg h1, if_pos h2]
    rw [e]
    apply key <;> dsimp only <;> omega
  by_cases h3 : i = mT l k + 2
  · have e : aloneX (mT l k) cnt i = ⟨0, 3, 0, i, 2 * cnt, (mT l k : Int)⟩ := by unfold aloneX; rw [if_neg h0, if_neg h1, if_neg h2, if_pos h3]
    rw [e]
    apply key <;> dsimp only <;> omega
  · have e : aloneX (mT l k) cnt i = ⟨1, 3, 0, (mT l k : Int) + 3, 2 * cnt, (mT l k : Int)⟩ := by unfold aloneX; rw [if_neg h0, if_neg h1, if_neg h2, if_neg h3]
    rw [e]
    apply key <;> dsimp only <;> omega
set_option maxRecDepth 100000 in
set_option maxHeartbeats 30000000 in
theorem SnapTwo_walk (v : Value) (y : Nat × (Nat → Tp)) (v2 : Value) (ps : List Int) (w : World) (h : Tps w v y.1 y.2) (ht : Ints w .i64 v2 ps) (hf : ∀ z ∈ ps, (Lit.int .i64 z).wf = true) : Calls Try.prog 4 #[v, v2] w fun e w' => e = .returned (.bool true) ∧ Below w.heap.size w w' := by
  obtain ⟨n, l⟩ := y
  simp only at h ⊢
  have HTP := Lib.hid h
  have HPF := Lib.hid hf
  obtain ⟨A0, c0, rfl, hn, hg⟩ := h.form
  obtain ⟨AP, cp, rfl, hpl, hpf⟩ := ht.form
  have HN := Lib.hid hn
  have HG := Lib.hid hg
  have HPL := Lib.hid hpl
  have HPX := Lib.hid hpf
  clear h ht hf hn hg hpl hpf
  obtain ⟨na, hna⟩ : ∃ na, ps.length = na := ⟨_, rfl⟩
  have HNA := Lib.hid hna
  simp only [hna]
  clear hna
  go_enter Try.func4, Try.ntmps4
  go_wp2_with fail
  refine (lay_any _ n l w HTP.out).mono ?_; rintro e w2 ⟨ho, hl⟩
  have L0 := Lib.hid hl
  clear hl
  rcases ho with ⟨hok, v1, p1, rfl, r, c, g, h, rfl, rfl, hown, hk, q0, q1, q2, q3⟩ | ⟨hok, rfl⟩
  case inr =>
    clear hok
    go_wp2_with fail
    refine (awake_any _).mono ?_; rintro e wz ⟨rfl, hb⟩
    have LZ := Lib.hid (bl L0.out hb)
    clear hb
    go_wp2_with fail
    go_ret
    exact ⟨rfl, LZ.out⟩
  by_cases hp2 : 200 < na
  · skip
    have kp : decide ((na : Int) > 200) = true := decide_eq_true (by omega)
    clear hok hown hk q0 q1 q2 q3
    go_wp2_with fail
    refine (awake_any _).mono ?_; rintro e wz ⟨rfl, hb⟩
    have LZ := Lib.hid (bl L0.out hb)
    clear hb
    go_wp2_with fail
    go_ret
    exact ⟨rfl, LZ.out⟩
  have kp : decide ((na : Int) > 200) = false := decide_eq_false (by omega)
  have HP2 := Lib.hid (show na ≤ 200 by omega)
  have TOK := Lib.hid hok
  have ORD := Lib.hid (show w.heap.size ≤ r ∧ r < h ∧ h < g from ⟨q0, q1, q2⟩)
  obtain ⟨N, hN⟩ : ∃ N : Nat, (N : Int) = offT l n := ⟨(offT l n).toNat, by have := (offT_bounds hok.2 n (Nat.le_refl _)).1; omega⟩
  have hk : BankAt w2 g h (zeros N) 0 := by rw [show (offT l n).toNat = N by omega] at hk; exact hk
  have HNN := Lib.hid hN
  obtain ⟨m, hm⟩ : ∃ m : Nat, widthF (laidS l) n = (m : Int) := ⟨(widthF (laidS l) n).toNat, by have := (widthF_bounds (wrongE_zero (laid_wrong hok (tries := 1) (by omega))).2.1 n (Nat.le_refl _)).1; omega⟩
  have HM := Lib.hid hm
  have HMB := Lib.hid (wide_bounds hok hm)
  have K0 := Lib.hid hk
  have S0 := Lib.hid (srow_of_own hown (by have := hok.1; omega))
  have HN5 := Lib.hid hok.1
  obtain ⟨tb, tob, rfl, htb, htc⟩ := HG.out (by have := hok.1; omega)
  have HTB := Lib.hid htb
  have HTC := Lib.hid htc
  clear hok q0 q1 q2 q3 hk hown hN hm HG htb htc hp2
  have hmk := make_ptrs n (by have := HN5.out; omega) w2
  go_upto_region 5 with fail
  clear hmk kp
  obtain ⟨ob, hob⟩ : ∃ ob, w2.heap.size = ob := ⟨_, rfl⟩
  have hgo : g < ob := hob ▸ K0.out.head.lt
  have hops : Blk (w2.alloc (.cells (ptrs n (fun _ => none)) 61)) w2.heap.size 61 (ptrs n (fun _ => none)) := Blk.new w2 61 _
  simp only [hob] at hops ⊢
  have ee : Ex (fun _ => False) w2 (w2.alloc (.cells (ptrs n (fun _ => none)) 61)) := (Ex.refl _ w2).alloc _
  have K_1 := Lib.hid (K0.out.ex ee (fun h => h) (fun h => h))
  have S_1 := Lib.hid (S0.out.ex ee (fun h => h))
  have L_1 := Lib.hid (Ex.below L0.out ee (fun k hk => hk.elim))
  have P_1 := Lib.hid (hops)
  clear ee K0 S0 L0 hops
  obtain ⟨B, hB⟩ : ∃ B, (w2.alloc (.cells (ptrs n (fun _ => none)) 61)).heap.size = B := ⟨_, rfl⟩
  have hBo : ob < B := by rw [← hB, ← hob]; simp
  generalize (w2.alloc (.cells (ptrs n (fun _ => none)) 61)) = w3 at *
  have ORD2 := Lib.hid (show w.heap.size ≤ r ∧ r < h ∧ h < g ∧ g < ob ∧ ob < B by have := ORD.out; omega)
  clear ORD hgo hBo hob
  have ORD := Lib.hid ORD2.out
  clear ORD2
  have HB0 := Lib.hid (show B ≤ w3.heap.size from Nat.le_of_eq hB.symm)
  clear hB
  have OPS0 := Lib.hid (show OpsAt w3 ob n B l (fun _ => 0) (fun _ => none) (fun _ => 0) from ⟨P_1.out, fun k _ s hs => by cases hs⟩)
  go_wp2_with fail
  obtain ⟨wk, rfl⟩ : ∃ wk : World, wk = w3 := ⟨_, rfl⟩
  go_loopw [9, 10, 11, 12, 13, 14, 15, 16, 17, 18] (fun s9 s10 s11 s12 s13 s14 s15 s16 s17 s18 wr => ∃ (i : Nat) (t : Int) (ws : List Int) (cnt : Nat → Nat) (st : Nat → Option W1) (lam : Nat → Nat) (Lw : List Int), i ≤ na ∧ s10 = .int .i64 i ∧ BInv l n N ws cnt st ∧ (∀ j, cnt j ≤ i) ∧ OpsAt wr ob n B l cnt st lam ∧ BankAt wr g h ws t ∧ SRow wr r n (laidS l) ∧ WasAt wr B n lam s9 Lw ∧ (∀ j, j < Lw.length → nth Lw j ≤ (cnt j : Int)) ∧ B ≤ wr.heap.size ∧ Below w.heap.size w wr) (fun s9 s10 s11 s12 s13 s14 s15 s16 s17 s18 _ => na + 1 - (intOf s10).toNat)
  case atStart => exact ⟨0, 0, zeros N, _, _, _, [], by omega, rfl, BInv.zero, fun _ => Nat.le_refl _, OPS0.out, K_1.out, S_1.out, WasAt.nil _ _ _ _, fun j hj => absurd hj (by simp), HB0.out, L_1.out⟩
  case round =>
    clear K_1 S_1 P_1 L_1 OPS0 HB0
    obtain ⟨i, t, ws, cnt, st, lam, Lw, hi, rfl, hbi, hcn, hops, hbk, hsr, hwas, hle, hz, hl⟩ := hrel
    have K0 := Lib.hid hbk
    have S0 := Lib.hid hsr
    have L0 := Lib.hid hl
    have P0 := Lib.hid hops
    have V0 := Lib.hid hwas
    have Z0 := Lib.hid hz
    have HBI := Lib.hid hbi
    have HCN := Lib.hid hcn
    have HLE := Lib.hid hle
    have HI := Lib.hid hi
    clear hbk hsr hl hops hwas hz hbi hcn hle hi
    have kd : decide ((i : Int) ≤ (na : Int)) = true := decide_eq_true (by have := HI.out; omega)
    have kdn : decide (i ≤ na) = true := decide_eq_true HI.out
    have kdm : i ≤ na := HI.out
    have ki5 : (i : Int) ≤ 200 := by have := HI.out; have := HP2.out; omega
    have kit : (i : Int).tmod 10 = (i : Int) % 10 := Int.tmod_eq_emod_of_nonneg (by omega)
    have kim : wrap64 ((i : Int) % 10) = (i : Int) % 10 := wrap64_in _ (by omega)
    have HLEN := Lib.hid (show (ws.length : Int) = offT l n by rw [HBI.out.1]; exact HNN.out)
    have HWF := Lib.hid (wordF_range K0.out)
    have HGO := Lib.hid (HBI.out.gen.gOf TOK.out HNN.out)
    obtain ⟨wq, rfl⟩ : ∃ W : World, W = wr := ⟨_, rfl⟩
    obtain ⟨cb, hcb⟩ : ∃ cb, ((i : Int) % 10 == 0) = cb := ⟨_, rfl⟩
    have HCB := Lib.hid hcb
    go_upto_if 44 with fail
    clear kit kim
    go_cut [9, 11, 12, 13, 14, 15] from 44 to 93 (fun s9 s11 s12 s13 s14 s15 wx => ∃ (t' : Int) (lam' : Nat → Nat) (Lw' : List Int), OpsAt wx ob n B l cnt st lam' ∧ BankAt wx g h ws t' ∧ WasAt wx B n lam' s9 Lw' ∧ (∀ j, j < Lw'.length → nth Lw' j ≤ (cnt j : Int)) ∧ Ex (fun b => b = g ∨ b = h) wq wx)
    case first =>
      cases cb with
      | false =>
        go_wp2_with fail
        go_meet
        exact ⟨t, lam, Lw, P0.out, K0.out, V0.out, HLE.out, Ex.refl _ _⟩
      | true =>
        go_wp2_with fail
        refine (SNew_in _ n (laidS l) 1 wq (S0.out.sps (by have := HN5.out; unfold maxLen; omega)) (laid_wrong TOK.out (by omega)) m HM.out).mono ?_; rintro e w4 ⟨o, rs, cs, rg, rw, rfl, ho, q0, q1, q2, q3, hl⟩
        have OQ := Lib.hid (show g < wq.heap.size ∧ h < wq.heap.size ∧ wq.heap.size ≤ rs ∧ wq.heap.size ≤ rg ∧ wq.heap.size ≤ rw ∧ wq.heap.size ≤ o from ⟨K0.out.head.lt, K0.out.row.lt, q0, q1, q2, q3⟩)
        have K1 := Lib.hid (K0.out.below hl)
        have X1 := Lib.hid (show Ex (fun b => b = g ∨ b = h) wq w4 from Ex.of_below hl)
        have O1 := Lib.hid (show SnX w4 o rs cs rg rw n m (laidS l) (xM n m 1 0 0 (gOf (laidS l) n ws) (zeros n) (vOf (laidS l) n m (gOf (laidS l) n ws) ws) (zeros m) 0) from by rw [xM_zero _ _ _ HN5.out.1]; exact ho)
        clear q0 q1 q2 q3 ho hl
        go_wp2_with fail
        obtain ⟨wk2, rfl⟩ : ∃ wk2 : World, wk2 = w4 := ⟨_, rfl⟩
        go_loopw [] (fun wr => ∃ (i2 : Nat) (t2 : Int), i2 < 2 * n + m ∧ BankAt wr g h ws t2 ∧ SnX wr o rs cs rg rw n m (laidS l) (xM n m 1 0 0 (gOf (laidS l) n ws) (zeros n) (vOf (laidS l) n m (gOf (laidS l) n ws) ws) (zeros m) i2) ∧ Ex (fun b => b = g ∨ b = h) wq wr) (fun wr => 2 * n + m - doneOf wr o)
        case atStart => exact ⟨0, t, by have := HN5.out; omega, K1.out, O1.out, X1.out⟩
        case round =>
          clear K1 O1 X1
          obtain ⟨i2, t2, hi2, hbk, ho, hx⟩ := hrel
          have K1 := Lib.hid hbk
          have O1 := Lib.hid ho
          have X1 := Lib.hid hx
          have HI2 := Lib.hid hi2
          have HD1 := Lib.hid (show doneOf wr o = i2 from doneOf_at ho)
          clear hbk ho hx hi2
          have ki6 : (i2 : Int) ≤ 40 := by have := HI2.out; have := HN5.out; have := HMB.out; omega
          have HS := Lib.hid (al_step (i := i2) TOK.out HM.out HLEN.out (T := 1) (s0 := 0) (b0 := 0) (G0 := zeros n) (V0 := zeros m) HI2.out t2)
          have HOK := Lib.hid (xM_ok TOK.out HM.out (ws := ws) HWF.out (i := i2) (by have := HI2.out; omega))
          go_wp2_with fail
          refine (SStep_any g h o rs cs rg rw n m ws t2 (laidS l) _ wr K1.out O1.out HOK.out.inv (by have := OQ.out; omega)).mono ?_; rintro e w5 ⟨rfl, hk5, ho5, hx5⟩
          rw [HS.out.1] at ho5 ⊢
          have K2 := Lib.hid hk5
          have O2 := Lib.hid ho5
          have hx7 : Ex (fun b => (b = g ∨ b = h) ∨ (b = g ∨ b = h ∨ b = o ∨ b = rg ∨ b = rw)) wq w5 := (X1.out.mono (fun b hb => .inl hb)).trans (hx5.mono (fun b hb => .inr hb))
          have X2 := Lib.hid (show Ex (fun b => b = g ∨ b = h) wq w5 from hx7.mono' (fun b hb1 hb2 => by have := OQ.out; have hb2 : (b = g ∨ b = h) ∨ (b = g ∨ b = h ∨ b = o ∨ b = rg ∨ b = rw) := hb2; show b = g ∨ b = h; omega))
          clear HS HOK K1 O1 X1 hk5 ho5 hx5 hx7
          have hhow : ((xM n m 1 0 0 (gOf (laidS l) n ws) (zeros n) (vOf (laidS l) n m (gOf (laidS l) n ws) ws) (zeros m) (i2 + 1))).how = if i2 + 1 = 2 * n + m then 1 else 0 := rfl
          have hste : ((xM n m 1 0 0 (gOf (laidS l) n ws) (zeros n) (vOf (laidS l) n m (gOf (laidS l) n ws) ws) (zeros m) (i2 + 1))).steps = (i2 : Int) + 1 := by show (0 : Int) + ((i2 + 1 : Nat) : Int) = _; push_cast; omega
          by_cases hlast : i2 + 1 = 2 * n + m
          case neg =>
            rw [if_neg hlast] at hhow
            rw [hhow]
            have HHOW := Lib.hid hhow
            have HSTE := Lib.hid hste
            have HD2 := Lib.hid (show doneOf w5 o = i2 + 1 from doneOf_at O2.out)
            clear hhow hste
            have ks1 : decide ((i2 : Int) + 1 < 100) = true := decide_eq_true (by omega)
            have ks2 : decide ((i2 : Int) + 1 < 1) = false := decide_eq_false (by omega)
            go_wp2_with fail
            refine (XSteps_any o rs cs rg rw n m (laidS l) (xM n m 1 0 0 (gOf (laidS l) n ws) (zeros n) (vOf (laidS l) n m (gOf (laidS l) n ws) ws) (zeros m) (i2 + 1)) w5 O2.out).mono ?_; rintro e w6 ⟨rfl, rfl⟩
            rw [HSTE.out]
            go_wp2_with fail
            refine (XSteps_any o rs cs rg rw n m (laidS l) (xM n m 1 0 0 (gOf (laidS l) n ws) (zeros n) (vOf (laidS l) n m (gOf (laidS l) n ws) ws) (zeros m) (i2 + 1)) w5 O2.out).mono ?_; rintro e w6 ⟨rfl, rfl⟩
            rw [HSTE.out]
            go_wp2_with fail
            go_roundw
            case rel => exact ⟨i2 + 1, _, by have := HI2.out; omega, K2.out, O2.out, X2.out⟩
            case measure => rw [HD1.out, HD2.out]; have := HI2.out; omega
          rw [if_pos hlast] at hhow
          rw [hhow]
          have HX1 := Lib.hid (xM_end (k := n) (m := m) (ws := ws) (l := laidS l) hlast)
          clear hhow hlast hste
          generalize (xM n m 1 0 0 (gOf (laidS l) n ws) (zeros n) (vOf (laidS l) n m (gOf (laidS l) n ws) ws) (zeros m) (i2 + 1)) = x1 at *
          go_wp2_with fail
          refine (XGot_done o rs cs rg rw n m (laidS l) x1 w5 O2.out HX1.out.1 ⟨by have := HMB.out; omega, by have := HMB.out; omega⟩ ⟨HN5.out.1, by have := HN5.out; omega⟩).mono ?_; rintro e w6 ⟨q, G, rfl, q0, hi1, hg2, hG, hown, hl⟩
          have hq6 : q < w6.heap.size := (World.ownsRow.lt hown q rfl).2
          rw [HX1.out.2.1, HGO.out] at hg2
          have HG2 := Lib.hid hg2
          have HQ := Lib.hid (show wq.heap.size ≤ q ∧ q < w6.heap.size from ⟨Nat.le_trans X2.out.size q0, hq6⟩)
          have X3 := Lib.hid ((X2.out.trans (Ex.of_below (T := fun b => b = g ∨ b = h) hl)) : Ex (fun b => b = g ∨ b = h) wq w6)
          have K3 := Lib.hid (K2.out.below hl)
          clear q0 hi1 hg2 hG hown hl hq6 K2 O2 X2
          have V1 := Lib.hid (V0.out.ex X3.out (fun b hb => .inl (by have := ORD.out; have hb : b = g ∨ b = h := hb; omega)))
          obtain ⟨WA, wc0, hve, hll, hvc⟩ := V1.out
          subst hve
          have HVC := Lib.hid hvc
          have HLL := Lib.hid hll
          clear hvc hll V1
          obtain ⟨nL, hnL⟩ : ∃ nL, Lw.length = nL := ⟨_, rfl⟩
          simp only [hnL] at HVC HLL HLE ⊢
          have HNL := Lib.hid hnL
          clear hnL
          have knn : ((n : Int) != (n : Int)) = false := by simp
          go_wp2_with fail
          obtain ⟨wk3, rfl⟩ : ∃ wk3 : World, wk3 = w6 := ⟨_, rfl⟩
          go_loopw [15] (fun s15 wr => ∃ (a : Nat), a ≤ nL ∧ s15 = .int .i64 a ∧ Below wk3.heap.size wk3 wr) (fun s15 _ => nL - (intOf s15).toNat)
          case atStart => exact ⟨0, by omega, rfl, Below.refl _ _⟩
          case round =>
            obtain ⟨a, ha, rfl, hb⟩ := hrel
            have Q0 := Lib.hid hb
            clear hb
            by_cases hlt : a < nL
            · have kd3 : decide ((a : Int) < (nL : Int)) = true := decide_eq_true (by omega)
              have ka0 : (0 : Int) ≤ (a : Int) := by omega
              have ka1 : (a : Int) < (nL : Int) := by omega
              have han : a < n := by have := HLL.out; omega
              have ka2 : (a : Int) < (n : Int) := by omega
              have ka5 : (a : Int) ≤ 10 := by have := HN5.out; omega
              have HA := Lib.hid (show a < nL ∧ a < n from ⟨hlt, han⟩)
              obtain ⟨qb, off, e1, -, h2, -, h4⟩ := HVC.out a hlt
              subst e1
              have hle := HLE.out a hlt
              have gcell := ints_cell HG2.out (i := a) (by rw [ofF_len]; exact han)
              rw [ofF_nth _ _ han] at gcell
              obtain ⟨wasv, hwv⟩ : ∃ z, nth Lw a = z := ⟨_, rfl⟩
              rw [hwv] at h4 hle
              have kle : decide (((cnt a : Nat) : Int) < wasv) = false := decide_eq_false (by omega)
              have H2 := Lib.hid h2
              have H4 := Lib.hid h4
              have GC := Lib.hid gcell
              clear ha hlt han h2 h4 hwv hle gcell
              go_upto_region 22 with fail
              have hne : Nonempty (Held (fun W => W = wr.drew)) := ⟨⟨_, rfl⟩⟩
              have pg : ∀ y : Held (fun W => W = wr.drew), y.w.cell? ⟨q, m + a, none⟩ = some (.int .u64 ((cnt a : Nat) : Int)) := fun y => by rw [y.ok]; exact (Q0.out.drew.cell (p := ⟨q, m + a, none⟩) HQ.out.2).trans GC.out
              have pw : ∀ y : Held (fun W => W = wr.drew), y.w.cell? ⟨qb, off + a, none⟩ = some (.int .u64 wasv) := fun y => by rw [y.ok]; exact (Q0.out.drew.cell (p := ⟨qb, off + a, none⟩) H2.out).trans H4.out
              refine drawn_bars (S := fun _ => True) [] [0, 1, 2, 3, 4, 5, 6, 7, 8] (by kernel_rfl) (by kernel_rfl) (by kernel_rfl) rfl trivial ?_
              refine Phased.end_ ?_
              simp only [pick, List.map_cons, List.map_nil, List.getElem?_cons_zero, List.getElem?_cons_succ, Option.getD_some]
              repeat (go_big_quiet_step (fail))
              refine wpQuiet_nil ?_
              clear hne pg pw
              have Q1 := Lib.hid (Q0.out.drew)
              go_wp2_with fail
              go_roundw
              case rel => exact ⟨a + 1, by have := HA.out; omega, by go_num, Q1.out⟩
              case measure => have := HA.out; simp [intOf]; omega
            · obtain rfl : a = nL := by omega
              have kd3 : decide ((a : Int) < (a : Int)) = false := decide_eq_false (by omega)
              go_wp2_with fail
              go_meet
              have hx6 := X3.out.trans (Ex.of_below (T := fun b => b = g ∨ b = h) Q0.out)
              have hpo := P0.out.ex hx6 (by have := ORD.out; omega) (fun b hb => by have := ORD.out; have hb : b = g ∨ b = h := hb; omega)
              have hlam : ∀ b, b < wq.heap.size → (fun b => if b < wq.heap.size then lam b else n) b = lam b := fun b hb => if_pos hb
              refine ⟨_, fun b => if b < wq.heap.size then lam b else n, ofF n (fun j => (cnt j : Int)), (P0.out.lam_ hlam).ex hx6 (by have := ORD.out; omega) (fun b hb => by have := ORD.out; have hb : b = g ∨ b = h := hb; omega), K3.out.below Q0.out, ⟨some ⟨q, m, none⟩, G - m, by rw [ofF_len], .inr (ofF_len _ _), fun j hj => ⟨q, m, rfl, by have := HQ.out; have := Z0.out; omega, Nat.lt_of_lt_of_le HQ.out.2 Q0.out.size, if_neg (by have := HQ.out; omega), (Q0.out.cell (p := ⟨q, m + j, none⟩) HQ.out.2).trans (ints_cell HG2.out hj)⟩⟩, fun j hj => ?_, hx6⟩
              rw [ofF_len] at hj
              rw [ofF_nth _ _ hj]
              exact Int.le_refl _
    case rest =>
      obtain ⟨t1, lam1, Lw1, hops, hbk, hwas, hle, hx⟩ := hcut
      have S1 := Lib.hid (S0.out.ex hx (by have := ORD.out; omega))
      have L1 := Lib.hid (Ex.below L0.out hx (fun b hb => by have := ORD.out; have hb : b = g ∨ b = h := hb; omega))
      have Z1 := Lib.hid (Nat.le_trans Z0.out hx.size)
      have P1 := Lib.hid hops
      have K1 := Lib.hid hbk
      have V1 := Lib.hid hwas
      have HLE1 := Lib.hid hle
      clear hops hbk hwas hle hx S0 L0 Z0 P0 K0 V0 HLE HLEN HWF HGO HCB hcb kd kdn kdm
      by_cases hend : i = na
      case pos =>
        have kn : ((i : Int) == (na : Int)) = true := beq_iff_eq.2 (by omega)
        go_wp2_with fail
        refine (awake_any _).mono ?_; rintro e wz ⟨rfl, hb⟩
        have LZ := Lib.hid (bl L1.out hb)
        clear hb
        go_wp2_with fail
        go_ret
        exact ⟨rfl, LZ.out⟩
      have kn : ((i : Int) == (na : Int)) = false := beq_eq_false_iff_ne.2 (by omega)
      have HIN := Lib.hid (show i < na by have := HI.out; omega)
      clear hend
      obtain ⟨b2, o2, rfl, hb2, hx2⟩ := HPX.out (by intro e; have h1 := HNA.out; have h2 := HIN.out; rw [e] at h1; simp at h1; omega)
      have hx3 := (L1.out.cell (p := ⟨b2, o2 + i, none⟩) hb2).trans (hx2 i (by rw [HNA.out]; exact HIN.out))
      have ki0 : (0 : Int) ≤ (i : Int) := by omega
      have ki1 : (i : Int) < (na : Int) := by have := HIN.out; omega
      obtain ⟨p, hp⟩ : ∃ p, nth ps i = p := ⟨_, rfl⟩
      rw [hp] at hx3
      have HPK := Lib.hid (pickN_spec p HN5.out.1 HN5.out.2)
      have kp1 : wrap64 (p.tmod n) = p.tmod n := wrap64_in _ (by have := HPK.out; omega)
      have kp2 : wrap64 (p.tmod n + n) = p.tmod n + n := wrap64_in _ (by have := HPK.out; have := HN5.out; omega)
      obtain ⟨k, hkk⟩ : ∃ k, pickN p n = k := ⟨_, rfl⟩
      have kp3 : (p.tmod n + n).tmod n = (k : Int) := by rw [HPK.out.2.1, hkk]
      have HK := Lib.hid (show k < n by rw [← hkk]; exact HPK.out.1)
      have knz : ((n : Int) == 0) = false := beq_eq_false_iff_ne.2 (by have := HN5.out; omega)
      clear hb2 hx2 hp hkk HPK
      have kk0 : (0 : Int) ≤ (k : Int) := by omega
      have kk1 : (k : Int) < (n : Int) := by have := HK.out; omega
      have kk5 : (k : Int) ≤ 5 := by have := HN5.out; omega
      have pc := P1.out.cell HK.out
      have HGE := Lib.hid (geo TOK.out HNN.out HK.out (cnt k))
      cases hst : st k with
      | some s =>
        have HST := Lib.hid hst
        rw [hst] at pc
        simp only [ptrV, Option.map_some] at pc
        clear hst
        have PX := Lib.hid P1.out
        have KX := Lib.hid K1.out
        have SX0 := Lib.hid S1.out
        have LX := Lib.hid L1.out
        have VX := Lib.hid V1.out
        have ZX := Lib.hid Z1.out
        have HBX := Lib.hid HBI.out
        clear P1 K1 S1 L1 V1 Z1 HBI
        go_upto_region 32 with fail
        clear hx3 kp1 kp2 kp3 knz kn
        obtain ⟨hoa, hsi, hbo, hbr, hlo, hlr⟩ := PX.out.ops k HK.out s HST.out
        have HOA := Lib.hid hoa
        have HSI := Lib.hid (show s.i < mT l k + 3 ∧ B ≤ s.o ∧ B ≤ s.r from ⟨hsi, hbo, hbr⟩)
        clear hoa hsi hbo hbr hlo hlr
        have HWI := Lib.hid (alone_inv (cnt := cnt k) HGE.out (by have := HCN.out k; have := HI.out; have := HP2.out; omega) s.x (i := s.i) (by have := HSI.out; omega))
        have hqk : nth ws (qT l k) = if s.i ≤ 1 then 2 * (cnt k : Int) else 2 * (cnt k : Int) + 1 := by
          have h9 := HBX.out.2 k HK.out
          rw [HST.out] at h9
          simp only at h9
          rw [h9]
          by_cases e : s.i ≤ 1
          · rw [if_pos e, if_neg (by omega)]; omega
          · rw [if_neg e, if_pos (by omega)]
        have hws := w_step (s := laidS l k) (rec := recL (mT l k) s.x) (k := cnt k) (p := pG l k (cnt k)) (ws := ws) (q := qT l k) (t := t1) (by rw [recL_len]; have := HGE.out; omega) HGE.out.2.2.1 (by rw [HBX.out.1]; exact HGE.out.2.2.2.1) (by have := HCN.out k; have := HI.out; have := HP2.out; omega) HGE.out.2.2.2.2.1 (by rw [recL_len, HBX.out.1]; exact HGE.out.2.2.2.2.2.1) (i := s.i) (by rw [recL_len]; exact HSI.out.1) hqk
        rw [recL_len] at hws
        have HWS := Lib.hid hws
        clear hws hqk
        have HHW := Lib.hid (aloneX_how (mT l k) (cnt k) (s.i + 1) (by have := HSI.out; omega))
        go_wp2_with fail
        refine (WStep_any g h s.o s.r s.cc ws t1 (laidS l k) (recL (mT l k) s.x) 1 (aloneX (mT l k) (cnt k) s.i) wc KX.out HOA.out HWI.out (by have := HSI.out; have := ORD.out; omega)).mono ?_; rintro e w6 ⟨rfl, hk6, ho6, hx6⟩
        rw [HWS.out] at hk6 ho6 ⊢
        rw [HHW.out]
        clear HWS HHW HWI HOA
        have HX6 := Lib.hid hx6
        have K6 := Lib.hid hk6
        have O6 := Lib.hid ho6
        have S6 := Lib.hid (SX0.out.ex hx6 (by have := ORD.out; have := HSI.out; omega))
        have L6 := Lib.hid (Ex.below LX.out hx6 (fun b hb => by have := ORD.out; have := HSI.out; have hb : b = g ∨ b = h ∨ b = s.o := hb; omega))
        have V6 := Lib.hid (VX.out.ex hx6 (fun b hb => was_step (by have := ORD.out; omega) (by have := ORD.out; omega) (PX.out.ops k HK.out s HST.out).2.2.2.2.1 (by have := HK.out; omega) hb))
        have Z6 := Lib.hid (Nat.le_trans ZX.out hx6.size)
        clear hk6 ho6 hx6 SX0 LX VX KX ZX pc
        by_cases hlast : s.i + 1 = mT l k + 3
        case neg =>
          rw [if_neg hlast]
          have hpo := PX.out.step ⟨by have := ORD.out; omega, by have := ORD.out; omega, by have := ORD.out; omega⟩ (by have := ORD.out; omega) HK.out HST.out HX6.out O6.out (by have := HSI.out; omega)
          have hbi := HBX.out.busy TOK.out HNN.out HK.out HST.out (by have := HSI.out; omega)
          have PO := Lib.hid hpo
          have BI := Lib.hid hbi
          clear hpo hbi hlast
          go_wp2_with fail
          exact ⟨⟨i + 1, _, _, _, _, _, _, by have := HIN.out; omega, by go_num, BI.out, fun j => by have := HCN.out j; omega, PO.out, K6.out, S6.out, V6.out, HLE1.out, Z6.out, L6.out⟩, by have := HIN.out; simp [intOf]; omega⟩
        rw [if_pos hlast]
        have hpo := PX.out.ended ⟨by have := ORD.out; omega, by have := ORD.out; omega, by have := ORD.out; omega⟩ (by have := ORD.out; omega) HK.out HST.out HX6.out (cnt k + 1)
        have hbi := HBX.out.last TOK.out HNN.out HK.out HST.out hlast
        have PO := Lib.hid hpo
        have BI := Lib.hid hbi
        clear hpo hbi hlast
        have pc6 : w6.cell? ⟨ob, k, none⟩ = some (ptrV (some s)) := HX6.out.cell (by have h9 := PX.out.cell HK.out; rw [HST.out] at h9; exact h9) (by have := ORD.out; have := HSI.out; omega)
        have pf6 : w6.frozen? ⟨ob, k, none⟩ = false := HX6.out.frozen (PX.out.row.frozen k) PX.out.row.lt (by have := ORD.out; have := HSI.out; omega)
        have ee : Ex (fun b => b = ob) w6 (w6.setCell ⟨ob, k, none⟩ (.pointer none)) := (Ex.refl (fun b => b = ob) w6).setCell (q := ⟨ob, k, none⟩) (.inl rfl) (.pointer none)
        have K7 := Lib.hid (K6.out.ex ee (by have := ORD.out; omega) (by have := ORD.out; omega))
        have S7 := Lib.hid (S6.out.ex ee (by have := ORD.out; omega))
        have V7 := Lib.hid (V6.out.ex ee (fun b hb => .inl (by have := ORD.out; have hb : b = ob := hb; omega)))
        have L7 := Lib.hid (Ex.below L6.out ee (fun b hb => by have := ORD.out; have hb : b = ob := hb; omega))
        have Z7 := Lib.hid (Nat.le_trans Z6.out ee.size)
        clear ee K6 S6 V6 L6 Z6
        simp only [ptrV, Option.map_some] at pc6
        go_wp2_with fail
        exact ⟨⟨i + 1, _, _, _, _, _, _, by have := HIN.out; omega, by go_num, BI.out, fun j => up_le HCN.out j, PO.out, K7.out, S7.out, V7.out, fun j hj => Int.le_trans (HLE1.out j hj) (up_ge cnt k j), Z7.out, L7.out⟩, by have := HIN.out; simp [intOf]; omega⟩
      | none =>
        have HSN := Lib.hid hst
        rw [hst] at pc
        simp only [ptrV, Option.map_none] at pc
        clear hst
        have kiw : IntKind.u64.wrap (i : Int) = (i : Int) := u64_wrap_in (by omega)
        have HNW := Lib.hid (fun r c W (h : IntsIn W .u64 r c (recL (mT l k) (i : Int))) => WNew_in (laidS l k) 1 r 0 (mT l k) c (recL (mT l k) (i : Int)) W (by unfold mayF; exact decide_eq_true ⟨HGE.out.1, by omega, by omega⟩) HGE.out.2.1.symm (recL_len _ _) h.lt (fun i hi => by rw [Nat.zero_add]; exact h.at_ i (by rw [recL_len]; exact hi)))
        unfold Spot.val at HNW
        go_upto_region 28 with fail
        clear hx3 kp1 kp2 kp3 knz kn
        have hne : Nonempty (Held (Below wc.heap.size wc)) := ⟨⟨wc, Below.refl _ _⟩⟩
        have s0 : ∀ y : Held (Below wc.heap.size wc), y.w.cell? ⟨r, k * 5, none⟩ = some (.int .i64 (laidS l k).owners) := fun y => (S1.out.bl y.ok).cell k HK.out 0 (by decide)
        have s1 : ∀ y : Held (Below wc.heap.size wc), y.w.cell? ⟨r, k * 5 + 1, none⟩ = some (.int .i64 (laidS l k).seq) := fun y => (S1.out.bl y.ok).cell k HK.out 1 (by decide)
        have s2 : ∀ y : Held (Below wc.heap.size wc), y.w.cell? ⟨r, k * 5 + 2, none⟩ = some (.int .i64 (laidS l k).first) := fun y => (S1.out.bl y.ok).cell k HK.out 2 (by decide)
        have s3 : ∀ y : Held (Below wc.heap.size wc), y.w.cell? ⟨r, k * 5 + 3, none⟩ = some (.int .i64 (laidS l k).words) := fun y => (S1.out.bl y.ok).cell k HK.out 3 (by decide)
        have s4 : ∀ y : Held (Below wc.heap.size wc), y.w.cell? ⟨r, k * 5 + 4, none⟩ = some (.int .i64 (laidS l k).depth) := fun y => (S1.out.bl y.ok).cell k HK.out 4 (by decide)
        have rt : ∀ y : Held (Below wc.heap.size wc), y.w.cell? ⟨tb, tob + k * 2, none⟩ = some (.int .i64 (mT l k : Int)) := fun y => by rw [← HGE.out.2.1]; exact ((bl L1.out y.ok).cell (p := ⟨tb, tob + k * 2, none⟩) HTB.out).trans (HTC.out k HK.out).1
        refine drawn_bars (S := (Below wc.heap.size wc)) [([0, 1, 2, 3, 4, 5, 6, 7, 8, 9, 10], 11), ([], 12)] [13, 14, 15, 16, 17] (by kernel_rfl) (by kernel_rfl) (by kernel_rfl) rfl (Below.refl _ _).drew ?_
        refine Phased.go ?_
        simp only [pick, List.map_cons, List.map_nil, List.getElem?_cons_zero, List.getElem?_cons_succ, Option.getD_some]
        repeat (go_big_quiet_step (fail))
        refine wpQuiet_nil ?_
        go_wp2_with fail
        refine (record_any (mT l k) (i : Int) wc.drew (by have := HGE.out; omega)).mono ?_; rintro e w4 ⟨rv, rfl, hown, hl1⟩
        obtain ⟨rr, rc, rfl, hrb, hri⟩ := rec_slice hown (by have := HGE.out; omega) (by have := HGE.out; omega)
        have hl2 := bl ((Below.refl wc.heap.size wc).drew) hl1
        clear hown
        go_wp2_with fail
        refine behind_normal ⟨(Below wc.heap.size wc), fun W h => h, hl2, ?_⟩
        refine Phased.go ?_
        simp only [pick, List.map_cons, List.map_nil, List.getElem?_cons_zero, List.getElem?_cons_succ, Option.getD_some]
        repeat (go_big_quiet_step (fail))
        refine wpQuiet_nil ?_
        go_wp2_with fail
        refine (HNW.out _ _ _ hri).mono ?_; rintro e w5 ⟨ow, rw0, cc, rfl, hwo, q1, q2, hl3⟩
        have hl4 := bl hl2 hl3
        go_wp2_with fail
        refine behind_normal ⟨(Below wc.heap.size wc), fun W h => h, hl4, ?_⟩
        refine Phased.end_ ?_
        have hne5 : Nonempty (Held (fun W => W = w5)) := ⟨⟨_, rfl⟩⟩
        simp only [pick, List.map_cons, List.map_nil, List.getElem?_cons_zero, List.getElem?_cons_succ, Option.getD_some]
        repeat (go_big_quiet_step (fail))
        refine wpQuiet_nil ?_
        clear hne5 HNW hne s0 s1 s2 s3 s4 rt
        have hq3 : wc.heap.size ≤ rw0 := Nat.le_trans hl2.size q1
        have P5 := P1.out.bl hl4
        have pc5 : w5.cell? ⟨ob, k, none⟩ = some (.pointer none) := (hl4.cell (p := ⟨ob, k, none⟩) P1.out.row.lt).trans pc
        have pf5 := P5.row.frozen k
        have hsm := P5.some_ (k := k) (s := ⟨ow, rw0, cc, (i : Int), 0⟩) (size := wc.heap.size) (by have := ORD.out; omega) HK.out hwo (by have := HGE.out; show 0 < _; omega) Z1.out (by show wc.heap.size ≤ ow; omega) hq3 (fun j hj _ a ha => P1.out.lt hj ha)
        have PX := Lib.hid hsm
        have HST := Lib.hid (upS_self st k (some ⟨ow, rw0, cc, (i : Int), 0⟩))
        have HBX := Lib.hid (HBI.out.fresh HK.out HSN.out (s := ⟨ow, rw0, cc, (i : Int), 0⟩) rfl)
        have hx8 : Ex (fun b => b = ob) wc (w5.setCell ⟨ob, k, none⟩ (.pointer (some ⟨ow, 0, none⟩))) := (Ex.of_below (T := fun b => b = ob) hl4).setCell (q := ⟨ob, k, none⟩) (.inl rfl) _
        have KX := Lib.hid (K1.out.ex hx8 (by have := ORD.out; omega) (by have := ORD.out; omega))
        have SX0 := Lib.hid (S1.out.ex hx8 (by have := ORD.out; omega))
        have LX := Lib.hid (Ex.below L1.out hx8 (fun b hb => by have := ORD.out; have hb : b = ob := hb; omega))
        have VX := Lib.hid ((V1.out.lam_ (lam' := fun b => if b < wc.heap.size then lam1 b else k) (fun b hb => if_pos hb)).ex hx8 (fun b hb => .inl (by have := ORD.out; have hb : b = ob := hb; omega)))
        have ZX := Lib.hid (Nat.le_trans Z1.out hx8.size)
        have pc : (w5.setCell ⟨ob, k, none⟩ (.pointer (some ⟨ow, 0, none⟩))).cell? ⟨ob, k, none⟩ = some (.pointer (some ⟨ow, 0, none⟩)) := by have h9 := hsm.cell HK.out; rw [upS_self] at h9; exact h9
        clear P1 K1 S1 L1 V1 Z1 HBI P5 hsm hx8 hwo q1 q2 hq3 hl1 hl2 hl3 hl4 hri hrb HSN
        go_upto_region 32 with fail
        clear pc5 pf5
        generalize (w5.setCell ⟨ob, k, none⟩ (.pointer (some ⟨ow, 0, none⟩))) = w7 at *
        generalize upS st k (some ⟨ow, rw0, cc, (i : Int), 0⟩) = st at *
        generalize (fun b => if b < wc.heap.size then lam1 b else k) = lam2 at *
        obtain ⟨s, hs9⟩ : ∃ s : W1, (⟨ow, rw0, cc, (i : Int), 0⟩ : W1) = s := ⟨_, rfl⟩
        have hs8 : ow = s.o := by rw [← hs9]
        rw [hs9] at HST
        clear hs9
        subst hs8
        obtain ⟨hoa, hsi, hbo, hbr, hlo, hlr⟩ := PX.out.ops k HK.out s HST.out
        have HOA := Lib.hid hoa
        have HSI := Lib.hid (show s.i < mT l k + 3 ∧ B ≤ s.o ∧ B ≤ s.r from ⟨hsi, hbo, hbr⟩)
        clear hoa hsi hbo hbr hlo hlr
        have HWI := Lib.hid (alone_inv (cnt := cnt k) HGE.out (by have := HCN.out k; have := HI.out; have := HP2.out; omega) s.x (i := s.i) (by have := HSI.out; omega))
        have hqk : nth ws (qT l k) = if s.i ≤ 1 then 2 * (cnt k : Int) else 2 * (cnt k : Int) + 1 := by
          have h9 := HBX.out.2 k HK.out
          rw [HST.out] at h9
          simp only at h9
          rw [h9]
          by_cases e : s.i ≤ 1
          · rw [if_pos e, if_neg (by omega)]; omega
          · rw [if_neg e, if_pos (by omega)]
        have hws := w_step (s := laidS l k) (rec := recL (mT l k) s.x) (k := cnt k) (p := pG l k (cnt k)) (ws := ws) (q := qT l k) (t := t1) (by rw [recL_len]; have := HGE.out; omega) HGE.out.2.2.1 (by rw [HBX.out.1]; exact HGE.out.2.2.2.1) (by have := HCN.out k; have := HI.out; have := HP2.out; omega) HGE.out.2.2.2.2.1 (by rw [recL_len, HBX.out.1]; exact HGE.out.2.2.2.2.2.1) (i := s.i) (by rw [recL_len]; exact HSI.out.1) hqk
        rw [recL_len] at hws
        have HWS := Lib.hid hws
        clear hws hqk
        have HHW := Lib.hid (aloneX_how (mT l k) (cnt k) (s.i + 1) (by have := HSI.out; omega))
        go_wp2_with fail
        refine (WStep_any g h s.o s.r s.cc ws t1 (laidS l k) (recL (mT l k) s.x) 1 (aloneX (mT l k) (cnt k) s.i) w7 KX.out HOA.out HWI.out (by have := HSI.out; have := ORD.out; omega)).mono ?_; rintro e w6 ⟨rfl, hk6, ho6, hx6⟩
        rw [HWS.out] at hk6 ho6 ⊢
        rw [HHW.out]
        clear HWS HHW HWI HOA
        have HX6 := Lib.hid hx6
        have K6 := Lib.hid hk6
        have O6 := Lib.hid ho6
        have S6 := Lib.hid (SX0.out.ex hx6 (by have := ORD.out; have := HSI.out; omega))
        have L6 := Lib.hid (Ex.below LX.out hx6 (fun b hb => by have := ORD.out; have := HSI.out; have hb : b = g ∨ b = h ∨ b = s.o := hb; omega))
        have V6 := Lib.hid (VX.out.ex hx6 (fun b hb => was_step (by have := ORD.out; omega) (by have := ORD.out; omega) (PX.out.ops k HK.out s HST.out).2.2.2.2.1 (by have := HK.out; omega) hb))
        have Z6 := Lib.hid (Nat.le_trans ZX.out hx6.size)
        clear hk6 ho6 hx6 SX0 LX VX KX ZX pc
        by_cases hlast : s.i + 1 = mT l k + 3
        case neg =>
          rw [if_neg hlast]
          have hpo := PX.out.step ⟨by have := ORD.out; omega, by have := ORD.out; omega, by have := ORD.out; omega⟩ (by have := ORD.out; omega) HK.out HST.out HX6.out O6.out (by have := HSI.out; omega)
          have hbi := HBX.out.busy TOK.out HNN.out HK.out HST.out (by have := HSI.out; omega)
          have PO := Lib.hid hpo
          have BI := Lib.hid hbi
          clear hpo hbi hlast
          go_wp2_with fail
          exact ⟨⟨i + 1, _, _, _, _, _, _, by have := HIN.out; omega, by go_num, BI.out, fun j => by have := HCN.out j; omega, PO.out, K6.out, S6.out, V6.out, HLE1.out, Z6.out, L6.out⟩, by have := HIN.out; simp [intOf]; omega⟩
        rw [if_pos hlast]
        have hpo := PX.out.ended ⟨by have := ORD.out; omega, by have := ORD.out; omega, by have := ORD.out; omega⟩ (by have := ORD.out; omega) HK.out HST.out HX6.out (cnt k + 1)
        have hbi := HBX.out.last TOK.out HNN.out HK.out HST.out hlast
        have PO := Lib.hid hpo
        have BI := Lib.hid hbi
        clear hpo hbi hlast
        have pc6 : w6.cell? ⟨ob, k, none⟩ = some (ptrV (some s)) := HX6.out.cell (by have h9 := PX.out.cell HK.out; rw [HST.out] at h9; exact h9) (by have := ORD.out; have := HSI.out; omega)
        have pf6 : w6.frozen? ⟨ob, k, none⟩ = false := HX6.out.frozen (PX.out.row.frozen k) PX.out.row.lt (by have := ORD.out; have := HSI.out; omega)
        have ee : Ex (fun b => b = ob) w6 (w6.setCell ⟨ob, k, none⟩ (.pointer none)) := (Ex.refl (fun b => b = ob) w6).setCell (q := ⟨ob, k, none⟩) (.inl rfl) (.pointer none)
        have K7 := Lib.hid (K6.out.ex ee (by have := ORD.out; omega) (by have := ORD.out; omega))
        have S7 := Lib.hid (S6.out.ex ee (by have := ORD.out; omega))
        have V7 := Lib.hid (V6.out.ex ee (fun b hb => .inl (by have := ORD.out; have hb : b = ob := hb; omega)))
        have L7 := Lib.hid (Ex.below L6.out ee (fun b hb => by have := ORD.out; have hb : b = ob := hb; omega))
        have Z7 := Lib.hid (Nat.le_trans Z6.out ee.size)
        clear ee K6 S6 V6 L6 Z6
        simp only [ptrV, Option.map_some] at pc6
        go_wp2_with fail
        exact ⟨⟨i + 1, _, _, _, _, _, _, by have := HIN.out; omega, by go_num, BI.out, fun j => up_le HCN.out j, PO.out, K7.out, S7.out, V7.out, fun j hj => Int.le_trans (HLE1.out j hj) (up_ge cnt k j), Z7.out, L7.out⟩, by have := HIN.out; simp [intOf]; omega⟩
end Go.Proofs.Ytjdalllfnlpmnaa.Bank
