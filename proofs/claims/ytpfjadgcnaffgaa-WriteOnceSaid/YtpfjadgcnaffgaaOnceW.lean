/-
  WriteOnce, walked. Printed by wip/tools/mkwo.py. No condition. By an AI agent.
-/
import Derived.Test.YtpfjadgcnaffgaaOnceP
import Derived.Deep.CutRange
namespace Go.Proofs.Ytpfjadgcnaffgaa.Bank
set_option linter.unusedVariables false
set_option linter.unusedSimpArgs false
open Go Go.RowKit Go.Proofs.Ytpfjadgcnaffgaa.Base

theorem opArr_same (ox : OX) {k o r c : Nat} {x x' : WS} (h : ox k = some (o, r, c, x)) : opArr (updO ox k (some (o, r, c, x'))) = opArr ox := by
  have e : ∀ j, opPtr (updO ox k (some (o, r, c, x')) j) = opPtr (ox j) := fun j => by
    by_cases hj : j = k
    · subst hj; rw [updO_self, h]; rfl
    · rw [updO_ne _ _ hj]
  unfold opArr
  rw [e, e, e]
theorem updO_updO (ox : OX) (k : Nat) (y z) : updO (updO ox k y) k z = updO ox k z := by
  funext j
  unfold updO
  split <;> rfl
theorem len3 {k : Nat} (h : k < 3) (P : Nat → Prop) (h0 : P 0) (h1 : P 1) (h2 : P 2) : P k := by
  match k, h with
  | 0, _ => exact h0
  | 1, _ => exact h1
  | 2, _ => exact h2
theorem arr3_cell (vs : Nat → Value) {k : Nat} (hk : k < 3) : (#[vs 0, vs 1, vs 2] : Array Value)[k]? = some (vs k) := by
  match k, hk with
  | 0, _ => rfl
  | 1, _ => rfl
  | 2, _ => rfl
theorem pick3 (p : Int) : ∃ k : Nat, k < 3 ∧ (p.tmod 3 + 3).tmod 3 = k ∧ -2 ≤ p.tmod 3 ∧ p.tmod 3 ≤ 2 := by
  have h1 : -2 ≤ p.tmod 3 ∧ p.tmod 3 ≤ 2 := by
    have := Int.tmod_lt_of_pos p (b := 3) (by omega)
    have := Int.lt_tmod_of_pos p (b := 3) (by omega)
    omega
  rw [Int.tmod_eq_emod_of_nonneg (by omega)]
  exact ⟨((p.tmod 3 + 3) % 3).toNat, by omega, by omega, h1⟩
theorem wStep_len (s : Spot) (rec : List Int) (tries : Int) (x : WS) (ws : List Int) (t : Int) : (wStep s rec tries x ws t).2.1.length = ws.length := by
  unfold wStep
  repeat' split
  all_goals first | rfl | exact setF_len _ _ _
theorem OI.zero {m d : Nat} {rec : Nat → List Int} (hm : 1 ≤ m ∧ m ≤ 64) (hd : 2 ≤ d ∧ d ≤ 16) : OI m d rec (fun _ => none) (-1) 0 (zeros (2 + m * d)) :=
  ⟨zeros_len _, fun _ _ _ _ _ _ h => by simp at h, fun _ _ _ _ _ _ h => by simp at h, fun _ => ⟨rfl, by rw [wordF_in (spotOf_in hm hd (zeros_len _)), nth_zeros]; rfl⟩, fun h => by omega⟩
theorem OpsAt.none {w : World} {lo : Nat} {s : Spot} {tr : Nat → Int} {rec : Nat → List Int} : OpsAt w lo s tr rec (fun _ => none) :=
  ⟨fun _ _ _ _ _ _ h => by simp at h, fun _ _ _ _ _ _ _ _ _ _ _ _ _ h => by simp at h⟩

set_option maxRecDepth 100000 in
set_option maxHeartbeats 16000000 in
theorem WriteOnce_walk (v : Value) (x : (Nat → Value) × (Nat → List Int)) (dd : Int) (hdd : -9223372036854775808 ≤ dd ∧ dd ≤ 9223372036854775807) (v2 : Value) (ps : List Int) (w : World) (hx : Rows3 w v x.1 x.2) (hy : Ints w .i64 v2 ps) (hyf : ∀ n ∈ ps, (Lit.int .i64 n).wf = true) : Calls Try.prog 6 #[v, .int .i64 dd, v2] w fun e w' => e = .returned (.bool true) ∧ Below w.heap.size w w' := by
  clear hdd
  obtain ⟨vs, xs⟩ := x
  simp only at hx
  obtain ⟨rfl, hrows⟩ := hx
  obtain ⟨B, cb, rfl, -, hg⟩ := hy.form
  have HYF := Lib.hid (fun y hy => i64_bounds (hyf y hy))
  have HROW := Lib.hid hrows
  obtain ⟨A0, a0, e0, -, -⟩ := (hrows 0 (by omega)).1.form
  obtain ⟨A1, a1, e1, -, -⟩ := (hrows 1 (by omega)).1.form
  obtain ⟨A2, a2, e2, -, -⟩ := (hrows 2 (by omega)).1.form
  generalize hL : ps.length = L at *
  have HL := Lib.hid hL
  have HG := Lib.hid hg
  clear hL hg hrows hy hyf
  have E0 := Lib.hid e0
  have E1 := Lib.hid e1
  have E2 := Lib.hid e2
  have XB := Lib.hid (Blk.new w 65 #[vs 0, vs 1, vs 2])
  have L0 := Lib.hid ((Below.refl w.heap.size w).alloc (Nat.le_refl _) (.cells #[vs 0, vs 1, vs 2] 65))
  have W1 := Lib.hid (show w.heap.size < (w.alloc (.cells #[vs 0, vs 1, vs 2] 65)).heap.size by simp)
  have x0 : (w.alloc (.cells #[vs 0, vs 1, vs 2] 65)).cell? ⟨w.heap.size, 0, none⟩ = some (.slice A0 (xs 0).length a0) := (XB.out.cell 0).trans (congrArg some e0)
  have x1 : (w.alloc (.cells #[vs 0, vs 1, vs 2] 65)).cell? ⟨w.heap.size, 1, none⟩ = some (.slice A1 (xs 1).length a1) := (XB.out.cell 1).trans (congrArg some e1)
  have x2 : (w.alloc (.cells #[vs 0, vs 1, vs 2] 65)).cell? ⟨w.heap.size, 2, none⟩ = some (.slice A2 (xs 2).length a2) := (XB.out.cell 2).trans (congrArg some e2)
  clear e0 e1 e2
  generalize hm0 : (xs 0).length = m at *
  generalize hm1 : (xs 1).length = m1 at *
  generalize hm2 : (xs 2).length = m2 at *
  have M0 := Lib.hid hm0
  have M1 := Lib.hid hm1
  have M2 := Lib.hid hm2
  clear hm0 hm1 hm2
  go_enter Try.func6, Try.ntmps6
  go_upto_region 1 with fail
  generalize w.alloc (.cells #[vs 0, vs 1, vs 2] 65) = w1 at *
  by_cases q1 : (m : Int) < 1
  · skip
    have kq1 : decide ((m : Int) < 1) = true := decide_eq_true (by omega)
    clear q1
    go_wp2_with fail
    refine (awake_any _).mono ?_; rintro e wz ⟨rfl, hb⟩
    have LZ := Lib.hid (bl L0.out hb)
    clear hb
    go_wp2_with fail
    go_ret
    exact ⟨rfl, LZ.out⟩
  by_cases q2 : 6 < (m : Int)
  · skip
    have kq1 : decide ((m : Int) < 1) = false := decide_eq_false (by omega)
    have kq2 : decide ((m : Int) > 6) = true := decide_eq_true (by omega)
    clear q1 q2
    go_wp2_with fail
    refine (awake_any _).mono ?_; rintro e wz ⟨rfl, hb⟩
    have LZ := Lib.hid (bl L0.out hb)
    clear hb
    go_wp2_with fail
    go_ret
    exact ⟨rfl, LZ.out⟩
  by_cases q3 : m1 ≠ m
  · skip
    have kq1 : decide ((m : Int) < 1) = false := decide_eq_false (by omega)
    have kq2 : decide ((m : Int) > 6) = false := decide_eq_false (by omega)
    have kq3 : ((m1 : Int) != (m : Int)) = true := by rw [bne_iff_ne]; omega
    clear q1 q2 q3
    go_wp2_with fail
    refine (awake_any _).mono ?_; rintro e wz ⟨rfl, hb⟩
    have LZ := Lib.hid (bl L0.out hb)
    clear hb
    go_wp2_with fail
    go_ret
    exact ⟨rfl, LZ.out⟩
  by_cases q4 : m2 ≠ m
  · skip
    have kq1 : decide ((m : Int) < 1) = false := decide_eq_false (by omega)
    have kq2 : decide ((m : Int) > 6) = false := decide_eq_false (by omega)
    have kq3 : ((m1 : Int) != (m : Int)) = false := by rw [bne_eq_false_iff_eq]; omega
    have kq4 : ((m2 : Int) != (m : Int)) = true := by rw [bne_iff_ne]; omega
    clear q1 q2 q3 q4
    go_wp2_with fail
    refine (awake_any _).mono ?_; rintro e wz ⟨rfl, hb⟩
    have LZ := Lib.hid (bl L0.out hb)
    clear hb
    go_wp2_with fail
    go_ret
    exact ⟨rfl, LZ.out⟩
  by_cases q5 : dd < 2
  · skip
    have kq1 : decide ((m : Int) < 1) = false := decide_eq_false (by omega)
    have kq2 : decide ((m : Int) > 6) = false := decide_eq_false (by omega)
    have kq3 : ((m1 : Int) != (m : Int)) = false := by rw [bne_eq_false_iff_eq]; omega
    have kq4 : ((m2 : Int) != (m : Int)) = false := by rw [bne_eq_false_iff_eq]; omega
    have kq5 : decide (dd < 2) = true := decide_eq_true (by omega)
    clear q1 q2 q3 q4 q5
    go_wp2_with fail
    refine (awake_any _).mono ?_; rintro e wz ⟨rfl, hb⟩
    have LZ := Lib.hid (bl L0.out hb)
    clear hb
    go_wp2_with fail
    go_ret
    exact ⟨rfl, LZ.out⟩
  by_cases q6 : 16 < dd
  · skip
    have kq1 : decide ((m : Int) < 1) = false := decide_eq_false (by omega)
    have kq2 : decide ((m : Int) > 6) = false := decide_eq_false (by omega)
    have kq3 : ((m1 : Int) != (m : Int)) = false := by rw [bne_eq_false_iff_eq]; omega
    have kq4 : ((m2 : Int) != (m : Int)) = false := by rw [bne_eq_false_iff_eq]; omega
    have kq5 : decide (dd < 2) = false := decide_eq_false (by omega)
    have kq6 : decide (dd > 16) = true := decide_eq_true (by omega)
    clear q1 q2 q3 q4 q5 q6
    go_wp2_with fail
    refine (awake_any _).mono ?_; rintro e wz ⟨rfl, hb⟩
    have LZ := Lib.hid (bl L0.out hb)
    clear hb
    go_wp2_with fail
    go_ret
    exact ⟨rfl, LZ.out⟩
  by_cases q7 : 300 < L
  · skip
    have kq1 : decide ((m : Int) < 1) = false := decide_eq_false (by omega)
    have kq2 : decide ((m : Int) > 6) = false := decide_eq_false (by omega)
    have kq3 : ((m1 : Int) != (m : Int)) = false := by rw [bne_eq_false_iff_eq]; omega
    have kq4 : ((m2 : Int) != (m : Int)) = false := by rw [bne_eq_false_iff_eq]; omega
    have kq5 : decide (dd < 2) = false := decide_eq_false (by omega)
    have kq6 : decide (dd > 16) = false := decide_eq_false (by omega)
    have kq7 : decide ((L : Int) > 300) = true := decide_eq_true (by omega)
    clear q1 q2 q3 q4 q5 q6 q7
    go_wp2_with fail
    refine (awake_any _).mono ?_; rintro e wz ⟨rfl, hb⟩
    have LZ := Lib.hid (bl L0.out hb)
    clear hb
    go_wp2_with fail
    go_ret
    exact ⟨rfl, LZ.out⟩
  have kq1 : decide ((m : Int) < 1) = false := decide_eq_false (by omega)
  have kq2 : decide ((m : Int) > 6) = false := decide_eq_false (by omega)
  have kq3 : ((m1 : Int) != (m : Int)) = false := by rw [bne_eq_false_iff_eq]; omega
  have kq4 : ((m2 : Int) != (m : Int)) = false := by rw [bne_eq_false_iff_eq]; omega
  have kq5 : decide (dd < 2) = false := decide_eq_false (by omega)
  have kq6 : decide (dd > 16) = false := decide_eq_false (by omega)
  have kq7 : decide ((L : Int) > 300) = false := decide_eq_false (by omega)
  obtain ⟨d, rfl⟩ : ∃ d : Nat, dd = d := ⟨dd.toNat, by omega⟩
  have HB := Lib.hid (show (1 ≤ m ∧ m ≤ 64) ∧ (2 ≤ d ∧ d ≤ 16) from ⟨by omega, by omega⟩)
  have HM6 := Lib.hid (show m ≤ 6 by omega)
  have HL3 := Lib.hid (show L ≤ 300 by omega)
  have HML := Lib.hid (show ∀ k, k < 3 → (xs k).length = m from fun k hk => len3 hk (fun k => (xs k).length = m) M0.out (by rw [M1.out]; omega) (by rw [M2.out]; omega))
  clear q1 q2 q3 q4 q5 q6 q7
  go_wp2_with fail
  clear kq1 kq2 kq3 kq4 kq5 kq6 kq7 x0 x1 x2 M0 M1 M2 E0 E1 E2
  refine (spot_in m d HB.out.1 HB.out.2 _).mono ?_; rintro e w2 ⟨g, h, rfl, hk, h1, h2, h3, hl⟩
  generalize hNN : 2 + m * d = N at *
  have HNN := Lib.hid hNN
  have HN5 := Lib.hid (show 4 ≤ N ∧ N ≤ 1026 by have := Nat.mul_le_mul HB.out.1.1 HB.out.2.1; have := mul_small HB.out.1.2 HB.out.2.2; omega)
  clear hNN
  have OR0 := Lib.hid (show w.heap.size < h ∧ h < g ∧ g < w2.heap.size from ⟨Nat.lt_of_lt_of_le W1.out h1, h2, h3⟩)
  clear h1 h2 h3 W1
  have ee : Ex (fun _ => False) w1 w2 := Ex.of_below hl
  have X_1 := Lib.hid (XB.out.ex ee (fun h => h))
  have L_1 := Lib.hid (Ex.below L0.out ee (fun k hk => hk.elim))
  have K_1 := Lib.hid (hk)
  clear ee XB L0 hl hk
  have SB := Lib.hid (Blk.new w2 23 #[.int .i64 0, .int .i64 1, .int .i64 2, .int .i64 m, .int .i64 d])
  go_upto_region 7 with fail
  have S1 := Lib.hid (show w2.heap.size < (w2.alloc (.cells #[.int .i64 0, .int .i64 1, .int .i64 2, .int .i64 m, .int .i64 d] 23)).heap.size by simp)
  have ee : Ex (fun _ => False) w2 (w2.alloc (.cells #[.int .i64 0, .int .i64 1, .int .i64 2, .int .i64 m, .int .i64 d] 23)) := (Ex.refl _ w2).alloc _
  have X_2 := Lib.hid (X_1.out.ex ee (fun h => h))
  have K_2 := Lib.hid (K_1.out.ex ee (fun h => h) (fun h => h))
  have L_2 := Lib.hid (Ex.below L_1.out ee (fun k hk => hk.elim))
  have S_2 := Lib.hid (SB.out)
  clear ee X_1 K_1 L_1 SB
  generalize (w2.alloc (.cells #[.int .i64 0, .int .i64 1, .int .i64 2, .int .i64 m, .int .i64 d] 23)) = w3 at *
  generalize hsb : w2.heap.size = sb at *
  have OR1 := Lib.hid (show w.heap.size < h ∧ h < g ∧ g < sb from ⟨OR0.out.1, OR0.out.2.1, OR0.out.2.2⟩)
  have AB := Lib.hid (Blk.new w3 38 (opArr (fun _ => none)))
  clear hsb OR0
  go_upto_region 8 with fail
  have ee : Ex (fun _ => False) w3 (w3.alloc (.cells (opArr (fun _ => none)) 38)) := (Ex.refl _ w3).alloc _
  have X_3 := Lib.hid (X_2.out.ex ee (fun h => h))
  have K_3 := Lib.hid (K_2.out.ex ee (fun h => h) (fun h => h))
  have S_3 := Lib.hid (S_2.out.ex ee (fun h => h))
  have L_3 := Lib.hid (Ex.below L_2.out ee (fun k hk => hk.elim))
  have A_3 := Lib.hid (AB.out)
  have Z_3 := Lib.hid (OpsAt.none (w := (w3.alloc (.cells (opArr (fun _ => none)) 38))) (lo := w3.heap.size) (s := spotOf m d) (tr := fun _ => 4) (rec := xs))
  clear ee X_2 K_2 S_2 L_2 AB
  have hsz : (w3.alloc (.cells (opArr (fun _ => none)) 38)).heap.size = (w3.alloc (.cells (opArr (fun _ => none)) 38)).heap.size := rfl
  clear hsz
  generalize hw4 : (w3.alloc (.cells (opArr (fun _ => none)) 38)) = w4 at *
  have e4 : w3.alloc (.cells #[.pointer none, .pointer none, .pointer none] 38) = w4 := hw4
  have S4 := Lib.hid (show w3.heap.size < w4.heap.size by rw [← hw4]; simp)
  rw [e4]
  clear hw4 e4
  generalize hab : w3.heap.size = ab at *
  have ORD := Lib.hid (show w.heap.size < h ∧ h < g ∧ g < sb ∧ sb < ab from ⟨OR1.out.1, OR1.out.2.1, OR1.out.2.2, Nat.lt_of_lt_of_le S1.out (by rw [← hab]; exact Nat.le_refl _)⟩)
  clear hab OR1 S1
  go_wp2_with fail
  obtain ⟨wk, rfl⟩ : ∃ wk : World, wk = w4 := ⟨_, rfl⟩
  have HOI := Lib.hid (OI.zero (rec := xs) HB.out.1 HB.out.2)
  rw [HNN.out] at HOI
  go_loopw [12, 13, 14, 15, 16, 17, 18, 19, 20, 21, 22, 23, 24] (fun dv hv iv s15 s16 s17 s18 s19 s20 s21 s22 s23 s24 wr => ∃ (i done : Nat) (holder : Int) (ox : OX) (ws : List Int) (t : Int), i ≤ L ∧ done ≤ i ∧ dv = .int .u64 done ∧ hv = .int .i64 holder ∧ iv = .int .i64 i ∧ BankAt wr g h ws t ∧ Blk wr w.heap.size 65 #[vs 0, vs 1, vs 2] ∧ Blk wr sb 23 #[.int .i64 0, .int .i64 1, .int .i64 2, .int .i64 m, .int .i64 d] ∧ Blk wr ab 38 (opArr ox) ∧ OpsAt wr ab (spotOf m d) (fun _ => 4) xs ox ∧ OI m d xs ox holder done ws ∧ (-1 ≤ holder ∧ holder ≤ 2) ∧ ab < wr.heap.size ∧ Below w.heap.size w wr) (fun dv hv iv s15 s16 s17 s18 s19 s20 s21 s22 s23 s24 _ => L - (intOf iv).toNat)
  case atStart => exact ⟨0, 0, -1, fun _ => none, zeros N, 0, by omega, by omega, rfl, rfl, rfl, K_3.out, X_3.out, S_3.out, A_3.out, Z_3.out, HOI.out, by omega, S4.out, L_3.out⟩
  case round =>
    clear K_3 X_3 S_3 A_3 Z_3 L_3 HOI S4
    obtain ⟨i, done, holder, ox, ws, t, hi, hdi, rfl, rfl, rfl, hbk, hxb, hsb, hab, hz, hoi, hhb, hsz, hl⟩ := hrel
    have K0 := Lib.hid hbk
    have X0 := Lib.hid hxb
    have S0 := Lib.hid hsb
    have A0_ := Lib.hid hab
    have Z0 := Lib.hid hz
    have O0 := Lib.hid hoi
    have L0 := Lib.hid hl
    have SZ := Lib.hid hsz
    have HHB := Lib.hid hhb
    clear hbk hxb hsb hab hz hoi hl hsz hhb
    by_cases hlt : i < L
    · have kd : decide ((i : Int) < (L : Int)) = true := decide_eq_true (by omega)
      have ki0 : (0 : Int) ≤ (i : Int) := by omega
      have ki1 : (i : Int) < (L : Int) := by omega
      obtain ⟨bb, ob, rfl, hbb, hcb⟩ := HG.out (by intro hh; have := HL.out; rw [hh] at this; simp at this; omega)
      have HBB := Lib.hid hbb
      have pl := (L0.out.cell (p := ⟨bb, ob + i, none⟩) hbb).trans (hcb i (by omega))
      obtain ⟨k, hk3, hke, hp1, hp2⟩ := pick3 (nth ps i)
      have HI := Lib.hid (show i < L ∧ done ≤ i from ⟨hlt, hdi⟩)
      clear hcb hbb hlt hi hdi
      generalize nth ps i = pi at *
      have HK3 := Lib.hid hk3
      clear hk3
      have kk0 : (0 : Int) ≤ (k : Int) := by omega
      have kk3 : (k : Int) < 3 := by have := HK3.out; omega
      have qa : wr.cell? ⟨ab, k, none⟩ = some (.pointer (opAddr (ox k))) := (A0_.out.cell k).trans (opArr_cell ox HK3.out)
      generalize hak : opAddr (ox k) = ak at *
      go_upto_if 87 with fail
      clear hke hp1 hp2 pl
      go_cut [16, 17] from 71 to 212 (fun s16 s17 wx => ∃ (ox2 : OX) (o r c : Nat) (x : WS), ox2 k = some (o, r, c, x) ∧ BankAt wx g h ws t ∧ Blk wx w.heap.size 65 #[vs 0, vs 1, vs 2] ∧ Blk wx sb 23 #[.int .i64 0, .int .i64 1, .int .i64 2, .int .i64 m, .int .i64 d] ∧ Blk wx ab 38 (opArr ox2) ∧ OpsAt wx ab (spotOf m d) (fun _ => 4) xs ox2 ∧ OI m d xs ox2 holder done ws ∧ ab < wx.heap.size ∧ Below w.heap.size w wx)
      case first =>
        cases hox : ox k with
        | some z =>
          obtain ⟨o, r, c, x⟩ := z
          rw [hox] at hak
          subst hak
          go_wp2_with fail
          go_meet
          exact ⟨ox, o, r, c, x, hox, K0.out, X0.out, S0.out, A0_.out, Z0.out, O0.out, SZ.out, L0.out⟩
        | none =>
          rw [hox] at hak
          subst hak
          go_upto_region 15 with fail
          obtain ⟨Ak, ck, ek, -, hfk⟩ := (HROW.out k HK3.out).1.form
          have HWF := Lib.hid (fun y hy => u64_bounds ((HROW.out k HK3.out).2 y hy))
          obtain ⟨bk, ok, rfl, hbk, hck⟩ := hfk (by intro hh; have := HML.out k HK3.out; rw [hh] at this; simp at this; have := HB.out.1; omega)
          rw [HML.out k HK3.out] at ek
          have hmay : mayF (spotOf m d) 4 = true := spot_right HB.out.1 HB.out.2 4 (by omega)
          have HMAY := Lib.hid hmay
          have HN := Lib.hid (WNew_in (spotOf m d) 4 bk ok m ck (xs k) wr.drew hmay rfl (HML.out k HK3.out) (Nat.lt_of_lt_of_le hbk L0.out.size) (fun i hi => (L0.out.drew.cell (p := ⟨bk, ok + i, none⟩) hbk).trans (hck i (by rw [HML.out k HK3.out]; exact hi))))
          unfold Spot.val spotOf at HN
          simp only at HN
          clear hfk hck hbk hmay
          have hne : Nonempty (Held (Below wr.heap.size wr)) := ⟨⟨wr, Below.refl _ _⟩⟩
          have px : ∀ x : Held (Below wr.heap.size wr), x.w.cell? ⟨w.heap.size, k, none⟩ = some (.slice (some ⟨bk, ok, none⟩) m ck) := fun x => by rw [← ek]; exact ((X0.out.bl x.ok).cell k).trans (arr3_cell vs HK3.out)
          have s0 : ∀ x : Held (Below wr.heap.size wr), x.w.cell? ⟨sb, 0, none⟩ = some (.int .i64 0) := fun x => (S0.out.bl x.ok).cell 0
          have s1 : ∀ x : Held (Below wr.heap.size wr), x.w.cell? ⟨sb, 1, none⟩ = some (.int .i64 1) := fun x => (S0.out.bl x.ok).cell 1
          have s2 : ∀ x : Held (Below wr.heap.size wr), x.w.cell? ⟨sb, 2, none⟩ = some (.int .i64 2) := fun x => (S0.out.bl x.ok).cell 2
          have s3 : ∀ x : Held (Below wr.heap.size wr), x.w.cell? ⟨sb, 3, none⟩ = some (.int .i64 m) := fun x => (S0.out.bl x.ok).cell 3
          have s4 : ∀ x : Held (Below wr.heap.size wr), x.w.cell? ⟨sb, 4, none⟩ = some (.int .i64 d) := fun x => (S0.out.bl x.ok).cell 4
          clear qa
          refine drawn_bars (S := Below wr.heap.size wr) [([0, 1, 2, 3], 4)] [5, 6, 7, 8, 9] (by kernel_rfl) (by kernel_rfl) (by kernel_rfl) rfl (Below.refl _ _).drew ?_
          refine Phased.go ?_
          simp only [pick, List.map_cons, List.map_nil, List.getElem?_cons_zero, List.getElem?_cons_succ, Option.getD_some]
          repeat (go_big_quiet_step (fail))
          refine wpQuiet_nil ?_
          go_wp2_with fail
          refine HN.out.mono ?_; rintro e w4 ⟨op, r, cc, rfl, ho, q1, q2, hl4⟩
          have hl5 := bl ((Below.refl wr.heap.size wr).drew) hl4
          go_wp2_with fail
          refine behind_normal ⟨Below wr.heap.size wr, fun W h => h, hl5, ?_⟩
          refine Phased.end_ ?_
          have hne4 : Nonempty (Held (fun W => W = w4)) := ⟨⟨_, rfl⟩⟩
          simp only [pick, List.map_cons, List.map_nil, List.getElem?_cons_zero, List.getElem?_cons_succ, Option.getD_some]
          repeat (go_big_quiet_step (fail))
          refine wpQuiet_nil ?_
          clear hne4 hne px s0 s1 s2 s3 s4 HN hl4
          have Z1 := Lib.hid (Z0.out.new HK3.out hox hl5 SZ.out ho (WInv.zero_ HMAY.out (by rw [HML.out k HK3.out]; rfl) HWF.out) q1 q2)
          have OI1 := Lib.hid (O0.out.aside HK3.out (by
            intro e
            obtain ⟨k2, _, e2, _, o2, r2, c2, x2, e3, _⟩ := O0.out.held (by omega)
            obtain rfl : k2 = k := by omega
            rw [hox] at e3
            simp at e3) (some (op, r, cc, WS.zero)) (fun o2 r2 c2 x2 e => by
            simp only [Option.some.injEq, Prod.mk.injEq] at e
            obtain ⟨-, -, -, rfl⟩ := e
            exact ⟨rfl, by decide, fun h => by simp [WS.zero] at h⟩))
          have K1 := Lib.hid (K0.out.below hl5)
          have X1 := Lib.hid (X0.out.bl hl5)
          have S1 := Lib.hid (S0.out.bl hl5)
          have A1_ := Lib.hid (A0_.out.bl hl5)
          have L1 := Lib.hid (bl L0.out hl5)
          have SZ1 := Lib.hid (Nat.lt_of_lt_of_le SZ.out hl5.size)
          clear ho q1 q2 hl5 Z0 O0 K0 X0 S0 A0_ L0
          have qf := A1_.out.frozen k
          have qa : w4.cell? ⟨ab, k, none⟩ = some (.pointer none) := (A1_.out.cell k).trans ((opArr_cell ox HK3.out).trans (by rw [hox]; rfl))
          go_wp2_with fail
          go_meet
          have ee : Ex (fun b => b = ab) w4 (w4.setCell ⟨ab, k, none⟩ (.pointer (some ⟨op, 0, none⟩))) := (Ex.refl (fun b => b = ab) w4).setCell (q := ⟨ab, k, none⟩) (.inl rfl) _
          have bb := A1_.out.set_ k (.pointer (some ⟨op, 0, none⟩))
          rw [show (Value.pointer (some ⟨op, 0, none⟩)) = opPtr (some (op, r, cc, WS.zero)) from rfl, opArr_set ox HK3.out] at bb
          exact ⟨_, op, r, cc, WS.zero, updO_self _ _ _, K1.out.ex ee (by have := ORD.out; omega) (by have := ORD.out; omega), X1.out.ex ee (by have := ORD.out; omega), S1.out.ex ee (by have := ORD.out; omega), bb, Z1.out.ex ee (fun b hb => by have hb : b = ab := hb; omega), OI1.out, by rw [World.size_setCell]; exact SZ1.out, Ex.below L1.out ee (fun b hb => by have hb : b = ab := hb; have := ORD.out; omega)⟩
      case rest =>
        obtain ⟨ox2, o, r, c, x, hox2, hbk, hxb, hsb, hab, hz, hoi, hsz, hl⟩ := hcut
        have K0' := Lib.hid hbk
        have X0' := Lib.hid hxb
        have S0' := Lib.hid hsb
        have A0' := Lib.hid hab
        have Z0' := Lib.hid hz
        have O0' := Lib.hid hoi
        have L0' := Lib.hid hl
        have SZ' := Lib.hid hsz
        have HOX := Lib.hid hox2
        clear hbk hxb hsb hab hz hoi hl hsz hox2 K0 X0 S0 A0_ Z0 O0 L0 SZ qa hak
        clear ak ox
        go_wp2_with fail
        have HOP := Lib.hid (Z0'.out.ops k o r c x HK3.out HOX.out)
        refine (Clone_ex g h ws t _ K0'.out).mono ?_; rintro e w3 ⟨g2, h2, rfl, hk2, q1, q2, q3, hl2⟩
        have ORZ := Lib.hid (show w.heap.size < h ∧ h < g ∧ g < sb ∧ sb < ab ∧ ab < r ∧ r < o ∧ o < h2 ∧ h2 < g2 from ⟨ORD.out.1, ORD.out.2.1, ORD.out.2.2.1, ORD.out.2.2.2, HOP.out.2.2.1, HOP.out.2.2.2, Nat.lt_of_lt_of_le HOP.out.1.head.lt q1, q2⟩)
        clear q1 q2 q3 HOP
        have ee : Ex (fun _ => False) wc w3 := Ex.of_below hl2
        have K_4 := Lib.hid (K0'.out.ex ee (fun h => h) (fun h => h))
        have X_4 := Lib.hid (X0'.out.ex ee (fun h => h))
        have S_4 := Lib.hid (S0'.out.ex ee (fun h => h))
        have A_4 := Lib.hid (A0'.out.ex ee (fun h => h))
        have Z_4 := Lib.hid (Z0'.out.ex ee (fun b hb => hb.elim))
        have L_4 := Lib.hid (Ex.below L0'.out ee (fun k hk => hk.elim))
        have C_4 := Lib.hid (hk2)
        clear ee K0' X0' S0' A0' Z0' L0' hl2 hk2
        have qa : w3.cell? ⟨ab, k, none⟩ = some (.pointer (some ⟨o, 0, none⟩)) := (A_4.out.cell k).trans ((opArr_cell ox2 HK3.out).trans (by rw [HOX.out]; rfl))
        go_wp2_with fail
        clear qa
        have HOP := Lib.hid (Z_4.out.ops k o r c x HK3.out HOX.out)
        have HST := Lib.hid (O0'.out.step HB.out.1 HB.out.2 (by have := HI.out; have := HL3.out; omega) HK3.out HOX.out HOP.out.2.1 (HML.out k HK3.out) t K_4.out.fit)
        have HIV := Lib.hid (HOP.out.2.1.step ws t K_4.out.fit)
        have HLN := Lib.hid (show ws.length = N by rw [O0'.out.len]; exact HNN.out)
        have HLN2 := Lib.hid (show (wStep (spotOf m d) (xs k) 4 x ws t).2.1.length = N by rw [wStep_len]; exact HLN.out)
        refine (WStep_any g h o r c ws t (spotOf m d) (xs k) 4 x _ K_4.out HOP.out.1 HOP.out.2.1 (by have o_ := ORZ.out; omega)).mono ?_; rintro e w6 ⟨rfl, hk6, ho6, hx6⟩
        have hz6 := Z_4.out.step HK3.out HOX.out (by have := ORZ.out; omega) (by have := ORZ.out; omega) hx6 ho6 HIV.out
        generalize wStep (spotOf m d) (xs k) 4 x ws t = y at *
        obtain ⟨⟨xh, xn, xd, xs9, xq, xm⟩, ws2, t2⟩ := y
        simp only at hk6 ho6 hz6 HST HIV HLN2
        simp only
        clear HIV ho6 HOP
        have ee : Ex (fun k => k = g ∨ k = h ∨ k = o) w3 w6 := hx6
        have X_5 := Lib.hid (X_4.out.ex ee (by have o_ := ORZ.out; omega))
        have S_5 := Lib.hid (S_4.out.ex ee (by have o_ := ORZ.out; omega))
        have A_5 := Lib.hid (A_4.out.ex ee (by have o_ := ORZ.out; omega))
        have C_5 := Lib.hid (C_4.out.ex ee (by have o_ := ORZ.out; omega) (by have o_ := ORZ.out; omega))
        have L_5 := Lib.hid (Ex.below L_4.out ee (fun k hk => by have o_ := ORZ.out; have hk : k = g ∨ k = h ∨ k = o := hk; omega))
        have K_5 := Lib.hid (hk6)
        have Z_5 := Lib.hid (hz6)
        clear ee K_4 X_4 S_4 A_4 Z_4 C_4 L_4 hx6 hk6 hz6
        go_wp2_with fail
        refine (Peek_any g h _ _ 1 _ K_5.out).mono ?_; rintro e w7 ⟨rfl, hb7⟩
        have ee : Ex (fun _ => False) w6 w7 := Ex.of_below hb7
        have K_6 := Lib.hid (K_5.out.ex ee (fun h => h) (fun h => h))
        have X_6 := Lib.hid (X_5.out.ex ee (fun h => h))
        have S_6 := Lib.hid (S_5.out.ex ee (fun h => h))
        have A_6 := Lib.hid (A_5.out.ex ee (fun h => h))
        have Z_6 := Lib.hid (Z_5.out.ex ee (fun b hb => hb.elim))
        have C_6 := Lib.hid (C_5.out.ex ee (fun h => h) (fun h => h))
        have L_6 := Lib.hid (Ex.below L_5.out ee (fun k hk => hk.elim))
        clear ee K_5 X_5 S_5 A_5 Z_5 C_5 L_5 hb7
        have HRN := Lib.hid (wordF_range K_6.out 1)
        generalize hnow : wordF ws2 1 = now at *
        have HNOW := Lib.hid hnow
        clear hnow
        obtain ⟨hd, hhd⟩ : ∃ hd, (now.tmod 2 == 1) = hd := ⟨_, rfl⟩
        go_wp2_with fail
        have HHD := Lib.hid hhd
        clear hhd
        obtain ⟨wk, rfl⟩ : ∃ wk : World, wk = w7 := ⟨_, rfl⟩
        go_loopw [21, 22] (fun tv jv wr => ∃ (tb : Bool) (j : Nat), 2 ≤ j ∧ j ≤ N ∧ tv = .bool tb ∧ jv = .int .i64 j ∧ (tb = true → ¬ Same ws ws2) ∧ BankAt wr g h ws2 t2 ∧ Blk wr w.heap.size 65 #[vs 0, vs 1, vs 2] ∧ Blk wr sb 23 #[.int .i64 0, .int .i64 1, .int .i64 2, .int .i64 m, .int .i64 d] ∧ Blk wr ab 38 (opArr ox2) ∧ OpsAt wr ab (spotOf m d) (fun _ => 4) xs (updO ox2 k (some (o, r, c, ⟨xh, xn, xd, xs9, xq, xm⟩))) ∧ BankAt wr g2 h2 ws t ∧ ab < wr.heap.size ∧ Below w.heap.size w wr) (fun tv jv _ => N - (intOf jv).toNat)
        case atStart => exact ⟨false, 2, by omega, by have := HN5.out; omega, rfl, rfl, fun h => by simp at h, K_6.out, X_6.out, S_6.out, A_6.out, Z_6.out, C_6.out, A_6.out.lt, L_6.out⟩
        case round =>
          clear K_6 X_6 S_6 A_6 Z_6 C_6 L_6
          obtain ⟨tb, j, hj2, hjN, rfl, rfl, htb, hbk, hxb, hsb, hab, hz, hcl, hsz, hl⟩ := hrel
          have K0 := Lib.hid hbk
          have X0 := Lib.hid hxb
          have S0 := Lib.hid hsb
          have A0_ := Lib.hid hab
          have Z0 := Lib.hid hz
          have C0 := Lib.hid hcl
          have L0 := Lib.hid hl
          have HTB := Lib.hid htb
          clear hbk hxb hsb hab hz hcl hl hsz htb
          go_wp2_with fail
          refine (Len_any g h _ _ _ K0.out).mono ?_; rintro e w8 ⟨rfl, rfl⟩
          rw [HLN2.out]
          by_cases hjl : j < N
          · have kj : decide ((j : Int) < (N : Int)) = true := decide_eq_true (by omega)
            have HJ := Lib.hid (show 2 ≤ j ∧ j < N from ⟨hj2, hjl⟩)
            have kj5 : (j : Int) ≤ 1026 := by have := HN5.out; omega
            clear hj2 hjN
            cases tb
            · skip
              go_wp2_with fail
              refine (Peek_any g h _ _ (j : Int) _ K0.out).mono ?_; rintro e w9 ⟨rfl, hb9⟩
              rw [wordF_nat ws2 j (by rw [HLN2.out]; exact HJ.out.2)]
              have ee : Ex (fun _ => False) wr w9 := Ex.of_below hb9
              have K_7 := Lib.hid (K0.out.ex ee (fun h => h) (fun h => h))
              have X_7 := Lib.hid (X0.out.ex ee (fun h => h))
              have S_7 := Lib.hid (S0.out.ex ee (fun h => h))
              have A_7 := Lib.hid (A0_.out.ex ee (fun h => h))
              have Z_7 := Lib.hid (Z0.out.ex ee (fun b hb => hb.elim))
              have C_7 := Lib.hid (C0.out.ex ee (fun h => h) (fun h => h))
              have L_7 := Lib.hid (Ex.below L0.out ee (fun k hk => hk.elim))
              clear ee K0 X0 S0 A0_ Z0 C0 L0 hb9
              go_wp2_with fail
              refine (Peek_any g2 h2 _ _ (j : Int) _ C_7.out).mono ?_; rintro e w10 ⟨rfl, hb9⟩
              rw [wordF_nat ws j (by rw [HLN.out]; exact HJ.out.2)]
              have ee : Ex (fun _ => False) w9 w10 := Ex.of_below hb9
              have K_8 := Lib.hid (K_7.out.ex ee (fun h => h) (fun h => h))
              have X_8 := Lib.hid (X_7.out.ex ee (fun h => h))
              have S_8 := Lib.hid (S_7.out.ex ee (fun h => h))
              have A_8 := Lib.hid (A_7.out.ex ee (fun h => h))
              have Z_8 := Lib.hid (Z_7.out.ex ee (fun b hb => hb.elim))
              have C_8 := Lib.hid (C_7.out.ex ee (fun h => h) (fun h => h))
              have L_8 := Lib.hid (Ex.below L_7.out ee (fun k hk => hk.elim))
              clear ee K_7 X_7 S_7 A_7 Z_7 C_7 L_7 hb9
              by_cases hdf : nth ws2 j = nth ws j
              · have kf : (nth ws2 j != nth ws j) = false := by rw [hdf]; simp
                have HDF := Lib.hid hdf
                clear hdf
                go_wp2_with fail
                go_roundw
                case rel => exact ⟨false, j + 1, by have := HJ.out; omega, by have := HJ.out; omega, rfl, by go_num, fun h => by simp at h, K_8.out, X_8.out, S_8.out, A_8.out, Z_8.out, C_8.out, A_8.out.lt, L_8.out⟩
                case measure => have := HJ.out; simp [intOf]; omega
              · have kf : (nth ws2 j != nth ws j) = true := by simpa using hdf
                have HDF := Lib.hid hdf
                clear hdf
                go_wp2_with fail
                go_roundw
                case rel => exact ⟨true, j + 1, by have := HJ.out; omega, by have := HJ.out; omega, rfl, by go_num, fun _ hs => HDF.out (hs j HJ.out.1), K_8.out, X_8.out, S_8.out, A_8.out, Z_8.out, C_8.out, A_8.out.lt, L_8.out⟩
                case measure => have := HJ.out; simp [intOf]; omega
            · skip
              go_wp2_with fail
              go_roundw
              case rel => exact ⟨true, j + 1, by have := HJ.out; omega, by have := HJ.out; omega, rfl, by go_num, fun _ => HTB.out (by trivial), K0.out, X0.out, S0.out, A0_.out, Z0.out, C0.out, A0_.out.lt, L0.out⟩
              case measure => have := HJ.out; simp [intOf]; omega
          · have hjN2 : N = j := by omega
            subst hjN2
            have kj : decide ((N : Int) < (N : Int)) = false := decide_eq_false (by omega)
            have kg0 : (0 : Int) ≤ (done : Int) := by omega
            have kg1 : (done : Int) ≤ 300 := by have := HI.out; have := HL3.out; omega
            have ki5 : (i : Int) ≤ 300 := by have := HI.out; have := HL3.out; omega
            have hoddT : ∀ z : Int, now = 2 * z + 1 → hd = true := fun z hz => by rw [← HHD.out]; exact beq_iff_eq.2 (by rw [Int.tmod_eq_emod_of_nonneg HRN.out.1]; omega)
            have hoddF : ∀ z : Int, now = 2 * z → hd = false := fun z hz => by rw [← HHD.out]; exact beq_eq_false_iff_ne.2 (by rw [Int.tmod_eq_emod_of_nonneg HRN.out.1]; omega)
            have HOT := Lib.hid hoddT
            have HOF := Lib.hid hoddF
            clear hoddT hoddF ki1 hj2
            rcases HST.out with ⟨h1, h2, h3, h4⟩ | ⟨h1, h2, h3, h4⟩ | ⟨h1, h2, h3, h4⟩ | ⟨h1, h2, h4⟩ | ⟨h1, h2, h3, h5, h4, h6⟩
            · skip
              have htf : tb = false := by
                cases htb : tb with
                | false => rfl
                | true => exact absurd h3 (HTB.out htb)
              subst htf
              subst h1
              have H4 := Lib.hid h4
              clear h4
              by_cases hneg : holder < 0
              · have kh : decide (holder < 0) = true := decide_eq_true hneg
                have hdf : hd = false := HOF.out done (HNOW.out.symm.trans (H4.out.free hneg).2)
                subst hdf
                clear hneg h2
                have HOPN := Lib.hid (Z0.out.ops k _ _ _ _ HK3.out (updO_self _ _ _))
                have qa : wr.cell? ⟨ab, k, none⟩ = some (.pointer (some ⟨o, 0, none⟩)) := (A0_.out.cell k).trans ((opArr_cell ox2 HK3.out).trans (by rw [HOX.out]; rfl))
                go_wp2_with fail
                refine (WGen_any o r c (spotOf m d) (xs k) 4 _ _ HOPN.out.1).mono ?_; rintro e w8 ⟨rfl, rfl⟩
                rw [show WS.gen ⟨0, xn, xd, xs9, xq, xm⟩ = 0 from rfl]
                clear qa
                go_wp2_with fail
                exact ⟨⟨i + 1, done, holder, _, ws2, t2, by have := HI.out; omega, by have := HI.out; omega, rfl, rfl, by go_num, K0.out, X0.out, S0.out, by rw [opArr_same ox2 HOX.out]; exact A0_.out, Z0.out, H4.out, HHB.out, A0_.out.lt, L0.out⟩, by have := HI.out; simp [intOf]; omega⟩
              · have kh : decide (holder < 0) = false := decide_eq_false hneg
                have hdf : hd = true := by obtain ⟨_, _, _, e, _⟩ := H4.out.held (by omega); exact HOT.out done (HNOW.out.symm.trans e)
                subst hdf
                clear hneg h2
                have HOPN := Lib.hid (Z0.out.ops k _ _ _ _ HK3.out (updO_self _ _ _))
                have qa : wr.cell? ⟨ab, k, none⟩ = some (.pointer (some ⟨o, 0, none⟩)) := (A0_.out.cell k).trans ((opArr_cell ox2 HK3.out).trans (by rw [HOX.out]; rfl))
                go_wp2_with fail
                refine (WGen_any o r c (spotOf m d) (xs k) 4 _ _ HOPN.out.1).mono ?_; rintro e w8 ⟨rfl, rfl⟩
                rw [show WS.gen ⟨0, xn, xd, xs9, xq, xm⟩ = 0 from rfl]
                clear qa
                go_wp2_with fail
                exact ⟨⟨i + 1, done, holder, _, ws2, t2, by have := HI.out; omega, by have := HI.out; omega, rfl, rfl, by go_num, K0.out, X0.out, S0.out, by rw [opArr_same ox2 HOX.out]; exact A0_.out, Z0.out, H4.out, HHB.out, A0_.out.lt, L0.out⟩, by have := HI.out; simp [intOf]; omega⟩
            · skip
              have htf : tb = false := by
                cases htb : tb with
                | false => rfl
                | true => exact absurd h3 (HTB.out htb)
              subst htf
              subst h1
              have H4 := Lib.hid h4
              clear h4
              by_cases hneg : holder < 0
              · have kh : decide (holder < 0) = true := decide_eq_true hneg
                have hdf : hd = false := HOF.out done (HNOW.out.symm.trans (H4.out.free hneg).2)
                subst hdf
                clear hneg h2
                have qf := A0_.out.frozen k
                have qa2 := (A0_.out.cell k).trans (opArr_cell ox2 HK3.out)
                rw [HOX.out] at qa2
                have qa3 : wr.cell? ⟨ab, k, none⟩ = some (.pointer (some ⟨o, 0, none⟩)) := qa2
                clear qa2
                go_wp2_with fail
                have bb := A0_.out.set_ k (.pointer none)
                rw [show (Value.pointer none) = opPtr none from rfl, opArr_set ox2 HK3.out] at bb
                have BB := Lib.hid bb
                clear bb qf qa3
                have ee : Ex (fun k => k = ab) wr (wr.setCell ⟨ab, k, none⟩ (.pointer none)) := ((Ex.refl (fun b => b = ab) wr).setCell (q := ⟨ab, k, none⟩) (.inl rfl) (.pointer none))
                have K_7 := Lib.hid (K0.out.ex ee (by have o_ := ORZ.out; omega) (by have o_ := ORZ.out; omega))
                have X_7 := Lib.hid (X0.out.ex ee (by have o_ := ORZ.out; omega))
                have S_7 := Lib.hid (S0.out.ex ee (by have o_ := ORZ.out; omega))
                have Z_7 := Lib.hid (Z0.out.ex ee (fun b hb => by have o_ := ORZ.out; have hb : b = ab := hb; omega))
                have C_7 := Lib.hid (C0.out.ex ee (by have o_ := ORZ.out; omega) (by have o_ := ORZ.out; omega))
                have L_7 := Lib.hid (Ex.below L0.out ee (fun k hk => by have o_ := ORZ.out; have hk : k = ab := hk; omega))
                have A_7 := Lib.hid (BB.out)
                clear ee K0 X0 S0 A0_ Z0 C0 L0 BB
                have ZN := Lib.hid (Z_7.out.drop k)
                rw [updO_updO] at ZN
                exact ⟨⟨i + 1, done, holder, _, ws2, t2, by have := HI.out; omega, by have := HI.out; omega, rfl, rfl, by go_num, K_7.out, X_7.out, S_7.out, A_7.out, ZN.out, H4.out, HHB.out, A_7.out.lt, L_7.out⟩, by have := HI.out; simp [intOf]; omega⟩
              · have kh : decide (holder < 0) = false := decide_eq_false hneg
                have hdf : hd = true := by obtain ⟨_, _, _, e, _⟩ := H4.out.held (by omega); exact HOT.out done (HNOW.out.symm.trans e)
                subst hdf
                clear hneg h2
                have qf := A0_.out.frozen k
                have qa2 := (A0_.out.cell k).trans (opArr_cell ox2 HK3.out)
                rw [HOX.out] at qa2
                have qa3 : wr.cell? ⟨ab, k, none⟩ = some (.pointer (some ⟨o, 0, none⟩)) := qa2
                clear qa2
                go_wp2_with fail
                have bb := A0_.out.set_ k (.pointer none)
                rw [show (Value.pointer none) = opPtr none from rfl, opArr_set ox2 HK3.out] at bb
                have BB := Lib.hid bb
                clear bb qf qa3
                have ee : Ex (fun k => k = ab) wr (wr.setCell ⟨ab, k, none⟩ (.pointer none)) := ((Ex.refl (fun b => b = ab) wr).setCell (q := ⟨ab, k, none⟩) (.inl rfl) (.pointer none))
                have K_7 := Lib.hid (K0.out.ex ee (by have o_ := ORZ.out; omega) (by have o_ := ORZ.out; omega))
                have X_7 := Lib.hid (X0.out.ex ee (by have o_ := ORZ.out; omega))
                have S_7 := Lib.hid (S0.out.ex ee (by have o_ := ORZ.out; omega))
                have Z_7 := Lib.hid (Z0.out.ex ee (fun b hb => by have o_ := ORZ.out; have hb : b = ab := hb; omega))
                have C_7 := Lib.hid (C0.out.ex ee (by have o_ := ORZ.out; omega) (by have o_ := ORZ.out; omega))
                have L_7 := Lib.hid (Ex.below L0.out ee (fun k hk => by have o_ := ORZ.out; have hk : k = ab := hk; omega))
                have A_7 := Lib.hid (BB.out)
                clear ee K0 X0 S0 A0_ Z0 C0 L0 BB
                have ZN := Lib.hid (Z_7.out.drop k)
                rw [updO_updO] at ZN
                exact ⟨⟨i + 1, done, holder, _, ws2, t2, by have := HI.out; omega, by have := HI.out; omega, rfl, rfl, by go_num, K_7.out, X_7.out, S_7.out, A_7.out, ZN.out, H4.out, HHB.out, A_7.out.lt, L_7.out⟩, by have := HI.out; simp [intOf]; omega⟩
            · skip
              have htf : tb = false := by
                cases htb : tb with
                | false => rfl
                | true => exact absurd h3 (HTB.out htb)
              subst htf
              subst h1
              subst h2
              have H4 := Lib.hid h4
              clear h4
              have hdf : hd = true := by obtain ⟨_, _, _, e, _⟩ := H4.out.held (by omega); exact HOT.out done (HNOW.out.symm.trans e)
              subst hdf
              have kh9 : decide ((k : Int) < 0) = false := decide_eq_false (by omega)
              have HOPN := Lib.hid (Z0.out.ops k _ _ _ _ HK3.out (updO_self _ _ _))
              have qa : wr.cell? ⟨ab, k, none⟩ = some (.pointer (some ⟨o, 0, none⟩)) := (A0_.out.cell k).trans ((opArr_cell ox2 HK3.out).trans (by rw [HOX.out]; rfl))
              go_wp2_with fail
              refine (WGen_any o r c (spotOf m d) (xs k) 4 _ _ HOPN.out.1).mono ?_; rintro e w8 ⟨rfl, rfl⟩
              rw [show WS.gen ⟨0, xn, xd, xs9, xq, xm⟩ = 0 from rfl]
              clear qa
              go_wp2_with fail
              exact ⟨⟨i + 1, done, k, _, ws2, t2, by have := HI.out; omega, by have := HI.out; omega, rfl, rfl, by go_num, K0.out, X0.out, S0.out, by rw [opArr_same ox2 HOX.out]; exact A0_.out, Z0.out, H4.out, by have := HK3.out; omega, A0_.out.lt, L0.out⟩, by have := HI.out; simp [intOf]; omega⟩
            · skip
              subst h1
              subst h2
              have H4 := Lib.hid h4
              clear h4
              have hdf : hd = true := by obtain ⟨_, _, _, e, _⟩ := H4.out.held (by omega); exact HOT.out done (HNOW.out.symm.trans e)
              subst hdf
              have kh9 : decide ((k : Int) < 0) = false := decide_eq_false (by omega)
              have kk9 : ((k : Int) != (k : Int)) = false := by simp
              cases tb
              · skip
                have HOPN := Lib.hid (Z0.out.ops k _ _ _ _ HK3.out (updO_self _ _ _))
                have qa : wr.cell? ⟨ab, k, none⟩ = some (.pointer (some ⟨o, 0, none⟩)) := (A0_.out.cell k).trans ((opArr_cell ox2 HK3.out).trans (by rw [HOX.out]; rfl))
                go_wp2_with fail
                refine (WGen_any o r c (spotOf m d) (xs k) 4 _ _ HOPN.out.1).mono ?_; rintro e w8 ⟨rfl, rfl⟩
                rw [show WS.gen ⟨0, xn, xd, xs9, xq, xm⟩ = 0 from rfl]
                clear qa
                go_wp2_with fail
                exact ⟨⟨i + 1, done, k, _, ws2, t2, by have := HI.out; omega, by have := HI.out; omega, rfl, rfl, by go_num, K0.out, X0.out, S0.out, by rw [opArr_same ox2 HOX.out]; exact A0_.out, Z0.out, H4.out, by have := HK3.out; omega, A0_.out.lt, L0.out⟩, by have := HI.out; simp [intOf]; omega⟩
              · skip
                have HOPN := Lib.hid (Z0.out.ops k _ _ _ _ HK3.out (updO_self _ _ _))
                have qa : wr.cell? ⟨ab, k, none⟩ = some (.pointer (some ⟨o, 0, none⟩)) := (A0_.out.cell k).trans ((opArr_cell ox2 HK3.out).trans (by rw [HOX.out]; rfl))
                go_wp2_with fail
                refine (WGen_any o r c (spotOf m d) (xs k) 4 _ _ HOPN.out.1).mono ?_; rintro e w8 ⟨rfl, rfl⟩
                rw [show WS.gen ⟨0, xn, xd, xs9, xq, xm⟩ = 0 from rfl]
                clear qa
                go_wp2_with fail
                exact ⟨⟨i + 1, done, k, _, ws2, t2, by have := HI.out; omega, by have := HI.out; omega, rfl, rfl, by go_num, K0.out, X0.out, S0.out, by rw [opArr_same ox2 HOX.out]; exact A0_.out, Z0.out, H4.out, by have := HK3.out; omega, A0_.out.lt, L0.out⟩, by have := HI.out; simp [intOf]; omega⟩
            · skip
              have htf : tb = false := by
                cases htb : tb with
                | false => rfl
                | true => exact absurd h3 (HTB.out htb)
              subst htf
              subst h1
              subst h2
              have H4 := Lib.hid h4
              have H5 := Lib.hid h5
              have H6 := Lib.hid h6
              clear h3 h4 h5 h6
              have HW := Lib.hid (show now = 2 * ((done : Int) + 1) by rw [← HNOW.out, (H4.out.free (by omega)).2]; omega)
              have hdf : hd = false := HOF.out _ HW.out
              subst hdf
              have kh9 : decide ((k : Int) < 0) = false := decide_eq_false (by omega)
              have kk9 : ((k : Int) != (k : Int)) = false := by simp
              have ku1 : IntKind.u64.wrap ((done : Int) + 1) = (done : Int) + 1 := u64_wrap_in (by omega)
              have ku2 : IntKind.u64.wrap (2 * ((done : Int) + 1)) = 2 * ((done : Int) + 1) := u64_wrap_in (by omega)
              have HOPN := Lib.hid (Z0.out.ops k _ _ _ _ HK3.out (updO_self _ _ _))
              have qa : wr.cell? ⟨ab, k, none⟩ = some (.pointer (some ⟨o, 0, none⟩)) := (A0_.out.cell k).trans ((opArr_cell ox2 HK3.out).trans (by rw [HOX.out]; rfl))
              go_wp2_with fail
              refine (WGen_any o r c (spotOf m d) (xs k) 4 _ _ HOPN.out.1).mono ?_; rintro e w8 ⟨rfl, rfl⟩
              rw [H5.out]
              clear qa
              go_wp2_with fail
              refine (Peek_any g h _ _ 1 _ K0.out).mono ?_; rintro e w9 ⟨rfl, hb9⟩
              rw [HNOW.out, HW.out]
              have ee : Ex (fun _ => False) wr w9 := Ex.of_below hb9
              have K_7 := Lib.hid (K0.out.ex ee (fun h => h) (fun h => h))
              have X_7 := Lib.hid (X0.out.ex ee (fun h => h))
              have S_7 := Lib.hid (S0.out.ex ee (fun h => h))
              have A_7 := Lib.hid (A0_.out.ex ee (fun h => h))
              have Z_7 := Lib.hid (Z0.out.ex ee (fun b hb => hb.elim))
              have C_7 := Lib.hid (C0.out.ex ee (fun h => h) (fun h => h))
              have L_7 := Lib.hid (Ex.below L0.out ee (fun k hk => hk.elim))
              clear ee K0 X0 S0 A0_ Z0 C0 L0 hb9 HOPN
              have Sq0 := (S_7.out).cell 0
              have Sq1 := (S_7.out).cell 1
              have Sq2 := (S_7.out).cell 2
              have Sq3 := (S_7.out).cell 3
              have Sq4 := (S_7.out).cell 4
              simp only [List.getElem?_toArray, List.getElem?_cons_succ, List.getElem?_cons_zero] at Sq0 Sq1 Sq2 Sq3 Sq4
              go_wp2_with fail
              have HAP := Lib.hid (alone_place (k := done) HB.out.1 HB.out.2)
              have HAT := Lib.hid (At_any (spotOf m d) ((done : Int) + 1) w9 (by omega) (by have := HB.out; unfold Spot.AtOk spotOf; simp only; omega))
              rw [HAP.out.1] at HAT
              unfold Spot.val spotOf at HAT
              simp only at HAT
              refine HAT.out.mono ?_; rintro e w11 ⟨rfl, hb7⟩
              have HPL := Lib.hid (show plc m d (done + 1) = 2 + (done + 1) % d * m ∧ 2 + (done + 1) % d * m + m ≤ N from ⟨rfl, by rw [← HNN.out]; exact HAP.out.2⟩)
              generalize 2 + (done + 1) % d * m = p at *
              clear HAT HAP ku1 ku2
              clear Sq0 Sq1 Sq2 Sq3 Sq4
              have ee : Ex (fun _ => False) w9 w11 := Ex.of_below hb7
              have K_8 := Lib.hid (K_7.out.ex ee (fun h => h) (fun h => h))
              have X_8 := Lib.hid (X_7.out.ex ee (fun h => h))
              have S_8 := Lib.hid (S_7.out.ex ee (fun h => h))
              have A_8 := Lib.hid (A_7.out.ex ee (fun h => h))
              have Z_8 := Lib.hid (Z_7.out.ex ee (fun b hb => hb.elim))
              have C_8 := Lib.hid (C_7.out.ex ee (fun h => h) (fun h => h))
              have L_8 := Lib.hid (Ex.below L_7.out ee (fun k hk => hk.elim))
              clear ee K_7 X_7 S_7 A_7 Z_7 C_7 L_7 hb7
              go_wp2_with fail
              obtain ⟨wk2, rfl⟩ : ∃ wk : World, wk = w11 := ⟨_, rfl⟩
              go_loopw [24] (fun jv wr => ∃ (j : Nat), j ≤ m ∧ jv = .int .i64 j ∧ BankAt wr g h ws2 t2 ∧ Blk wr w.heap.size 65 #[vs 0, vs 1, vs 2] ∧ Blk wr sb 23 #[.int .i64 0, .int .i64 1, .int .i64 2, .int .i64 m, .int .i64 d] ∧ Blk wr ab 38 (opArr ox2) ∧ OpsAt wr ab (spotOf m d) (fun _ => 4) xs (updO ox2 k (some (o, r, c, ⟨1, xn, xd, xs9, xq, xm⟩))) ∧ ab < wr.heap.size ∧ Below w.heap.size w wr) (fun jv _ => m - (intOf jv).toNat)
              case atStart => exact ⟨0, by omega, rfl, K_8.out, X_8.out, S_8.out, A_8.out, Z_8.out, A_8.out.lt, L_8.out⟩
              case round =>
                clear K_8 X_8 S_8 A_8 Z_8 C_8 L_8
                obtain ⟨n, hn, rfl, hbk, hxb, hsb, hab, hz, hsz, hl⟩ := hrel
                have K0 := Lib.hid hbk
                have X0 := Lib.hid hxb
                have S0 := Lib.hid hsb
                have A0_ := Lib.hid hab
                have Z0 := Lib.hid hz
                have L0 := Lib.hid hl
                clear hbk hxb hsb hab hz hl hsz
                by_cases hnl : n < m
                · have kn : decide ((n : Int) < (m : Int)) = true := decide_eq_true (by omega)
                  have HN9 := Lib.hid hnl
                  have kn0 : (0 : Int) ≤ (n : Int) := by omega
                  have kn1 : (n : Int) < (m : Int) := by omega
                  have kn5 : (n : Int) ≤ 6 := by have := HM6.out; omega
                  have kpn : wrap64 ((p : Int) + (n : Int)) = (p : Int) + (n : Int) := wrap64_in _ (by have := HPL.out.2; have := HN5.out; omega)
                  have HWN := Lib.hid (show wordF ws2 ((p : Int) + (n : Int)) = nth (xs k) n by
                    rw [← Int.natCast_add, wordF_nat ws2 (p + n) (by rw [HLN2.out]; have := HPL.out.2; omega)]; have h9 := H6.out n hnl; rw [HPL.out.1] at h9; exact h9)
                  clear hn
                  obtain ⟨Ak, ck, ek, -, hfk⟩ := (HROW.out k HK3.out).1.form
                  obtain ⟨bk, ok, rfl, hbk, hck⟩ := hfk (by intro hh; have := HML.out k HK3.out; rw [hh] at this; simp at this; have := HB.out.1; omega)
                  rw [HML.out k HK3.out] at ek
                  have HCK := Lib.hid (show wr.cell? ⟨bk, ok + n, none⟩ = some (.int .u64 (nth (xs k) n)) from (L0.out.cell (p := ⟨bk, ok + n, none⟩) hbk).trans (hck n (by rw [HML.out k HK3.out]; exact HN9.out)))
                  have EK := Lib.hid ek
                  have HBK := Lib.hid (show bk < wr.heap.size from Nat.lt_of_lt_of_le hbk L0.out.size)
                  clear hfk hck hbk ek
                  go_upto_region 41 with fail
                  clear hnl
                  have hne : Nonempty (Held (Below wr.heap.size wr)) := ⟨⟨wr, Below.refl _ _⟩⟩
                  have px : ∀ x : Held (Below wr.heap.size wr), x.w.cell? ⟨w.heap.size, k, none⟩ = some (.slice (some ⟨bk, ok, none⟩) m ck) := fun x => by rw [← EK.out]; exact ((X0.out.bl x.ok).cell k).trans (arr3_cell vs HK3.out)
                  have pr : ∀ x : Held (Below wr.heap.size wr), x.w.cell? ⟨bk, ok + n, none⟩ = some (.int .u64 (nth (xs k) n)) := fun x => (x.ok.cell (p := ⟨bk, ok + n, none⟩) HBK.out).trans HCK.out
                  refine drawn_bars (S := Below wr.heap.size wr) [([0, 1, 2, 3, 5, 6, 7, 8, 9, 10], 4)] [11] (by kernel_rfl) (by kernel_rfl) (by kernel_rfl) rfl (Below.refl _ _).drew ?_
                  refine Phased.go ?_
                  simp only [pick, List.map_cons, List.map_nil, List.getElem?_cons_zero, List.getElem?_cons_succ, Option.getD_some]
                  repeat (go_big_quiet_step (fail))
                  refine wpQuiet_nil ?_
                  go_wp2_with fail
                  refine (Peek_any g h _ _ ((p : Int) + (n : Int)) wr.drew (K0.out.drewN 1)).mono ?_; rintro e w8 ⟨rfl, hb8⟩
                  rw [HWN.out]
                  have hb6 := bl ((Below.refl wr.heap.size wr).drew) hb8
                  go_wp2_with fail
                  refine behind_normal ⟨Below wr.heap.size wr, fun W h => h, hb6, ?_⟩
                  refine Phased.end_ ?_
                  have hne5 : Nonempty (Held (fun W => W = w8)) := ⟨⟨_, rfl⟩⟩
                  have kx9 : (nth (xs k) n != nth (xs k) n) = false := by simp
                  simp only [pick, List.map_cons, List.map_nil, List.getElem?_cons_zero, List.getElem?_cons_succ, Option.getD_some]
                  repeat (go_big_quiet_step (fail))
                  refine wpQuiet_nil ?_
                  clear hne hne5 px pr hb8
                  have ee : Ex (fun _ => False) wr w8 := Ex.of_below hb6
                  have K_9 := Lib.hid (K0.out.ex ee (fun h => h) (fun h => h))
                  have X_9 := Lib.hid (X0.out.ex ee (fun h => h))
                  have S_9 := Lib.hid (S0.out.ex ee (fun h => h))
                  have A_9 := Lib.hid (A0_.out.ex ee (fun h => h))
                  have Z_9 := Lib.hid (Z0.out.ex ee (fun b hb => hb.elim))
                  have L_9 := Lib.hid (Ex.below L0.out ee (fun k hk => hk.elim))
                  clear ee K0 X0 S0 A0_ Z0 L0 hb6
                  go_wp2_with fail
                  go_roundw
                  case rel => exact ⟨n + 1, by have := HN9.out; omega, by go_num, K_9.out, X_9.out, S_9.out, A_9.out, Z_9.out, A_9.out.lt, L_9.out⟩
                  case measure => have := HN9.out; simp [intOf]; omega
                · obtain rfl : n = m := by omega
                  have kn : decide ((n : Int) < (n : Int)) = false := decide_eq_false (by omega)
                  have qf := A0_.out.frozen k
                  have qa2 := (A0_.out.cell k).trans (opArr_cell ox2 HK3.out)
                  rw [HOX.out] at qa2
                  have qa3 : wr.cell? ⟨ab, k, none⟩ = some (.pointer (some ⟨o, 0, none⟩)) := qa2
                  clear qa2
                  go_wp2_with fail
                  have bb := A0_.out.set_ k (.pointer none)
                  rw [show (Value.pointer none) = opPtr none from rfl, opArr_set ox2 HK3.out] at bb
                  have BB := Lib.hid bb
                  clear bb qf qa3
                  have ee : Ex (fun k => k = ab) wr (wr.setCell ⟨ab, k, none⟩ (.pointer none)) := ((Ex.refl (fun b => b = ab) wr).setCell (q := ⟨ab, k, none⟩) (.inl rfl) (.pointer none))
                  have K_9 := Lib.hid (K0.out.ex ee (by have o_ := ORZ.out; omega) (by have o_ := ORZ.out; omega))
                  have X_9 := Lib.hid (X0.out.ex ee (by have o_ := ORZ.out; omega))
                  have S_9 := Lib.hid (S0.out.ex ee (by have o_ := ORZ.out; omega))
                  have Z_9 := Lib.hid (Z0.out.ex ee (fun b hb => by have o_ := ORZ.out; have hb : b = ab := hb; omega))
                  have L_9 := Lib.hid (Ex.below L0.out ee (fun k hk => by have o_ := ORZ.out; have hk : k = ab := hk; omega))
                  have A_9 := Lib.hid (BB.out)
                  clear ee K0 X0 S0 A0_ Z0 L0 BB
                  have ZN := Lib.hid (Z_9.out.drop k)
                  rw [updO_updO] at ZN
                  exact ⟨⟨i + 1, (done + 1), (-1), _, ws2, t2, by have := HI.out; omega, by have := HI.out; omega, by go_num, rfl, by go_num, K_9.out, X_9.out, S_9.out, A_9.out, ZN.out, H4.out, by omega, A_9.out.lt, L_9.out⟩, by have := HI.out; simp [intOf]; omega⟩
    · obtain rfl : i = L := by omega
      have kd : decide ((i : Int) < (i : Int)) = false := decide_eq_false (by omega)
      have HW := Lib.hid (show wordF ws 1 = 2 * (done : Int) ∨ wordF ws 1 = 2 * (done : Int) + 1 from (Int.lt_or_le holder 0).elim (fun h => .inl (O0.out.free h).2) (fun h => by obtain ⟨_, _, _, e, _⟩ := O0.out.held h; exact .inr e))
      have HRN := Lib.hid (wordF_range K0.out 1)
      have ku9 : IntKind.u64.wrap (done : Int) = (done : Int) := u64_wrap_in (by have := HL3.out; omega)
      go_wp2_with fail
      refine (Peek_any g h _ _ 1 _ K0.out).mono ?_; rintro e w9 ⟨rfl, hb9⟩
      have kq : (wordF ws 1).tdiv 2 = (done : Int) := by
        rw [Int.tdiv_eq_ediv_of_nonneg HRN.out.1]; have := HW.out; omega
      generalize wordF ws 1 = now at *
      have kq2 : (now.tdiv 2 == (done : Int)) = true := beq_iff_eq.2 kq
      have ee : Ex (fun _ => False) wr w9 := Ex.of_below hb9
      have K_4 := Lib.hid (K0.out.ex ee (fun h => h) (fun h => h))
      have L_4 := Lib.hid (Ex.below L0.out ee (fun k hk => hk.elim))
      clear ee K0 L0 hb9
      go_wp2_with fail
      refine (awake_any _).mono ?_; rintro e wz ⟨rfl, hb⟩
      have LZ := Lib.hid (bl L_4.out hb)
      clear hb
      go_wp2_with fail
      go_ret
      exact ⟨rfl, LZ.out⟩
section
variable {H : Type} {enc : TypeId × Value → H}
set_option maxRecDepth 100000 in
theorem rows3_of_trod {W : World} {r : Reach} {b : Nat} {v : Value} {d : DataW H} {p : List MemPlace} (hv : Value.okWide Try.prog W r b 65 v) (h : DataW.Trod enc Try.prog W 0 (fun _ => true) true 65 v d p) :
    ∃ x : (Nat → Value) × (Nat → List Int), Rows3 W v x.1 x.2 :=
  rows3_any Try.underlying65 Try.underlying24 Try.underlying49 (by kernel_rfl) (by kernel_rfl) (by kernel_rfl) hv h
end
end Go.Proofs.Ytpfjadgcnaffgaa.Bank
