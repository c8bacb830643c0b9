/-
  ReadAlone, walked. Printed by wip/tools/mkra.py. No condition. By an AI agent.
-/
import Derived.Test.YtihogagnjikghaaRdA
import Derived.Test.YtihogagnjikghaaIn
namespace Go.Proofs.Ytihogagnjikghaa.Bank
set_option linter.unusedVariables false
set_option linter.unusedSimpArgs false
open Go Go.RowKit Go.Proofs.Ytihogagnjikghaa.Base

theorem alone_mid {p k : Nat} {rec ws : List Int} (hl : 1 < ws.length) (hp : 1 < p) (hpl : p + rec.length ≤ ws.length) (i : Nat) (hi : i ≤ rec.length + 2) (j : Nat) (hj : j ≠ 1) (hjp : j < p ∨ p + rec.length ≤ j) : nth (aloneW 1 p rec k ws i) j = nth ws j := by
  unfold aloneW
  split
  · rfl
  · rw [putN_nth _ _ _ _ (by rw [List.length_set]; omega), if_neg (by omega), nth_set _ _ _ _ hl, if_neg hj]
theorem alone_mid1 {p k : Nat} {rec ws : List Int} (hl : 1 < ws.length) (hp : 1 < p) (hpl : p + rec.length ≤ ws.length) (hw : nth ws 1 = 2 * (k : Int)) (i : Nat) (hi : i ≤ rec.length + 2) : nth (aloneW 1 p rec k ws i) 1 = 2 * (k : Int) ∨ nth (aloneW 1 p rec k ws i) 1 = 2 * (k : Int) + 1 := by
  unfold aloneW
  split
  · exact .inl hw
  · rw [putN_nth _ _ _ _ (by rw [List.length_set]; omega), if_neg (by omega), nth_set _ _ _ _ hl, if_pos rfl]
    exact .inr rfl
theorem plc_apart {m d : Nat} (hd : 2 ≤ d) (gen : Nat) : plc m d gen + m ≤ plc m d (gen + 1) ∨ plc m d (gen + 1) + m ≤ plc m d gen := by
  have h : gen % d ≠ (gen + 1) % d := by
    intro h
    have h1 := Nat.mod_lt gen (show d > 0 by omega)
    rw [Nat.add_mod] at h
    rw [Nat.mod_eq_of_lt (show 1 < d by omega)] at h
    rcases Nat.lt_or_ge (gen % d + 1) d with h2 | h2
    · rw [Nat.mod_eq_of_lt h2] at h; omega
    · have : gen % d + 1 = d := by omega
      rw [this, Nat.mod_self] at h; omega
  unfold plc
  rcases Nat.lt_or_gt_of_ne h with h1 | h1
  · left
    have := Nat.mul_le_mul_right m (show gen % d + 1 ≤ (gen + 1) % d from h1)
    rw [Nat.add_mul, Nat.one_mul] at this
    omega
  · right
    have := Nat.mul_le_mul_right m (show (gen + 1) % d + 1 ≤ gen % d from h1)
    rw [Nat.add_mul, Nat.one_mul] at this
    omega
set_option maxRecDepth 100000 in
set_option maxHeartbeats 16000000 in
theorem ReadAlone_walk (v : Value) (x : Nat × (Nat → Value) × (Nat → List Int)) (dd : Int) (hdd : -9223372036854775808 ≤ dd ∧ dd ≤ 9223372036854775807) (mo : Int) (hmo : -9223372036854775808 ≤ mo ∧ mo ≤ 9223372036854775807) (w : World) (hx : Rows2 w .u64 v x.1 x.2.1 x.2.2) : Calls Try.prog 6 #[v, .int .i64 dd, .int .i64 mo] w fun e w' => e = .returned (.bool true) ∧ Below w.heap.size w w' := by
  clear hdd hmo
  obtain ⟨n, vs, xs⟩ := x
  simp only at hx
  obtain ⟨A, ca, rfl, hln, hf⟩ := hx.form
  have HX := Lib.hid hx
  clear hln
  by_cases hn0 : n < 1
  · have k0 : decide ((n : Int) < 1) = true := decide_eq_true (by omega)
    clear hf
    go_enter Try.func6, Try.ntmps6
    go_wp2_with fail
    refine (awake_any _).mono ?_; rintro e w1 ⟨rfl, hb⟩
    have L1 := Lib.hid hb
    clear hb
    go_wp2_with fail
    go_ret
    exact ⟨rfl, L1.out⟩
  by_cases hn1 : 20 < n
  · have k0 : decide ((n : Int) < 1) = false := decide_eq_false (by omega)
    have k1 : decide ((n : Int) > 20) = true := decide_eq_true (by omega)
    clear hf
    go_enter Try.func6, Try.ntmps6
    go_wp2_with fail
    refine (awake_any _).mono ?_; rintro e w1 ⟨rfl, hb⟩
    have L1 := Lib.hid hb
    clear hb
    go_wp2_with fail
    go_ret
    exact ⟨rfl, L1.out⟩
  obtain ⟨b, o, rfl, hb, hcs⟩ := hf (by omega)
  obtain ⟨A0, c0, e0, hl0, hf0⟩ := (hx.rows 0 (by omega)).1.form
  have cc0 := hcs 0 (by omega)
  rw [Nat.add_zero, e0] at cc0
  have HCS := Lib.hid hcs
  have k0 : decide ((n : Int) < 1) = false := decide_eq_false (by omega)
  have k1 : decide ((n : Int) > 20) = false := decide_eq_false (by omega)
  generalize hm : (xs 0).length = m at *
  have HM := Lib.hid hm
  have HE0 := Lib.hid e0
  have HF0 := Lib.hid hf0
  clear hx hf hf0 hcs hm e0
  clear hl0
  by_cases hm0 : m < 1
  · have k2 : decide ((m : Int) < 1) = true := decide_eq_true (by omega)
    go_enter Try.func6, Try.ntmps6
    go_wp2_with fail
    refine (awake_any _).mono ?_; rintro e w1 ⟨rfl, hb⟩
    have L1 := Lib.hid hb
    clear hb
    go_wp2_with fail
    go_ret
    exact ⟨rfl, L1.out⟩
  have k2 : decide ((m : Int) < 1) = false := decide_eq_false (by omega)
  by_cases hm1 : 64 < m
  · have k3 : decide ((m : Int) > 64) = true := decide_eq_true (by omega)
    go_enter Try.func6, Try.ntmps6
    go_wp2_with fail
    refine (awake_any _).mono ?_; rintro e w1 ⟨rfl, hb⟩
    have L1 := Lib.hid hb
    clear hb
    go_wp2_with fail
    go_ret
    exact ⟨rfl, L1.out⟩
  have k3 : decide ((m : Int) > 64) = false := decide_eq_false (by omega)
  by_cases hd0 : dd < 2
  · have k4 : decide (dd < 2) = true := decide_eq_true (by omega)
    go_enter Try.func6, Try.ntmps6
    go_wp2_with fail
    refine (awake_any _).mono ?_; rintro e w1 ⟨rfl, hb⟩
    have L1 := Lib.hid hb
    clear hb
    go_wp2_with fail
    go_ret
    exact ⟨rfl, L1.out⟩
  have k4 : decide (dd < 2) = false := decide_eq_false (by omega)
  by_cases hd1 : 16 < dd
  · have k5 : decide (dd > 16) = true := decide_eq_true (by omega)
    go_enter Try.func6, Try.ntmps6
    go_wp2_with fail
    refine (awake_any _).mono ?_; rintro e w1 ⟨rfl, hb⟩
    have L1 := Lib.hid hb
    clear hb
    go_wp2_with fail
    go_ret
    exact ⟨rfl, L1.out⟩
  have k5 : decide (dd > 16) = false := decide_eq_false (by omega)
  by_cases ho0 : mo < 0
  · have k6 : decide (mo < 0) = true := decide_eq_true (by omega)
    go_enter Try.func6, Try.ntmps6
    go_wp2_with fail
    refine (awake_any _).mono ?_; rintro e w1 ⟨rfl, hb⟩
    have L1 := Lib.hid hb
    clear hb
    go_wp2_with fail
    go_ret
    exact ⟨rfl, L1.out⟩
  have k6 : decide (mo < 0) = false := decide_eq_false (by omega)
  by_cases ho1 : (m : Int) + 2 < mo
  · have k7 : decide (mo > (m : Int) + 2) = true := decide_eq_true (by omega)
    have kw9 : wrap64 ((m : Int) + 2) = (m : Int) + 2 := wrap64_in _ (by omega)
    go_enter Try.func6, Try.ntmps6
    go_wp2_with fail
    refine (awake_any _).mono ?_; rintro e w1 ⟨rfl, hb⟩
    have L1 := Lib.hid hb
    clear hb
    go_wp2_with fail
    go_ret
    exact ⟨rfl, L1.out⟩
  have k7 : decide (mo > (m : Int) + 2) = false := decide_eq_false (by omega)
  obtain ⟨d, rfl⟩ : ∃ d : Nat, dd = d := ⟨dd.toNat, by omega⟩
  obtain ⟨more, rfl⟩ : ∃ more : Nat, mo = more := ⟨mo.toNat, by omega⟩
  have kw9 : wrap64 ((m : Int) + 2) = (m : Int) + 2 := wrap64_in _ (by omega)
  have HB := Lib.hid (show (1 ≤ n ∧ n ≤ 20) ∧ (1 ≤ m ∧ m ≤ 64) ∧ (2 ≤ d ∧ d ≤ 16) ∧ more ≤ m + 2 from ⟨by omega, by omega, by omega, by omega⟩)
  go_enter Try.func6, Try.ntmps6
  go_wp2_with fail
  clear k0 k1 k2 k3 k4 k5 k6 k7 hn0 hn1 hm0 hm1 hd0 hd1 ho0 ho1 kw9
  refine (spot_in m d HB.out.2.1 HB.out.2.2.1 _).mono ?_; rintro e w1 ⟨g, h, rfl, hk, h1, h2, h3, hl⟩
  generalize hNN : 2 + m * d = N at *
  have HNN := Lib.hid hNN
  have HN5 := Lib.hid (show 4 ≤ N ∧ N ≤ 1026 by have := Nat.mul_le_mul HB.out.2.1.1 HB.out.2.2.1.1; have := mul_small HB.out.2.1.2 HB.out.2.2.1.2; omega)
  clear hNN
  have OR0 := Lib.hid (show w.heap.size ≤ h ∧ h < g ∧ g < w1.heap.size from ⟨h1, h2, h3⟩)
  have K0 := Lib.hid hk
  have L0 := Lib.hid hl
  clear hk hl h1 h2 h3
  have SB := Lib.hid (Blk.new w1 23 #[.int .i64 0, .int .i64 1, .int .i64 2, .int .i64 m, .int .i64 d])
  have S1 := Lib.hid (show w1.heap.size < (w1.alloc (.cells #[.int .i64 0, .int .i64 1, .int .i64 2, .int .i64 m, .int .i64 d] 23)).heap.size by simp)
  have ee : Ex (fun _ => False) w1 (w1.alloc (.cells #[.int .i64 0, .int .i64 1, .int .i64 2, .int .i64 m, .int .i64 d] 23)) := (Ex.refl _ w1).alloc _
  have K_1 := Lib.hid (K0.out.ex ee (fun h => h) (fun h => h))
  have L_1 := Lib.hid (Ex.below L0.out ee (fun k hk => hk.elim))
  have S_1 := Lib.hid (SB.out)
  clear ee K0 L0 SB
  go_wp2_with fail
  generalize (w1.alloc (.cells #[.int .i64 0, .int .i64 1, .int .i64 2, .int .i64 m, .int .i64 d] 23)) = w2 at *
  generalize hsb : w1.heap.size = sb at *
  have ORD := Lib.hid (show w.heap.size ≤ h ∧ h < g ∧ g < sb ∧ sb < w2.heap.size from ⟨OR0.out.1, OR0.out.2.1, OR0.out.2.2, S1.out⟩)
  clear hsb OR0 S1
  obtain ⟨w0, rfl⟩ : ∃ w0 : World, w0 = w2 := ⟨_, rfl⟩
  have HORS := Lib.hid (show sb < w0.heap.size from ORD.out.2.2.2)
  go_loopw [10] (fun iv wr => ∃ (k : Nat), k ≤ n ∧ iv = .int .i64 k ∧ (∀ j, j < k → (xs j).length = m) ∧ BankAt wr g h (zeros N) 0 ∧ Blk wr sb 23 #[.int .i64 0, .int .i64 1, .int .i64 2, .int .i64 m, .int .i64 d] ∧ Below w.heap.size w wr) (fun iv _ => n - (intOf iv).toNat)
  case atStart => exact ⟨0, by omega, rfl, fun j hj => by omega, K_1.out, S_1.out, L_1.out⟩
  case round =>
    clear K_1 S_1 L_1
    obtain ⟨k, hk, rfl, hle, hbk, hs, hl⟩ := hrel
    have K0 := Lib.hid hbk
    have S0 := Lib.hid hs
    have L0 := Lib.hid hl
    have HLE := Lib.hid hle
    clear hbk hs hl hle
    by_cases hlt : k < n
    · have kd : decide ((k : Int) < (n : Int)) = true := decide_eq_true (by omega)
      have ki0 : (0 : Int) ≤ (k : Int) := by omega
      have ki1 : (k : Int) < (n : Int) := by omega
      have ki5 : (k : Int) ≤ 20 := by have := HB.out; omega
      have HK := Lib.hid hlt
      obtain ⟨Ak, ck, ek, -, -⟩ := (HX.out.rows k hlt).1.form
      go_upto_region 9 with fail
      have hne : Nonempty (Held (fun W => W = wr.drew)) := ⟨⟨_, rfl⟩⟩
      have pk : ∀ x : Held (fun W => W = wr.drew), x.w.cell? ⟨b, o + k, none⟩ = some (.slice Ak (xs k).length ck) := fun x => by rw [x.ok, ← ek]; exact (L0.out.drew.cell (p := ⟨b, o + k, none⟩) hb).trans (HCS.out k hlt)
      have p0 : ∀ x : Held (fun W => W = wr.drew), x.w.cell? ⟨b, o, none⟩ = some (.slice A0 m c0) := fun x => by rw [x.ok]; exact (L0.out.drew.cell (p := ⟨b, o, none⟩) hb).trans cc0
      clear ek
      generalize hlk : (xs k).length = lk at *
      refine drawn_bars (S := fun _ => True) [] [0, 1, 2, 3, 4, 5, 6, 7, 8, 9] (by kernel_rfl) (by kernel_rfl) (by kernel_rfl) rfl trivial ?_
      refine Phased.end_ ?_
      simp only [pick, List.map_cons, List.map_nil, List.getElem?_cons_zero, List.getElem?_cons_succ, Option.getD_some]
      repeat (go_big_quiet_step (fail))
      refine wpQuiet_nil ?_
      clear hne pk p0
      have ee : Ex (fun _ => False) wr wr.drew := (Ex.refl _ wr).drew
      have K_2 := Lib.hid (K0.out.ex ee (fun h => h) (fun h => h))
      have S_2 := Lib.hid (S0.out.ex ee (fun h => h))
      have L_2 := Lib.hid (Ex.below L0.out ee (fun k hk => hk.elim))
      clear ee K0 S0 L0
      generalize wr.drew = wd at *
      by_cases hmk : lk = m
      case neg =>
        have hne : ((lk : Int) != (m : Int)) = true := by rw [bne_iff_ne]; omega
        go_wp2_with fail
        refine (awake_any _).mono ?_; rintro e wz ⟨rfl, hb⟩
        have LZ := Lib.hid (bl L_2.out hb)
        clear hb
        go_wp2_with fail
        go_ret
        exact ⟨rfl, LZ.out⟩
      have hmk1 : ((lk : Int) != (m : Int)) = false := by rw [hmk]; simp
      have HMK := Lib.hid (hlk.trans hmk)
      clear hmk hlk
      go_wp2_with fail
      go_roundw
      case rel => exact ⟨k + 1, by omega, by go_num, fun j hj => by
        by_cases h : j = k
        · rw [h]; exact HMK.out
        · exact HLE.out j (by omega), K_2.out, S_2.out, L_2.out⟩
      case measure => simp [intOf]; omega
    · have hkn : n = k := by omega
      subst hkn
      have kd : decide ((n : Int) < (n : Int)) = false := decide_eq_false (by omega)
      go_wp2_with fail
      have HMS := Lib.hid (show wordF (zeros N) 1 = 0 by unfold wordF; split; exact nth_zeros _ _; rfl)
      have HORB := Lib.hid (Nat.lt_of_lt_of_le S0.out.lt (Nat.le_refl _))
      obtain ⟨wk, rfl⟩ : ∃ wk : World, wk = wr := ⟨_, rfl⟩
      go_loopw [11] (fun iv wr => ∃ (k : Nat) (ws : List Int) (t : Int), k ≤ n ∧ iv = .int .i64 k ∧ BankAt wr g h ws t ∧ Blk wr sb 23 #[.int .i64 0, .int .i64 1, .int .i64 2, .int .i64 m, .int .i64 d] ∧ (ws.length = N ∧ nth ws 1 = 2 * (k : Int) ∧ (1 ≤ k → ∀ j, j < m → nth ws (plc m d k + j) = nth (xs (k - 1)) j)) ∧ Below w.heap.size w wr) (fun iv _ => n - (intOf iv).toNat)
      case atStart => exact ⟨0, zeros N, 0, by omega, rfl, K0.out, S0.out, ⟨zeros_len _, by rw [nth_zeros]; rfl, fun h => by omega⟩, L0.out⟩
      case round =>
        clear K0 S0 L0 HORB HORS
        obtain ⟨k, ws, t, hk, rfl, hbk, hs, hpw, hl⟩ := hrel
        have K0 := Lib.hid hbk
        have S0 := Lib.hid hs
        have L0 := Lib.hid hl
        have PW := Lib.hid hpw
        clear hbk hs hl hpw
        by_cases hlt : k < n
        · have kd : decide ((k : Int) < (n : Int)) = true := decide_eq_true (by omega)
          have ki0 : (0 : Int) ≤ (k : Int) := by omega
          have ki1 : (k : Int) < (n : Int) := by omega
          have ki5 : (k : Int) ≤ 20 := by have := HB.out; omega
          have HK := Lib.hid hlt
          obtain ⟨Ak, ck, ek, -, hfk⟩ := (HX.out.rows k hlt).1.form
          have HWF := Lib.hid (fun y hy => u64_bounds ((HX.out.rows k hlt).2 y hy))
          have HMK := Lib.hid (HLE.out k hlt)
          obtain ⟨bk, ok, rfl, hbk, hck⟩ := hfk (by intro hh; have := HMK.out; rw [hh] at this; simp at this; have := HB.out.2.1; omega)
          rw [HMK.out] at ek
          go_upto_region 14 with fail
          have HP := Lib.hid (publish_any g h ws t m d k bk ok ck (xs k) wr.drew HB.out.2.1 HB.out.2.2.1 (by have := HB.out; have := HK.out; omega) HMK.out HWF.out (K0.out.drewN 1) (by rw [PW.out.1]; exact HNN.out.symm) PW.out.2.1 (Nat.lt_of_lt_of_le hbk L0.out.size) ⟨K0.out.head.lt, K0.out.row.lt⟩ (fun i hi => (L0.out.drew.cell (p := ⟨bk, ok + i, none⟩) hbk).trans (hck i (by rw [HMK.out]; exact hi))))
          have HEND := Lib.hid (fun j => alone_end (p := plc m d (k + 1)) (k := k) (rec := xs k) (ws := ws) (by have := PW.out.1; have := HN5.out; omega) (by unfold plc; omega) (by rw [PW.out.1, HMK.out, ← HNN.out]; exact plc_fit HB.out.2.1 HB.out.2.2.1 (k + 1)) (by have := HMK.out; have := HB.out.2.1; omega) j)
          have HLN := Lib.hid (aloneW_len (q := 1) (p := plc m d (k + 1)) (k := k) (rec := xs k) (ws := ws) (m + 3))
          rw [HMK.out] at HEND
          unfold Spot.val spotOf at HP
          simp only at HP
          clear hck hfk
          generalize aloneW 1 (plc m d (k + 1)) (xs k) k ws (m + 3) = wz at *
          generalize tickN t (m + 3) = tz at *
          have hne : Nonempty (Held (Ex (fun q => q = g ∨ q = h) wr)) := ⟨⟨wr, Ex.refl _ _⟩⟩
          have pk : ∀ x : Held (Ex (fun q => q = g ∨ q = h) wr), x.w.cell? ⟨b, o + k, none⟩ = some (.slice (some ⟨bk, ok, none⟩) m ck) := fun x => by rw [← ek]; exact (Ex.below L0.out x.ok (fun q hq => by have o_ := ORD.out; have hq : q = g ∨ q = h := hq; omega) |>.cell (p := ⟨b, o + k, none⟩) hb).trans (HCS.out k hlt)
          have s0 : ∀ x : Held (Ex (fun q => q = g ∨ q = h) wr), x.w.cell? ⟨sb, 0, none⟩ = some (.int .i64 0) := fun x => (S0.out.ex x.ok (by have := ORD.out; omega)).cell 0
          have s1 : ∀ x : Held (Ex (fun q => q = g ∨ q = h) wr), x.w.cell? ⟨sb, 1, none⟩ = some (.int .i64 1) := fun x => (S0.out.ex x.ok (by have := ORD.out; omega)).cell 1
          have s2 : ∀ x : Held (Ex (fun q => q = g ∨ q = h) wr), x.w.cell? ⟨sb, 2, none⟩ = some (.int .i64 2) := fun x => (S0.out.ex x.ok (by have := ORD.out; omega)).cell 2
          have s3 : ∀ x : Held (Ex (fun q => q = g ∨ q = h) wr), x.w.cell? ⟨sb, 3, none⟩ = some (.int .i64 m) := fun x => (S0.out.ex x.ok (by have := ORD.out; omega)).cell 3
          have s4 : ∀ x : Held (Ex (fun q => q = g ∨ q = h) wr), x.w.cell? ⟨sb, 4, none⟩ = some (.int .i64 d) := fun x => (S0.out.ex x.ok (by have := ORD.out; omega)).cell 4
          refine drawn_bars (S := Ex (fun q => q = g ∨ q = h) wr) [([0, 1, 2, 3, 4, 5], 6)] [7] (by kernel_rfl) (by kernel_rfl) (by kernel_rfl) rfl (Ex.refl _ _).drew ?_
          refine Phased.go ?_
          simp only [pick, List.map_cons, List.map_nil, List.getElem?_cons_zero, List.getElem?_cons_succ, Option.getD_some]
          repeat (go_big_quiet_step (fail))
          refine wpQuiet_nil ?_
          go_wp2_with fail
          refine HP.out.mono ?_; rintro e w5 ⟨rfl, hk5, hx5⟩
          have hx6 := (Ex.refl (fun q => q = g ∨ q = h) wr).drew.trans hx5
          go_wp2_with fail
          refine behind_normal ⟨Ex (fun q => q = g ∨ q = h) wr, fun W h => h, hx6, ?_⟩
          refine Phased.end_ ?_
          have hne5 : Nonempty (Held (fun W => W = w5)) := ⟨⟨_, rfl⟩⟩
          simp only [pick, List.map_cons, List.map_nil, List.getElem?_cons_zero, List.getElem?_cons_succ, Option.getD_some]
          repeat (go_big_quiet_step (fail))
          refine wpQuiet_nil ?_
          clear hne hne5 pk s0 s1 s2 s3 s4 HP hx5
          have ee : Ex (fun k => k = g ∨ k = h) wr w5 := hx6
          have S_2 := Lib.hid (S0.out.ex ee (by have o_ := ORD.out; omega))
          have L_2 := Lib.hid (Ex.below L0.out ee (fun k hk => by have o_ := ORD.out; have hk : k = g ∨ k = h := hk; omega))
          have K_2 := Lib.hid (hk5)
          clear ee K0 S0 L0 hx6 hk5
          go_wp2_with fail
          go_roundw
          case rel => exact ⟨k + 1, wz, tz, by omega, by go_num, K_2.out, S_2.out, ⟨by rw [HLN.out]; exact PW.out.1, by rw [HEND.out 1, if_pos rfl]; omega, fun _ j hj => by rw [HEND.out, if_neg (by unfold plc; omega), if_pos ⟨by omega, by omega⟩, Nat.add_sub_cancel]; congr 1; omega⟩, L_2.out⟩
          case measure => simp [intOf]; omega
        · have hkn : n = k := by omega
          subst hkn
          have kd : decide ((n : Int) < (n : Int)) = false := decide_eq_false (by omega)
          clear hk
          have HREC := Lib.hid (PW.out.2.2 HB.out.1.1)
          have HML := Lib.hid (HLE.out (n - 1) (by have := HB.out; omega))
          have HWF0 := Lib.hid (fun y hy => u64_bounds ((HX.out.rows 0 HB.out.1.1).2 y hy))
          obtain ⟨bk, ok, rfl, hbk, hck⟩ := HF0.out (by intro hh; have := HM.out; rw [hh] at this; simp at this; have := HB.out.2.1; omega)
          go_upto_region 16 with fail
          have hmay : mayF (spotOf m d) 1 = true := spot_right HB.out.2.1 HB.out.2.2.1 1 (by omega)
          have HMAY := Lib.hid hmay
          have HN := Lib.hid (WNew_in (spotOf m d) 1 bk ok m c0 (xs 0) wr.drew hmay rfl HM.out (Nat.lt_of_lt_of_le hbk L0.out.size) (fun i hi => (L0.out.drew.cell (p := ⟨bk, ok + i, none⟩) hbk).trans (hck i hi)))
          unfold Spot.val spotOf at HN
          simp only at HN
          clear hck hmay
          have kn9 : (1 : Int) ≤ (n : Int) := by have := HB.out; omega
          have hne : Nonempty (Held (Below wr.heap.size wr)) := ⟨⟨wr, Below.refl _ _⟩⟩
          have p0 : ∀ x : Held (Below wr.heap.size wr), x.w.cell? ⟨b, o, none⟩ = some (.slice (some ⟨bk, ok, none⟩) m c0) := fun x => ((bl L0.out x.ok).cell (p := ⟨b, o, none⟩) hb).trans cc0
          have s0 : ∀ x : Held (Below wr.heap.size wr), x.w.cell? ⟨sb, 0, none⟩ = some (.int .i64 0) := fun x => (S0.out.bl x.ok).cell 0
          have s1 : ∀ x : Held (Below wr.heap.size wr), x.w.cell? ⟨sb, 1, none⟩ = some (.int .i64 1) := fun x => (S0.out.bl x.ok).cell 1
          have s2 : ∀ x : Held (Below wr.heap.size wr), x.w.cell? ⟨sb, 2, none⟩ = some (.int .i64 2) := fun x => (S0.out.bl x.ok).cell 2
          have s3 : ∀ x : Held (Below wr.heap.size wr), x.w.cell? ⟨sb, 3, none⟩ = some (.int .i64 m) := fun x => (S0.out.bl x.ok).cell 3
          have s4 : ∀ x : Held (Below wr.heap.size wr), x.w.cell? ⟨sb, 4, none⟩ = some (.int .i64 d) := fun x => (S0.out.bl x.ok).cell 4
          refine drawn_bars (S := Below wr.heap.size wr) [([0, 1, 2, 3], 4)] [5, 6, 7, 8, 9] (by kernel_rfl) (by kernel_rfl) (by kernel_rfl) rfl (Below.refl _ _).drew ?_
          refine Phased.go ?_
          simp only [pick, List.map_cons, List.map_nil, List.getElem?_cons_zero, List.getElem?_cons_succ, Option.getD_some]
          repeat (go_big_quiet_step (fail))
          refine wpQuiet_nil ?_
          go_wp2_with fail
          refine HN.out.mono ?_; rintro e w4 ⟨op, r, cc, rfl, ho, q1, q2, hl4⟩
          have hl5 := bl ((Below.refl wr.heap.size wr).drew) hl4
          go_wp2_with fail
          refine behind_normal ⟨Below wr.heap.size wr, fun W h => h, hl5, ?_⟩
          refine Phased.end_ ?_
          have hne4 : Nonempty (Held (fun W => W = w4)) := ⟨⟨_, rfl⟩⟩
          simp only [pick, List.map_cons, List.map_nil, List.getElem?_cons_zero, List.getElem?_cons_succ, Option.getD_some]
          repeat (go_big_quiet_step (fail))
          refine wpQuiet_nil ?_
          clear hne4 hne p0 s0 s1 s2 s3 s4 HN hl4
          have OR2 := Lib.hid (show w.heap.size ≤ h ∧ h < g ∧ g < sb ∧ sb < r ∧ r < op from ⟨ORD.out.1, ORD.out.2.1, ORD.out.2.2.1, Nat.lt_of_lt_of_le S0.out.lt q1, q2⟩)
          clear q1 q2
          have ee : Ex (fun _ => False) wr w4 := Ex.of_below hl5
          have K_2 := Lib.hid (K0.out.ex ee (fun h => h) (fun h => h))
          have S_2 := Lib.hid (S0.out.ex ee (fun h => h))
          have L_2 := Lib.hid (Ex.below L0.out ee (fun k hk => hk.elim))
          have O_2 := Lib.hid (ho)
          clear ee K0 S0 L0 hl5 ho
          have HN := Lib.hid (RNew_in (spotOf m d) 1 w4 HMAY.out)
          rw [show (spotOf (m : Int) d).words.toNat = m by unfold spotOf; simp only; omega] at HN
          unfold Spot.val spotOf at HN
          simp only at HN
          have Sq0 := (S_2.out).cell 0
          have Sq1 := (S_2.out).cell 1
          have Sq2 := (S_2.out).cell 2
          have Sq3 := (S_2.out).cell 3
          have Sq4 := (S_2.out).cell 4
          simp only [List.getElem?_toArray, List.getElem?_cons_succ, List.getElem?_cons_zero] at Sq0 Sq1 Sq2 Sq3 Sq4
          go_wp2_with fail
          refine HN.out.mono ?_; rintro e w5 ⟨po, pr, rfl, ho, q1, q2, hl5⟩
          have OR3 := Lib.hid (show w.heap.size ≤ h ∧ h < g ∧ g < sb ∧ sb < r ∧ r < op ∧ op < pr ∧ pr < po from ⟨OR2.out.1, OR2.out.2.1, OR2.out.2.2.1, OR2.out.2.2.2.1, OR2.out.2.2.2.2, Nat.lt_of_lt_of_le O_2.out.head.lt q1, q2⟩)
          clear HN q1 q2 OR2
          clear Sq0 Sq1 Sq2 Sq3 Sq4
          have ee : Ex (fun _ => False) w4 w5 := Ex.of_below hl5
          have K_3 := Lib.hid (K_2.out.ex ee (fun h => h) (fun h => h))
          have S_3 := Lib.hid (S_2.out.ex ee (fun h => h))
          have O_3 := Lib.hid (O_2.out.ex ee (fun h => h) (fun h => h))
          have L_3 := Lib.hid (Ex.below L_2.out ee (fun k hk => hk.elim))
          have P_3 := Lib.hid (ho)
          clear ee K_2 S_2 O_2 L_2 hl5 ho
          go_wp2_with fail
          have HPF := Lib.hid (plc_fit HB.out.2.1 HB.out.2.2.1 (n + 1))
          have HPF0 := Lib.hid (plc_fit HB.out.2.1 HB.out.2.2.1 n)
          have HAP := Lib.hid (plc_apart (m := m) HB.out.2.2.1.1 n)
          have HST := Lib.hid (fun i (hi : i < m + 3) => alone_step (s := spotOf m d) (rec := xs 0) (tries := 1) (k := n) (p := plc m d (n + 1)) (ws := ws) (q := 1) (t := t) (by rw [HM.out]; exact HB.out.2.1.1) rfl (by rw [PW.out.1]; have := HN5.out; omega) PW.out.2.1 (by have := HB.out; omega) (plc_at HB.out.2.1 HB.out.2.2.1 (n + 1)) (by rw [HM.out, PW.out.1, ← HNN.out]; exact HPF.out) (by unfold plc; omega) i (by rw [HM.out]; exact hi))
          rw [HM.out] at HST
          have HWI := Lib.hid (WInv.zero_ (s := spotOf m d) (rec := xs 0) HMAY.out (by rw [HM.out]; rfl) HWF0.out)
          have km9 : (more : Int) ≤ 66 := by have := HB.out; omega
          obtain ⟨wk2, rfl⟩ : ∃ wk : World, wk = w5 := ⟨_, rfl⟩
          go_loopw [16] (fun iv wr => ∃ i : Nat, i ≤ more ∧ iv = .int .i64 i ∧ BankAt wr g h (aloneW 1 (plc m d (n + 1)) (xs 0) n ws i) (tickN t i) ∧ OpAt wr op r cc (spotOf m d) (xs 0) 1 (aloneX m n i) ∧ WInv (spotOf m d) (xs 0) 1 (aloneX m n i) ∧ RdAt wr po pr (spotOf m d) 1 RS.zero (zeros m) ∧ Below w.heap.size w wr) (fun iv _ => more - (intOf iv).toNat)
          case atStart => exact ⟨0, by omega, rfl, K_3.out, O_3.out, HWI.out, P_3.out, L_3.out⟩
          case round =>
            clear K_3 S_3 O_3 P_3 L_3 HWI
            obtain ⟨i, hi, rfl, hbk2, ho2, hwi, hp2, hl2⟩ := hrel
            have K0 := Lib.hid hbk2
            have O0 := Lib.hid ho2
            have WI := Lib.hid hwi
            have P0 := Lib.hid hp2
            have L0 := Lib.hid hl2
            clear hbk2 ho2 hwi hp2 hl2
            by_cases him : i < more
            · have kd2 : decide ((i : Int) < (more : Int)) = true := decide_eq_true (by omega)
              have ki5 : (i : Int) ≤ 66 := by omega
              have HS := Lib.hid (HST.out i (by have := HB.out; omega))
              have HW := Lib.hid (WI.out.step (aloneW 1 (plc m d (n + 1)) (xs 0) n ws i) (tickN t i) K0.out.fit)
              rw [HS.out] at HW
              go_wp2_with fail
              refine (WStep_any g h op r cc _ _ (spotOf m d) (xs 0) 1 (aloneX m n i) _ K0.out O0.out WI.out (by have o_ := OR3.out; omega)).mono ?_; rintro e w6 ⟨rfl, hk6, ho6, hx6⟩
              rw [HS.out] at hk6 ho6
              have ee : Ex (fun k => k = g ∨ k = h ∨ k = op) wr w6 := hx6
              have P_4 := Lib.hid (P0.out.ex ee (by have o_ := OR3.out; omega) (by have o_ := OR3.out; omega))
              have L_4 := Lib.hid (Ex.below L0.out ee (fun k hk => by have o_ := OR3.out; have hk : k = g ∨ k = h ∨ k = op := hk; omega))
              have K_4 := Lib.hid (hk6)
              have O_4 := Lib.hid (ho6)
              clear ee K0 O0 P0 L0 hk6 ho6 hx6
              go_wp2_with fail
              go_roundw
              case rel => exact ⟨i + 1, by omega, by go_num, K_4.out, O_4.out, HW.out, P_4.out, L_4.out⟩
              case measure => simp [intOf]; omega
            · have hkm : more = i := by omega
              subst hkm
              have kd2 : decide ((more : Int) < (more : Int)) = false := decide_eq_false (by omega)
              clear O0 WI HST hi him
              have HMID := Lib.hid (fun j (hj : j < m) => show nth (aloneW 1 (plc m d (n + 1)) (xs 0) n ws more) (plc m d n + j) = nth (xs (n - 1)) j by
                rw [alone_mid (by rw [PW.out.1]; have := HN5.out; omega) (by unfold plc; omega) (by rw [HM.out, PW.out.1, ← HNN.out]; exact HPF.out) more (by rw [HM.out]; have := HB.out; omega) _ (by unfold plc; omega) (by rw [HM.out]; have := HAP.out; omega)]
                exact HREC.out j hj)
              have HLZ := Lib.hid (show (aloneW 1 (plc m d (n + 1)) (xs 0) n ws more).length = N by rw [aloneW_len]; exact PW.out.1)
              have HM1 := Lib.hid (alone_mid1 (p := plc m d (n + 1)) (k := n) (rec := xs 0) (ws := ws) (by rw [PW.out.1]; have := HN5.out; omega) (by unfold plc; omega) (by rw [HM.out, PW.out.1, ← HNN.out]; exact HPF.out) PW.out.2.1 more (by rw [HM.out]; have := HB.out; omega))
              generalize aloneW 1 (plc m d (n + 1)) (xs 0) n ws more = wz at *
              generalize tickN t more = tz at *
              have HW1 := Lib.hid (show wordF wz 1 = 2 * (n : Int) ∨ wordF wz 1 = 2 * (n : Int) + 1 by
                have a := wordF_nat wz 1 (by rw [HLZ.out]; have := HN5.out; omega)
                rw [show ((1 : Nat) : Int) = 1 from rfl] at a
                rw [a]; exact HM1.out)
              clear HM1
              go_wp2_with fail
              refine (Clone_ex g h wz tz _ K0.out).mono ?_; rintro e w7 ⟨g2, h2, rfl, hk2, q1, q2, q3, hl2⟩
              have OR4 := Lib.hid (show w.heap.size ≤ h ∧ h < g ∧ g < pr ∧ pr < po ∧ po < h2 ∧ h2 < g2 from ⟨OR3.out.1, OR3.out.2.1, by have := OR3.out; omega, OR3.out.2.2.2.2.2.2, Nat.lt_of_lt_of_le P0.out.head.lt q1, q2⟩)
              clear q1 q2 q3 OR3
              have ee : Ex (fun _ => False) wr w7 := Ex.of_below hl2
              have K_4 := Lib.hid (K0.out.ex ee (fun h => h) (fun h => h))
              have P_4 := Lib.hid (P0.out.ex ee (fun h => h) (fun h => h))
              have L_4 := Lib.hid (Ex.below L0.out ee (fun k hk => hk.elim))
              have C_4 := Lib.hid (hk2)
              clear ee K0 P0 L0 hl2 hk2
              have c0w := (L_4.out.cell (p := ⟨b, o, none⟩) hb).trans cc0
              have hw3 : wrap64 ((m : Int) + 2) = (m : Int) + 2 := wrap64_in _ (by have := HB.out.2.1; omega)
              have hmi0 : (1 : Int) ≤ (m : Int) := by have := HB.out.2.1; omega
              have hmi1 : (m : Int) ≤ 64 := by have := HB.out.2.1; omega
              go_wp2_with fail
              clear c0w hw3 kd
              have HG0 := Lib.hid (rdG_zero wz (plc m d n) m 0 (by omega))
              have HI0 := Lib.hid (show RInv (spotOf m d) 1 (rdX m n 0) (rdG wz (plc m d n) m 0) by
                rw [HG0.out]
                have := RInv.zero_ HMAY.out
                rw [show (spotOf (m : Int) d).words.toNat = m by unfold spotOf; simp only; omega] at this
                exact this)
              have HST := Lib.hid (fun i (hi : i < m + 2) => rd_step (m := m) (d := d) (gen := n) (ws := wz) HB.out.2.1 HB.out.2.2.1 (by unfold inW; rw [HLZ.out]; have := HN5.out; omega) (by have := HW1.out; omega) (by have := HW1.out; have := HB.out; omega) 1 tz i hi (fun _ _ => by rw [HLZ.out, ← HNN.out]; have := HPF0.out; omega))
              obtain ⟨wk3, rfl⟩ : ∃ wk : World, wk = w7 := ⟨_, rfl⟩
              go_loopw [19, 20, 21] (fun iv tv hv wr => ∃ i : Nat, 1 ≤ i ∧ i ≤ m + 3 ∧ iv = .int .i64 i ∧ BankAt wr g h wz (tickN tz (i - 1)) ∧ BankAt wr g2 h2 wz tz ∧ RdAt wr po pr (spotOf m d) 1 (rdX m n (i - 1)) (rdG wz (plc m d n) m (i - 1)) ∧ RInv (spotOf m d) 1 (rdX m n (i - 1)) (rdG wz (plc m d n) m (i - 1)) ∧ Below w.heap.size w wr) (fun iv _ _ _ => m + 3 - (intOf iv).toNat)
              case atStart => exact ⟨1, by omega, by omega, rfl, K_4.out, C_4.out, by rw [show (1 : Nat) - 1 = 0 from rfl, HG0.out]; exact P_4.out, HI0.out, L_4.out⟩
              case round =>
                clear K_4 C_4 P_4 L_4 HI0 HG0
                obtain ⟨i, hi1, hi2, rfl, hbk2, hc2, ho2, hri, hl2⟩ := hrel
                obtain ⟨j, rfl⟩ : ∃ j, i = j + 1 := ⟨i - 1, by omega⟩
                rw [Nat.add_sub_cancel] at hbk2 ho2 hri
                have K0 := Lib.hid hbk2
                have C0 := Lib.hid hc2
                have P0 := Lib.hid ho2
                have RI := Lib.hid hri
                have L0 := Lib.hid hl2
                clear hbk2 hc2 ho2 hri hl2
                by_cases hji : j < m + 2
                · have kd2 : decide (((j : Int) + 1) ≤ (m : Int) + 2) = true := decide_eq_true (by omega)
                  have HS := Lib.hid (HST.out j hji)
                  have HW := Lib.hid (RI.out.step wz (tickN tz j) K0.out.fit)
                  rw [HS.out] at HW
                  have HHOW := Lib.hid (rdX_how m n (j + 1) (by omega))
                  have HSTEPS := Lib.hid (rdX_steps m n (j + 1) (by omega))
                  go_wp2_with fail
                  refine (Touches_any g h _ _ _ K0.out).mono ?_; rintro e w8 ⟨rfl, rfl⟩
                  go_wp2_with fail
                  refine (RStep_any g h po pr _ _ (spotOf m d) 1 _ _ _ K0.out P0.out RI.out (by have o_ := OR4.out; omega)).mono ?_; rintro e w9 ⟨rfl, hk6, ho6, hx6⟩
                  rw [HS.out] at hk6 ho6
                  rw [HS.out]
                  have ee : Ex (fun k => k = g ∨ k = h ∨ k = po ∨ k = pr) wr w9 := hx6
                  have C_5 := Lib.hid (C0.out.ex ee (by have o_ := OR4.out; omega) (by have o_ := OR4.out; omega))
                  have L_5 := Lib.hid (Ex.below L0.out ee (fun k hk => by have o_ := OR4.out; have hk : k = g ∨ k = h ∨ k = po ∨ k = pr := hk; omega))
                  have K_5 := Lib.hid (hk6)
                  have P_5 := Lib.hid (ho6)
                  clear ee K0 C0 P0 L0 hx6 hk6 ho6
                  rw [HHOW.out]
                  by_cases hq : j + 1 = m + 2
                  · rw [if_pos hq]
                    have q1 : ((j : Int) + 1 == (m : Int) + 2) = true := beq_iff_eq.2 (by omega)
                    have q2 : decide ((j : Int) + 1 < (m : Int) + 2) = false := decide_eq_false (by omega)
                    clear hq
                    go_wp2_with fail
                    refine (Touches_any g h _ _ _ K_5.out).mono ?_; rintro e w10 ⟨rfl, rfl⟩
                    have ht1 : wrap64 (tickN tz j + 1) = tickN tz (j + 1) := (i64_wrap64 _).symm
                    go_wp2_with fail
                    clear ht1
                    refine (RSteps_any po pr (spotOf m d) 1 _ _ _ P_5.out).mono ?_; rintro e w10 ⟨rfl, rfl⟩
                    rw [HSTEPS.out]
                    go_wp2_with fail
                    exact ⟨⟨j + 2, by omega, by omega, by go_num, K_5.out, C_5.out, P_5.out, HW.out, L_5.out⟩, by simp [intOf]; omega⟩
                  · rw [if_neg hq]
                    have q1 : ((j : Int) + 1 == (m : Int) + 2) = false := beq_eq_false_iff_ne.2 (by omega)
                    have q2 : decide ((j : Int) + 1 < (m : Int) + 2) = true := decide_eq_true (by omega)
                    clear hq
                    go_wp2_with fail
                    refine (Touches_any g h _ _ _ K_5.out).mono ?_; rintro e w10 ⟨rfl, rfl⟩
                    have ht1 : wrap64 (tickN tz j + 1) = tickN tz (j + 1) := (i64_wrap64 _).symm
                    go_wp2_with fail
                    clear ht1
                    refine (RSteps_any po pr (spotOf m d) 1 _ _ _ P_5.out).mono ?_; rintro e w10 ⟨rfl, rfl⟩
                    rw [HSTEPS.out]
                    go_wp2_with fail
                    exact ⟨⟨j + 2, by omega, by omega, by go_num, K_5.out, C_5.out, P_5.out, HW.out, L_5.out⟩, by simp [intOf]; omega⟩
                · obtain rfl : j = m + 2 := by omega
                  have kd2 : decide ((m : Int) + 2 + 1 ≤ (m : Int) + 2) = false := decide_eq_false (by omega)
                  have HGR := Lib.hid (show rdG wz (plc m d n) m (m + 2) = xs (n - 1) by rw [rdG_end _ _ _ _ (by omega)]; exact rd_range HML.out HMID.out)
                  have HXE := Lib.hid (rdX_end m n)
                  rw [HXE.out, HGR.out] at P0 RI
                  clear HGR HXE HST hi1 hi2 hji
                  generalize tickN tz (m + 2) = tq at *
                  go_wp2_with fail
                  obtain ⟨wk4, rfl⟩ : ∃ wk : World, wk = wr := ⟨_, rfl⟩
                  go_loopw [22] (fun iv wr => ∃ i : Nat, i ≤ N ∧ iv = .int .i64 i ∧ BankAt wr g h wz tq ∧ BankAt wr g2 h2 wz tz ∧ RdAt wr po pr (spotOf m d) 1 ⟨1, 2, 0, n, m, 1, m + 2⟩ (xs (n - 1)) ∧ Below w.heap.size w wr) (fun iv _ => N - (intOf iv).toNat)
                  case atStart => exact ⟨0, by omega, rfl, K0.out, C0.out, P0.out, L0.out⟩
                  case round =>
                    clear K0 C0 P0 L0
                    obtain ⟨i, hi2, rfl, hbk2, hc2, ho2, hl2⟩ := hrel
                    have K0 := Lib.hid hbk2
                    have C0 := Lib.hid hc2
                    have P0 := Lib.hid ho2
                    have L0 := Lib.hid hl2
                    clear hbk2 hc2 ho2 hl2
                    go_wp2_with fail
                    refine (Len_any g h _ _ _ K0.out).mono ?_; rintro e w10 ⟨rfl, rfl⟩
                    rw [HLZ.out]
                    by_cases hiz : i < N
                    · have kd3 : decide ((i : Int) < (N : Int)) = true := decide_eq_true (by omega)
                      have kz9 : (wordF wz (i : Int) != wordF wz (i : Int)) = false := by simp
                      have hi5 : (i : Int) ≤ 1026 := by have := HN5.out; omega
                      go_wp2_with fail
                      refine (Peek_any g h _ _ (i : Int) _ K0.out).mono ?_; rintro e w11 ⟨rfl, hb5⟩
                      have ee : Ex (fun _ => False) wr w11 := Ex.of_below hb5
                      have K_5 := Lib.hid (K0.out.ex ee (fun h => h) (fun h => h))
                      have C_5 := Lib.hid (C0.out.ex ee (fun h => h) (fun h => h))
                      have P_5 := Lib.hid (P0.out.ex ee (fun h => h) (fun h => h))
                      have L_5 := Lib.hid (Ex.below L0.out ee (fun k hk => hk.elim))
                      clear ee K0 C0 P0 L0 hb5
                      go_wp2_with fail
                      refine (Peek_any g2 h2 _ _ (i : Int) _ C_5.out).mono ?_; rintro e w12 ⟨rfl, hb5⟩
                      have ee : Ex (fun _ => False) w11 w12 := Ex.of_below hb5
                      have K_6 := Lib.hid (K_5.out.ex ee (fun h => h) (fun h => h))
                      have C_6 := Lib.hid (C_5.out.ex ee (fun h => h) (fun h => h))
                      have P_6 := Lib.hid (P_5.out.ex ee (fun h => h) (fun h => h))
                      have L_6 := Lib.hid (Ex.below L_5.out ee (fun k hk => hk.elim))
                      clear ee K_5 C_5 P_5 L_5 hb5
                      go_wp2_with fail
                      go_roundw
                      case rel =>
                        repeat apply Exists.intro
                        refine ⟨?_, rfl⟩
                        exact ⟨i + 1, by omega, by go_num, K_6.out, C_6.out, P_6.out, L_6.out⟩
                      case measure => simp [intOf]; omega
                    · have hiN : N = i := by omega
                      subst hiN
                      have kd3 : decide ((N : Int) < (N : Int)) = false := decide_eq_false (by omega)
                      have kn5 : (n : Int) ≤ 20 := by have := HB.out; omega
                      have kn6 : (1 : Int) ≤ (n : Int) := by have := HB.out; omega
                      have ku : IntKind.u64.wrap (n : Int) = (n : Int) := u64_wrap_in (by omega)
                      go_wp2_with fail
                      refine (RGot_done po pr (spotOf m d) 1 _ (xs (n - 1)) _ P0.out RI.out rfl).mono ?_; rintro e w11 ⟨q1, rfl, hq, hqs, hb⟩
                      rw [HML.out]
                      simp only
                      clear hqs
                      have ee : Ex (fun _ => False) wr w11 := Ex.of_below hb
                      have K_5 := Lib.hid (K0.out.ex ee (fun h => h) (fun h => h))
                      have C_5 := Lib.hid (C0.out.ex ee (fun h => h) (fun h => h))
                      have P_5 := Lib.hid (P0.out.ex ee (fun h => h) (fun h => h))
                      have L_5 := Lib.hid (Ex.below L0.out ee (fun k hk => hk.elim))
                      have Q_5 := Lib.hid (hq)
                      clear ee K0 C0 P0 L0 hb hq
                      obtain ⟨Al, cl, el, -, -⟩ := (HX.out.rows (n - 1) (by have := HB.out; omega)).1.form
                      have HIL := Lib.hid ((HX.out.rows (n - 1) (by have := HB.out; omega)).1.below L_5.out)
                      have cl9 : w11.cell? ⟨b, o + (n - 1), none⟩ = some (.slice Al (xs (n - 1)).length cl) := by rw [← el]; exact (L_5.out.cell (p := ⟨b, o + (n - 1), none⟩) hb).trans (HCS.out (n - 1) (by have := HB.out; omega))
                      rw [el] at HIL
                      rw [HML.out] at cl9
                      have HQI := Lib.hid (Q_5.out.ints (by rw [HML.out]; have := HB.out; unfold maxLen; omega))
                      have HWD := Lib.hid (words_any _ _ (xs (n - 1)) (xs (n - 1)) _ HQI.out HIL.out (by rw [HML.out]; have := HB.out; omega))
                      rw [decide_eq_true (show xs (n - 1) = xs (n - 1) from rfl), HML.out] at HWD
                      clear el HIL HQI
                      have kw7 : wrap64 ((n : Int) - 1) = (n : Int) - 1 := wrap64_in _ (by omega)
                      have kc7 : ((n - 1 : Nat) : Int) = (n : Int) - 1 := by omega
                      have kz8 : (0 : Int) ≤ (n : Int) - 1 := by omega
                      go_wp2_with fail
                      refine HWD.out.mono ?_; rintro e w13 ⟨rfl, hb⟩
                      clear HWD cl9 kw7 kc7 kz8
                      have ee : Ex (fun _ => False) w11 w13 := Ex.of_below hb
                      have K_6 := Lib.hid (K_5.out.ex ee (fun h => h) (fun h => h))
                      have C_6 := Lib.hid (C_5.out.ex ee (fun h => h) (fun h => h))
                      have P_6 := Lib.hid (P_5.out.ex ee (fun h => h) (fun h => h))
                      have Q_6 := Lib.hid (Q_5.out.ex ee (fun h => h))
                      have L_6 := Lib.hid (Ex.below L_5.out ee (fun k hk => hk.elim))
                      clear ee K_5 C_5 P_5 Q_5 L_5 hb
                      go_wp2_with fail
                      refine (RAt_any po pr (spotOf m d) 1 _ _ _ P_6.out).mono ?_; rintro e w14 ⟨rfl, rfl⟩
                      simp only [if_true]
                      go_wp2_with fail
                      refine (awake_any _).mono ?_; rintro e wz ⟨rfl, hb⟩
                      have LZ := Lib.hid (bl L_6.out hb)
                      clear hb
                      go_wp2_with fail
                      go_ret
                      exact ⟨rfl, LZ.out⟩
section
variable {H : Type} {enc : TypeId × Value → H}
set_option maxRecDepth 100000 in
theorem rows_of_trod {W : World} {r : Reach} {b : Nat} {v : Value} {d : DataW H} {p : List MemPlace} (hv : Value.okWide Try.prog W r b 57 v) (h : DataW.Trod enc Try.prog W 0 (fun _ => true) true 57 v d p) :
    ∃ x : Nat × (Nat → Value) × (Nat → List Int), Rows2 W .u64 v x.1 x.2.1 x.2.2 :=
  rows2_of_trod Try.underlying57 Try.underlying42 Try.underlying43 (by kernel_rfl) (by kernel_rfl) hv h
end
end Go.Proofs.Ytihogagnjikghaa.Bank
