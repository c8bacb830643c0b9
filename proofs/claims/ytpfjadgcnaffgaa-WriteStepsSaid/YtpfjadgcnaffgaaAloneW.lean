/-
  WriteAlone, walked. Printed by wip/tools/mkwa.py. No condition. By an AI agent.
-/
import Derived.Test.YtpfjadgcnaffgaaWrL
import Derived.Test.YtpfjadgcnaffgaaClone
import Derived.Test.YtpfjadgcnaffgaaIn
import Derived.Deep.CutRange
namespace Go.Proofs.Ytpfjadgcnaffgaa.Bank
set_option linter.unusedVariables false
set_option linter.unusedSimpArgs false
open Go Go.RowKit Go.Proofs.Ytpfjadgcnaffgaa.Base

theorem aloneX_how (m k i : Nat) (hi : i ≤ m + 3) : (aloneX m k i).how = if i = m + 3 then 1 else 0 := by
  unfold aloneX WS.zero
  repeat' split
  all_goals first | rfl | omega
theorem aloneX_steps (m k i : Nat) (hi : i ≤ m + 3) : (aloneX m k i).steps = i := by
  unfold aloneX WS.zero
  repeat' split
  all_goals simp only <;> omega
theorem aloneX_gen (m k : Nat) (hk : k < 4611686018427387904) : (aloneX m k (m + 3)).gen = (k : Int) + 1 := by
  have e : aloneX m k (m + 3) = ⟨1, 3, 0, m + 3, 2 * k, m⟩ := by
    unfold aloneX
    rw [if_neg (by omega), if_neg (by omega), if_neg (by omega), if_neg (by omega)]
  rw [e]
  unfold WS.gen
  simp only [if_true]
  rw [show (2 * (k : Int)) / 2 + 1 = k + 1 by omega, u64_wrap_in (by omega)]
theorem alone_place {m d k : Nat} (hm : 1 ≤ m ∧ m ≤ 64) (hd : 2 ≤ d ∧ d ≤ 16) : atF (spotOf m d) ((k : Int) + 1) = ((2 + (k + 1) % d * m : Nat) : Int) ∧ 2 + (k + 1) % d * m + m ≤ 2 + m * d := by
  have h1 : (k + 1) % d < d := Nat.mod_lt _ (by omega)
  have h2 : ((k + 1) % d + 1) * m ≤ d * m := Nat.mul_le_mul_right _ h1
  rw [Nat.add_mul, Nat.one_mul, Nat.mul_comm d m] at h2
  refine ⟨?_, by omega⟩
  rw [atF_ok (by unfold Spot.AtOk spotOf; simp only; omega)]
  unfold spotOf
  simp only
  push_cast
  rfl
theorem spot_right {m d : Nat} (hm : 1 ≤ m ∧ m ≤ 64) (hd : 2 ≤ d ∧ d ≤ 16) (tries : Int) (ht : 1 ≤ tries ∧ tries ≤ 16) : mayF (spotOf m d) tries = true := by
  unfold mayF Spot.Right spotOf
  simp only
  exact decide_eq_true (by omega)
theorem alone_end {p k : Nat} {rec ws : List Int} (hl : 1 < ws.length) (hp : 1 < p) (hpl : p + rec.length ≤ ws.length) (hr : 1 ≤ rec.length) (j : Nat) :
    nth (aloneW 1 p rec k ws (rec.length + 3)) j = if j = 1 then 2 * (k : Int) + 2 else if p ≤ j ∧ j < p + rec.length then nth rec (j - p) else nth ws j := by
  unfold aloneW
  rw [if_neg (by omega), if_neg (by omega), nth_set _ _ _ _ (by rw [putN_len, List.length_set]; omega)]
  by_cases h1 : j = 1
  · rw [if_pos h1, if_pos h1]
  · rw [if_neg h1, if_neg h1, putN_nth _ _ _ _ (by rw [List.length_set]; omega)]
    by_cases h2 : p ≤ j ∧ j < p + rec.length
    · rw [if_pos h2, if_pos h2]
    · rw [if_neg h2, if_neg h2, nth_set _ _ _ _ hl, if_neg h1]
theorem aloneW_len {q p k : Nat} {rec ws : List Int} (i : Nat) : (aloneW q p rec k ws i).length = ws.length := by
  unfold aloneW
  split
  · rfl
  · split
    · rw [putN_len, List.length_set]
    · rw [List.length_set, putN_len, List.length_set]
theorem i64_wrap64 (x : Int) : IntKind.i64.wrap x = wrap64 x := by
  unfold wrap64 IntKind.wrap
  have e1 : (2 : Int) ^ IntKind.i64.bits = 18446744073709551616 := by decide
  have e2 : (2 : Int) ^ (IntKind.i64.bits - 1) = 9223372036854775808 := by decide
  have e3 : IntKind.i64.signed = true := rfl
  simp only [e1, e2, e3, Bool.true_and, decide_eq_true_eq]
  split <;> omega
theorem nth_zeros (n i : Nat) : nth (zeros n) i = 0 := by
  unfold nth zeros
  rw [List.getD_eq_getElem?_getD, List.getElem?_replicate]
  split <;> rfl
theorem Clone_ex (g h : Nat) (ws : List Int) (t : Int) (w : World) (hb : BankAt w g h ws t) :
    Calls Try.prog 25 #[.pointer (some ⟨g, 0, none⟩)] w fun e w' => ∃ g2 h2, e = .returned (.pointer (some ⟨g2, 0, none⟩)) ∧ BankAt w' g2 h2 ws t ∧ w.heap.size ≤ h2 ∧ h2 < g2 ∧ g2 < w'.heap.size ∧ Below w.heap.size w w' :=
  (Clone_any g h ws t w hb).mono fun e w' ⟨he, hk, hl⟩ => ⟨_, _, he, hk, Nat.le_refl _, by omega, hk.head.lt, hl⟩

set_option maxRecDepth 100000 in
set_option maxHeartbeats 8000000 in
theorem WriteAlone_walk (v : Value) (x : Nat × (Nat → Value) × (Nat → List Int)) (dd : Int) (hdd : -9223372036854775808 ≤ dd ∧ dd ≤ 9223372036854775807) (w : World) (hx : Rows2 w .u64 v x.1 x.2.1 x.2.2) : Calls Try.prog 7 #[v, .int .i64 dd] w fun e w' => e = .returned (.bool true) ∧ Below w.heap.size w w' := by
  clear hdd
  obtain ⟨n, vs, xs⟩ := x
  simp only at hx
  obtain ⟨A, ca, rfl, hln, hf⟩ := hx.form
  have HX := Lib.hid hx
  clear hln
  by_cases hn0 : n < 1
  · have k0 : decide ((n : Int) < 1) = true := decide_eq_true (by omega)
    clear hf
    go_enter Try.func7, Try.ntmps7
    go_wp2_with fail
    refine (awake_any _).mono ?_; rintro e w1 ⟨rfl, hb⟩
    have L1 := Lib.hid hb
    clear hb
    go_wp2_with fail
    go_ret
    exact ⟨rfl, L1.out⟩
  by_cases hn1 : 12 < n
  · have k0 : decide ((n : Int) < 1) = false := decide_eq_false (by omega)
    have k1 : decide ((n : Int) > 12) = true := decide_eq_true (by omega)
    clear hf
    go_enter Try.func7, Try.ntmps7
    go_wp2_with fail
    refine (awake_any _).mono ?_; rintro e w1 ⟨rfl, hb⟩
    have L1 := Lib.hid hb
    clear hb
    go_wp2_with fail
    go_ret
    exact ⟨rfl, L1.out⟩
  obtain ⟨b, o, rfl, hb, hcs⟩ := hf (by omega)
  obtain ⟨A0, c0, e0, hl0, hf0⟩ := (hx.rows 0 (by omega)).1.form
  have cc0 := hcs 0 (by omega)
  rw [Nat.add_zero, e0] at cc0
  have HCS := Lib.hid hcs
  have k0 : decide ((n : Int) < 1) = false := decide_eq_false (by omega)
  have k1 : decide ((n : Int) > 12) = false := decide_eq_false (by omega)
  generalize hm : (xs 0).length = m at *
  have HM := Lib.hid hm
  have HE0 := Lib.hid e0
  clear hx hf hf0 hcs hm e0
  clear hl0
  by_cases hm0 : m < 1
  · have k2 : decide ((m : Int) < 1) = true := decide_eq_true (by omega)
    go_enter Try.func7, Try.ntmps7
    go_wp2_with fail
    refine (awake_any _).mono ?_; rintro e w1 ⟨rfl, hb⟩
    have L1 := Lib.hid hb
    clear hb
    go_wp2_with fail
    go_ret
    exact ⟨rfl, L1.out⟩
  by_cases hm1 : 64 < m
  · have k2 : decide ((m : Int) < 1) = false := decide_eq_false (by omega)
    have k3 : decide ((m : Int) > 64) = true := decide_eq_true (by omega)
    go_enter Try.func7, Try.ntmps7
    go_wp2_with fail
    refine (awake_any _).mono ?_; rintro e w1 ⟨rfl, hb⟩
    have L1 := Lib.hid hb
    clear hb
    go_wp2_with fail
    go_ret
    exact ⟨rfl, L1.out⟩
  have k2 : decide ((m : Int) < 1) = false := decide_eq_false (by omega)
  have k3 : decide ((m : Int) > 64) = false := decide_eq_false (by omega)
  by_cases hd0 : dd < 2
  · have k4 : decide (dd < 2) = true := decide_eq_true (by omega)
    go_enter Try.func7, Try.ntmps7
    go_wp2_with fail
    refine (awake_any _).mono ?_; rintro e w1 ⟨rfl, hb⟩
    have L1 := Lib.hid hb
    clear hb
    go_wp2_with fail
    go_ret
    exact ⟨rfl, L1.out⟩
  by_cases hd1 : 16 < dd
  · have k4 : decide (dd < 2) = false := decide_eq_false (by omega)
    have k5 : decide (dd > 16) = true := decide_eq_true (by omega)
    go_enter Try.func7, Try.ntmps7
    go_wp2_with fail
    refine (awake_any _).mono ?_; rintro e w1 ⟨rfl, hb⟩
    have L1 := Lib.hid hb
    clear hb
    go_wp2_with fail
    go_ret
    exact ⟨rfl, L1.out⟩
  have k4 : decide (dd < 2) = false := decide_eq_false (by omega)
  have k5 : decide (dd > 16) = false := decide_eq_false (by omega)
  obtain ⟨d, rfl⟩ : ∃ d : Nat, dd = d := ⟨dd.toNat, by omega⟩
  have hmm : 1 ≤ m ∧ m ≤ 64 := by omega
  have hdd : 2 ≤ d ∧ d ≤ 16 := by omega
  go_enter Try.func7, Try.ntmps7
  go_wp2_with fail
  have HB := Lib.hid (show (1 ≤ n ∧ n ≤ 12) ∧ (1 ≤ m ∧ m ≤ 64) ∧ (2 ≤ d ∧ d ≤ 16) from ⟨by omega, hmm, hdd⟩)
  clear k0 k1 k2 k3 k4 k5 hn0 hn1 hm0 hm1 hd0 hd1 hmm hdd
  refine (spot_in m d HB.out.2.1 HB.out.2.2 _).mono ?_; rintro e w1 ⟨g, h, rfl, hk, h1, h2, h3, hl⟩
  generalize hNN : 2 + m * d = N at *
  have HNN := Lib.hid hNN
  have HN5 := Lib.hid (show 4 ≤ N ∧ N ≤ 1026 by have := Nat.mul_le_mul HB.out.2.1.1 HB.out.2.2.1; have := mul_small HB.out.2.1.2 HB.out.2.2.2; omega)
  clear hNN
  have OR0 := Lib.hid (show w.heap.size ≤ h ∧ h < g from ⟨h1, h2⟩)
  have K0 := Lib.hid hk
  have L0 := Lib.hid hl
  have S1 := Lib.hid h3
  clear hk hl h1 h2 h3
  have c0w := (L0.out.cell (p := ⟨b, o, none⟩) hb).trans cc0
  have hb1 : b < w1.heap.size := Nat.lt_of_lt_of_le hb L0.out.size
  have hnb : ¬ b = w1.heap.size := by omega
  have BS := Lib.hid (Blk.new w1 23 #[.int .i64 0, .int .i64 1, .int .i64 2, .int .i64 m, .int .i64 d])
  go_wp2_with fail
  clear c0w hb1 hnb
  have ee : Ex (fun _ => False) w1 (w1.alloc (.cells #[.int .i64 0, .int .i64 1, .int .i64 2, .int .i64 m, .int .i64 d] 23)) := (Ex.refl _ w1).alloc _
  have K1 := Lib.hid (K0.out.ex ee (fun h => h) (fun h => h))
  have L1 := Lib.hid (Ex.below L0.out ee (fun k hk => hk.elim))
  have hsz : w1.heap.size < (w1.alloc (.cells #[.int .i64 0, .int .i64 1, .int .i64 2, .int .i64 m, .int .i64 d] 23)).heap.size := by simp
  clear ee K0 L0
  generalize w1.alloc (.cells #[.int .i64 0, .int .i64 1, .int .i64 2, .int .i64 m, .int .i64 d] 23) = w2 at *
  generalize hsb : w1.heap.size = sb at *
  have ORD := Lib.hid (show w.heap.size ≤ h ∧ h < g ∧ g < sb from ⟨OR0.out.1, OR0.out.2, S1.out⟩)
  clear hsb OR0 S1 hsz
  obtain ⟨w0, rfl⟩ : ∃ w0 : World, w0 = w2 := ⟨_, rfl⟩
  go_loopw [8] (fun iv wr => ∃ (k : Nat) (ws : List Int) (t : Int), k ≤ n ∧ iv = .int .i64 k ∧ BankAt wr g h ws t ∧ Blk wr sb 23 #[.int .i64 0, .int .i64 1, .int .i64 2, .int .i64 m, .int .i64 d] ∧ (ws.length = N ∧ nth ws 1 = 2 * (k : Int) ∧ nth ws 0 = 0) ∧ Below w.heap.size w wr) (fun iv _ => n - (intOf iv).toNat)
  case atStart => exact ⟨0, zeros N, 0, by omega, rfl, K1.out, BS.out, ⟨zeros_len _, by rw [nth_zeros]; rfl, nth_zeros _ _⟩, L1.out⟩
  case round =>
    clear K1 BS L1
    obtain ⟨k, ws, t, hk, rfl, hbk, hs, hpw, hl⟩ := hrel
    have K0 := Lib.hid hbk
    have S0 := Lib.hid hs
    have L0 := Lib.hid hl
    have PW := Lib.hid hpw
    clear hbk hs hl hpw
    by_cases hlt : k < n
    · have kd : decide ((k : Int) < (n : Int)) = true := decide_eq_true (by omega)
      have ki0 : (0 : Int) ≤ (k : Int) := by omega
      have ki1 : (k : Int) < (n : Int) := by omega
      obtain ⟨Ak, ck, ek, -, hfk⟩ := (HX.out.rows k hlt).1.form
      have HWF := Lib.hid (HX.out.rows k hlt).2
      generalize hrec : xs k = rec at *
      have HREC := Lib.hid hrec
      clear hrec
      go_upto_region 9 with fail
      have hne : Nonempty (Held (fun W => W = wr.drew)) := ⟨⟨_, rfl⟩⟩
      have pk : ∀ x : Held (fun W => W = wr.drew), x.w.cell? ⟨b, o + k, none⟩ = some (.slice Ak rec.length ck) := fun x => by rw [x.ok, ← ek]; exact (L0.out.drew.cell (p := ⟨b, o + k, none⟩) hb).trans (HCS.out k hlt)
      have p0 : ∀ x : Held (fun W => W = wr.drew), x.w.cell? ⟨b, o, none⟩ = some (.slice A0 m c0) := fun x => by rw [x.ok]; exact (L0.out.drew.cell (p := ⟨b, o, none⟩) hb).trans cc0
      have EK := Lib.hid ek
      have HFK := Lib.hid hfk
      clear ek hfk
      refine drawn_bars (S := fun _ => True) [] [0, 1, 2, 3, 4, 5, 6, 7, 8, 9] (by kernel_rfl) (by kernel_rfl) (by kernel_rfl) rfl trivial ?_
      refine Phased.end_ ?_
      simp only [pick, List.map_cons, List.map_nil, List.getElem?_cons_zero, List.getElem?_cons_succ, Option.getD_some]
      repeat (go_big_quiet_step (fail))
      refine wpQuiet_nil ?_
      clear hne pk p0
      have ee : Ex (fun _ => False) wr wr.drew := (Ex.refl _ wr).drew
      have K_1 := Lib.hid (K0.out.ex ee (fun h => h) (fun h => h))
      have S_1 := Lib.hid (S0.out.ex ee (fun h => h))
      have L_1 := Lib.hid (Ex.below L0.out ee (fun k hk => hk.elim))
      clear ee K0 S0 L0
      generalize wr.drew = wd at *
      by_cases hmk : rec.length = m
      case neg =>
        have hne : ((rec.length : Int) != (m : Int)) = true := by rw [bne_iff_ne]; omega
        go_wp2_with fail
        refine (awake_any _).mono ?_; rintro e wz ⟨rfl, hb⟩
        have LZ := Lib.hid (bl L_1.out hb)
        clear hb
        go_wp2_with fail
        go_ret
        exact ⟨rfl, LZ.out⟩
      have hmk1 : ((rec.length : Int) != (m : Int)) = false := by rw [hmk]; simp
      have HMK := Lib.hid hmk
      clear hmk
      go_wp2_with fail
      refine (Clone_ex g h ws t _ K_1.out).mono ?_; rintro e w3 ⟨g2, h2, rfl, hk2, q1, q2, q3, hl2⟩
      have OR1 := Lib.hid (show w.heap.size ≤ h ∧ h < g ∧ g < sb ∧ sb < h2 ∧ h2 < g2 from ⟨ORD.out.1, ORD.out.2.1, ORD.out.2.2, Nat.lt_of_lt_of_le S_1.out.lt q1, q2⟩)
      clear q1 q2 q3
      have ee : Ex (fun _ => False) wd w3 := Ex.of_below hl2
      have K_2 := Lib.hid (K_1.out.ex ee (fun h => h) (fun h => h))
      have S_2 := Lib.hid (S_1.out.ex ee (fun h => h))
      have L_2 := Lib.hid (Ex.below L_1.out ee (fun k hk => hk.elim))
      have C_2 := Lib.hid (hk2)
      clear ee K_1 S_1 L_1 hl2 hk2
      go_upto_region 12 with fail
      obtain ⟨bk, ok, rfl, hbk, hck⟩ := HFK.out (by intro hh; have := HMK.out; rw [hh] at this; simp at this; have := HB.out.2.1; omega)
      have HN := Lib.hid (WNew_in (spotOf m d) 1 bk ok m ck rec w3.drew (spot_right HB.out.2.1 HB.out.2.2 1 (by omega)) rfl HMK.out (Nat.lt_of_lt_of_le hbk L_2.out.size) (fun i hi => (L_2.out.drew.cell (p := ⟨bk, ok + i, none⟩) hbk).trans (hck i (by rw [HMK.out]; exact hi))))
      have HCK := Lib.hid hck
      clear hck
      unfold Spot.val spotOf at HN
      simp only at HN
      rw [HMK.out] at EK
      have hne : Nonempty (Held (Below w3.heap.size w3)) := ⟨⟨w3, Below.refl _ _⟩⟩
      have pk : ∀ x : Held (Below w3.heap.size w3), x.w.cell? ⟨b, o + k, none⟩ = some (.slice (some ⟨bk, ok, none⟩) m ck) := fun x => by rw [← EK.out]; exact ((bl L_2.out x.ok).cell (p := ⟨b, o + k, none⟩) hb).trans (HCS.out k hlt)
      have s0 : ∀ x : Held (Below w3.heap.size w3), x.w.cell? ⟨sb, 0, none⟩ = some (.int .i64 0) := fun x => (S_2.out.bl x.ok).cell 0
      have s1 : ∀ x : Held (Below w3.heap.size w3), x.w.cell? ⟨sb, 1, none⟩ = some (.int .i64 1) := fun x => (S_2.out.bl x.ok).cell 1
      have s2 : ∀ x : Held (Below w3.heap.size w3), x.w.cell? ⟨sb, 2, none⟩ = some (.int .i64 2) := fun x => (S_2.out.bl x.ok).cell 2
      have s3 : ∀ x : Held (Below w3.heap.size w3), x.w.cell? ⟨sb, 3, none⟩ = some (.int .i64 m) := fun x => (S_2.out.bl x.ok).cell 3
      have s4 : ∀ x : Held (Below w3.heap.size w3), x.w.cell? ⟨sb, 4, none⟩ = some (.int .i64 d) := fun x => (S_2.out.bl x.ok).cell 4
      refine drawn_bars (S := Below w3.heap.size w3) [([0, 1, 2, 3, 4], 5)] [6, 7, 8, 9, 10] (by kernel_rfl) (by kernel_rfl) (by kernel_rfl) rfl (Below.refl _ _).drew ?_
      refine Phased.go ?_
      simp only [pick, List.map_cons, List.map_nil, List.getElem?_cons_zero, List.getElem?_cons_succ, Option.getD_some]
      repeat (go_big_quiet_step (fail))
      refine wpQuiet_nil ?_
      go_wp2_with fail
      refine HN.out.mono ?_; rintro e w4 ⟨op, r, cc, rfl, ho, q1, q2, hl4⟩
      have hl5 := bl ((Below.refl w3.heap.size w3).drew) hl4
      go_wp2_with fail
      refine behind_normal ⟨Below w3.heap.size w3, fun W h => h, hl5, ?_⟩
      refine Phased.end_ ?_
      have hne4 : Nonempty (Held (fun W => W = w4)) := ⟨⟨_, rfl⟩⟩
      simp only [pick, List.map_cons, List.map_nil, List.getElem?_cons_zero, List.getElem?_cons_succ, Option.getD_some]
      repeat (go_big_quiet_step (fail))
      refine wpQuiet_nil ?_
      clear hne4 hne pk s0 s1 s2 s3 s4 HN hl4
      have OR2 := Lib.hid (show w.heap.size ≤ h ∧ h < g ∧ g < sb ∧ sb < h2 ∧ h2 < g2 ∧ g2 < r ∧ r < op from ⟨OR1.out.1, OR1.out.2.1, OR1.out.2.2.1, OR1.out.2.2.2.1, OR1.out.2.2.2.2, Nat.lt_of_lt_of_le C_2.out.head.lt q1, q2⟩)
      clear q1 q2
      have ee : Ex (fun _ => False) w3 w4 := Ex.of_below hl5
      have K_3 := Lib.hid (K_2.out.ex ee (fun h => h) (fun h => h))
      have S_3 := Lib.hid (S_2.out.ex ee (fun h => h))
      have C_3 := Lib.hid (C_2.out.ex ee (fun h => h) (fun h => h))
      have L_3 := Lib.hid (Ex.below L_2.out ee (fun k hk => hk.elim))
      have O_3 := Lib.hid (ho)
      clear ee K_2 S_2 C_2 L_2 hl5 ho
      have c0w := (L_3.out.cell (p := ⟨b, o, none⟩) hb).trans cc0
      have hw3 : wrap64 ((m : Int) + 3) = (m : Int) + 3 := wrap64_in _ (by have := HB.out.2.1; omega)
      have hmi0 : (1 : Int) ≤ (m : Int) := by have := HB.out.2.1; omega
      have hmi1 : (m : Int) ≤ 64 := by have := HB.out.2.1; omega
      go_wp2_with fail
      clear c0w hw3 kd ki0 ki1
      have hplc := alone_place (k := k) HB.out.2.1 HB.out.2.2
      rw [HNN.out] at hplc
      generalize hpp : 2 + (k + 1) % d * m = p at *
      have HPL := Lib.hid hplc
      have HP1 := Lib.hid (show 1 < p by rw [← hpp]; omega)
      clear hpp hplc
      have HK := Lib.hid (show k < 12 by have := HB.out.1; omega)
      clear hk
      have HWI := Lib.hid (WInv.zero_ (s := spotOf m d) (rec := rec) (spot_right HB.out.2.1 HB.out.2.2 1 (by omega)) (by rw [HMK.out]; rfl) (fun y hy => u64_bounds (HWF.out y hy)))
      go_loopw [13, 14, 15] (fun iv tv hv wr => ∃ i : Nat, 1 ≤ i ∧ i ≤ m + 4 ∧ iv = .int .i64 i ∧ BankAt wr g h (aloneW 1 p rec k ws (i - 1)) (tickN t (i - 1)) ∧ Blk wr sb 23 #[.int .i64 0, .int .i64 1, .int .i64 2, .int .i64 m, .int .i64 d] ∧ BankAt wr g2 h2 ws t ∧ OpAt wr op r cc (spotOf m d) rec 1 (aloneX m k (i - 1)) ∧ WInv (spotOf m d) rec 1 (aloneX m k (i - 1)) ∧ Below w.heap.size w wr) (fun iv _ _ _ => m + 4 - (intOf iv).toNat)
      case atStart => exact ⟨1, by omega, by omega, rfl, K_3.out, S_3.out, C_3.out, O_3.out, HWI.out, L_3.out⟩
      case round =>
        clear K_3 S_3 C_3 O_3 L_3 HWI
        obtain ⟨i, hi1, hi2, rfl, hbk2, hs2, hc2, ho2, hwi, hl2⟩ := hrel
        obtain ⟨j, rfl⟩ : ∃ j, i = j + 1 := ⟨i - 1, by omega⟩
        rw [Nat.add_sub_cancel] at hbk2 ho2 hwi
        have K0 := Lib.hid hbk2
        have S0 := Lib.hid hs2
        have C0 := Lib.hid hc2
        have O0 := Lib.hid ho2
        have WI := Lib.hid hwi
        have L0 := Lib.hid hl2
        clear hbk2 hs2 hc2 ho2 hwi hl2
        by_cases hji : j < m + 3
        · have kd2 : decide (((j : Int) + 1) ≤ (m : Int) + 3) = true := decide_eq_true (by omega)
          have hst := alone_step (s := spotOf m d) (rec := rec) (tries := 1) (k := k) (p := p) (ws := ws) (q := 1) (t := t) (by have := HMK.out; have := HB.out.2.1; omega) rfl (by have := PW.out.1; have := HN5.out; omega) PW.out.2.1 (by have := HK.out; omega) HPL.out.1 (by have := PW.out.1; have := HPL.out.2; have := HMK.out; omega) HP1.out j (by have := HMK.out; omega)
          have hin2 := WI.out.step (aloneW 1 p rec k ws j) (tickN t j) K0.out.fit
          rw [HMK.out] at hst
          rw [hst] at hin2
          have HST := Lib.hid hst
          have WI2 := Lib.hid hin2
          have HHOW := Lib.hid (aloneX_how m k (j + 1) (by omega))
          have HSTEPS := Lib.hid (aloneX_steps m k (j + 1) (by omega))
          clear hst hin2
          go_wp2_with fail
          refine (Touches_any g h _ _ _ K0.out).mono ?_; rintro e w5 ⟨rfl, rfl⟩
          go_wp2_with fail
          refine (WStep_any g h op r cc _ _ (spotOf m d) rec 1 (aloneX m k j) _ K0.out O0.out WI.out (by have o_ := OR2.out; omega)).mono ?_; rintro e w6 ⟨rfl, hk6, ho6, hx6⟩
          rw [HST.out] at hk6 ho6
          rw [HST.out]
          have ee : Ex (fun k => k = g ∨ k = h ∨ k = op) wr w6 := hx6
          have S_4 := Lib.hid (S0.out.ex ee (by have o_ := OR2.out; omega))
          have C_4 := Lib.hid (C0.out.ex ee (by have o_ := OR2.out; omega) (by have o_ := OR2.out; omega))
          have L_4 := Lib.hid (Ex.below L0.out ee (fun k hk => by have o_ := OR2.out; have hk : k = g ∨ k = h ∨ k = op := hk; omega))
          have K_4 := Lib.hid (hk6)
          have O_4 := Lib.hid (ho6)
          clear ee K0 S0 C0 O0 L0 hx6 hk6 ho6
          rw [HHOW.out]
          by_cases hq : j + 1 = m + 3
          · rw [if_pos hq]
            have q1 : ((j : Int) + 1 == (m : Int) + 3) = true := beq_iff_eq.2 (by omega)
            have q2 : decide ((j : Int) + 1 < (m : Int) + 3) = false := decide_eq_false (by omega)
            clear hq
            go_wp2_with fail
            refine (Touches_any g h _ _ _ K_4.out).mono ?_; rintro e w7 ⟨rfl, rfl⟩
            have ht1 : wrap64 (tickN t j + 1) = tickN t (j + 1) := (i64_wrap64 _).symm
            go_wp2_with fail
            clear ht1
            refine (WSteps_any op r cc (spotOf m d) rec 1 _ _ O_4.out).mono ?_; rintro e w7 ⟨rfl, rfl⟩
            rw [HSTEPS.out]
            go_wp2_with fail
            exact ⟨⟨j + 2, by omega, by omega, by go_num, K_4.out, S_4.out, C_4.out, O_4.out, WI2.out, L_4.out⟩, by simp [intOf]; omega⟩
          · rw [if_neg hq]
            have q1 : ((j : Int) + 1 == (m : Int) + 3) = false := beq_eq_false_iff_ne.2 (by omega)
            have q2 : decide ((j : Int) + 1 < (m : Int) + 3) = true := decide_eq_true (by omega)
            clear hq
            go_wp2_with fail
            refine (Touches_any g h _ _ _ K_4.out).mono ?_; rintro e w7 ⟨rfl, rfl⟩
            have ht1 : wrap64 (tickN t j + 1) = tickN t (j + 1) := (i64_wrap64 _).symm
            go_wp2_with fail
            clear ht1
            refine (WSteps_any op r cc (spotOf m d) rec 1 _ _ O_4.out).mono ?_; rintro e w7 ⟨rfl, rfl⟩
            rw [HSTEPS.out]
            go_wp2_with fail
            exact ⟨⟨j + 2, by omega, by omega, by go_num, K_4.out, S_4.out, C_4.out, O_4.out, WI2.out, L_4.out⟩, by simp [intOf]; omega⟩
        · obtain rfl : j = m + 3 := by omega
          have kd2 : decide ((m : Int) + 3 + 1 ≤ (m : Int) + 3) = false := decide_eq_false (by omega)
          clear WI
          have HEND := Lib.hid (fun j => alone_end (p := p) (k := k) (rec := rec) (ws := ws) (by have := PW.out.1; have := HN5.out; omega) HP1.out (by have := PW.out.1; have := HPL.out.2; have := HMK.out; omega) (by have := HMK.out; have := HB.out.2.1; omega) j)
          have HLN := Lib.hid (aloneW_len (q := 1) (p := p) (k := k) (rec := rec) (ws := ws) (m + 3))
          rw [HMK.out] at HEND
          have HHOW := Lib.hid (aloneX_how m k (m + 3) (by omega))
          rw [if_pos rfl] at HHOW
          have HGEN := Lib.hid (aloneX_gen m k (by have := HK.out; omega))
          generalize aloneW 1 p rec k ws (m + 3) = wz at *
          generalize tickN t (m + 3) = tz at *
          generalize aloneX m k (m + 3) = xz at *
          have hw1 : wordF wz 1 = 2 * (k : Int) + 2 := by
            have h := wordF_nat wz 1 (by rw [HLN.out]; have := PW.out.1; have := HN5.out; omega)
            rw [show ((1 : Nat) : Int) = 1 from rfl] at h
            rw [h, HEND.out 1]; rfl
          have hw0 : wordF wz 0 = 0 := by
            have h := wordF_nat wz 0 (by rw [HLN.out]; have := PW.out.1; have := HN5.out; omega)
            rw [show ((0 : Nat) : Int) = 0 from rfl] at h
            rw [h, HEND.out 0, if_neg (by omega), if_neg (by have := HP1.out; omega)]
            exact PW.out.2.2
          have HW1 := Lib.hid hw1
          have HW0 := Lib.hid hw0
          clear hw1 hw0
          have hu1 : IntKind.u64.wrap (k : Int) = k := u64_wrap_in (by have := HK.out; omega)
          have hu2 : IntKind.u64.wrap ((k : Int) + 1) = (k : Int) + 1 := u64_wrap_in (by have := HK.out; omega)
          have hu3 : IntKind.u64.wrap (2 * (k : Int)) = 2 * (k : Int) := u64_wrap_in (by have := HK.out; omega)
          have hu4 : IntKind.u64.wrap (2 * (k : Int) + 2) = 2 * (k : Int) + 2 := u64_wrap_in (by have := HK.out; omega)
          clear hi1 hi2 hji hmi0 hmi1
          go_wp2_with fail
          refine (Touches_any g h _ _ _ K0.out).mono ?_; rintro e w5 ⟨rfl, rfl⟩
          go_wp2_with fail
          refine (WGen_any op r cc (spotOf m d) rec 1 xz _ O0.out).mono ?_; rintro e w5 ⟨rfl, rfl⟩
          rw [HGEN.out]
          go_wp2_with fail
          refine (Peek_any g h _ _ 1 _ K0.out).mono ?_; rintro e w5 ⟨rfl, hb5⟩
          rw [HW1.out]
          have ee : Ex (fun _ => False) wr w5 := Ex.of_below hb5
          have K_4 := Lib.hid (K0.out.ex ee (fun h => h) (fun h => h))
          have S_4 := Lib.hid (S0.out.ex ee (fun h => h))
          have C_4 := Lib.hid (C0.out.ex ee (fun h => h) (fun h => h))
          have O_4 := Lib.hid (O0.out.ex ee (fun h => h) (fun h => h))
          have L_4 := Lib.hid (Ex.below L0.out ee (fun k hk => hk.elim))
          clear ee K0 S0 C0 O0 L0 hb5
          go_wp2_with fail
          refine (S_done g h op r cc wz tz (spotOf m d) rec 1 xz _ _ O_4.out (by rw [HHOW.out]; omega)).mono ?_; rintro e w6 ⟨rfl, rfl⟩
          rw [HHOW.out]
          go_wp2_with fail
          refine (Touches_any g h _ _ _ K_4.out).mono ?_; rintro e w6 ⟨rfl, rfl⟩
          go_wp2_with fail
          refine (Peek_any g h _ _ 0 _ K_4.out).mono ?_; rintro e w6 ⟨rfl, hb6⟩
          rw [HW0.out]
          have ee : Ex (fun _ => False) w5 w6 := Ex.of_below hb6
          have K_5 := Lib.hid (K_4.out.ex ee (fun h => h) (fun h => h))
          have S_5 := Lib.hid (S_4.out.ex ee (fun h => h))
          have C_5 := Lib.hid (C_4.out.ex ee (fun h => h) (fun h => h))
          have O_5 := Lib.hid (O_4.out.ex ee (fun h => h) (fun h => h))
          have L_5 := Lib.hid (Ex.below L_4.out ee (fun k hk => hk.elim))
          clear ee K_4 S_4 C_4 O_4 L_4 hb6
          have Sq0 := (S_5.out).cell 0
          have Sq1 := (S_5.out).cell 1
          have Sq2 := (S_5.out).cell 2
          have Sq3 := (S_5.out).cell 3
          have Sq4 := (S_5.out).cell 4
          simp only [List.getElem?_toArray, List.getElem?_cons_succ, List.getElem?_cons_zero] at Sq0 Sq1 Sq2 Sq3 Sq4
          go_wp2_with fail
          have HAT := Lib.hid (At_any (spotOf m d) ((k : Int) + 1) w6 (by have := HK.out; omega) (by have := HB.out.2.1; have := HB.out.2.2; unfold Spot.AtOk spotOf; simp only; omega))
          rw [HPL.out.1] at HAT
          unfold Spot.val spotOf at HAT
          simp only at HAT
          refine HAT.out.mono ?_; rintro e w7 ⟨rfl, hb7⟩
          clear HAT hu1 hu2 hu3 hu4 kd2
          clear Sq0 Sq1 Sq2 Sq3 Sq4
          have ee : Ex (fun _ => False) w6 w7 := Ex.of_below hb7
          have K_6 := Lib.hid (K_5.out.ex ee (fun h => h) (fun h => h))
          have S_6 := Lib.hid (S_5.out.ex ee (fun h => h))
          have C_6 := Lib.hid (C_5.out.ex ee (fun h => h) (fun h => h))
          have O_6 := Lib.hid (O_5.out.ex ee (fun h => h) (fun h => h))
          have L_6 := Lib.hid (Ex.below L_5.out ee (fun k hk => hk.elim))
          clear ee K_5 S_5 C_5 O_5 L_5 hb7
          go_wp2_with fail
          obtain ⟨wk, rfl⟩ : ∃ wk : World, wk = w7 := ⟨_, rfl⟩
          go_loopw [18] (fun iv wr => ∃ i : Nat, 2 ≤ i ∧ i ≤ N ∧ iv = .int .i64 i ∧ BankAt wr g h wz tz ∧ Blk wr sb 23 #[.int .i64 0, .int .i64 1, .int .i64 2, .int .i64 m, .int .i64 d] ∧ BankAt wr g2 h2 ws t ∧ Below w.heap.size w wr) (fun iv _ => N - (intOf iv).toNat)
          case atStart => exact ⟨2, by omega, by have := HN5.out; omega, rfl, K_6.out, S_6.out, C_6.out, L_6.out⟩
          case round =>
            clear K_6 S_6 C_6 L_6 O_6
            obtain ⟨i, hi1, hi2, rfl, hbk2, hs2, hc2, hl2⟩ := hrel
            have K0 := Lib.hid hbk2
            have S0 := Lib.hid hs2
            have C0 := Lib.hid hc2
            have L0 := Lib.hid hl2
            clear hbk2 hs2 hc2 hl2
            go_wp2_with fail
            refine (Len_any g h _ _ _ K0.out).mono ?_; rintro e w5 ⟨rfl, rfl⟩
            rw [HLN.out, PW.out.1]
            by_cases hiz : i < N
            · have kd3 : decide ((i : Int) < (N : Int)) = true := decide_eq_true (by omega)
              have HHI := Lib.hid (show 2 ≤ i ∧ i ≤ N from ⟨hi1, hi2⟩)
              clear hi1 hi2
              have hwi : wordF wz (i : Int) = if i = 1 then 2 * (k : Int) + 2 else if p ≤ i ∧ i < p + m then nth rec (i - p) else nth ws i := by
                rw [wordF_nat wz i (by rw [HLN.out, PW.out.1]; exact hiz)]; exact HEND.out i
              rw [if_neg (by have := HHI.out; omega)] at hwi
              have c0w := (L0.out.cell (p := ⟨b, o, none⟩) hb).trans cc0
              have kmi : wrap64 ((p : Int) + (m : Int)) = (p : Int) + (m : Int) := wrap64_in _ (by have := HPL.out.2; have := HN5.out; omega)
              by_cases hin : p ≤ i ∧ i < p + m
              · rw [if_pos hin] at hwi
                have HWI := Lib.hid hwi
                clear hwi
                have ge1 : decide ((i : Int) ≥ (p : Int)) = true := decide_eq_true (by omega)
                have lt1 : decide ((i : Int) < (p : Int) + (m : Int)) = true := decide_eq_true (by omega)
                have ksub : wrap64 ((i : Int) - (p : Int)) = (i : Int) - (p : Int) := wrap64_in _ (by have := HN5.out; omega)
                have hs0 : (0 : Int) ≤ (i : Int) - (p : Int) := by omega
                have hs1 : (i : Int) - (p : Int) < (m : Int) := by omega
                have HIN := Lib.hid hin
                have HIZ := Lib.hid hiz
                clear hin hiz
                go_upto_region 31 with fail
                have hne : Nonempty (Held (Below wr.heap.size wr)) := ⟨⟨wr, Below.refl _ _⟩⟩
                have pk : ∀ x : Held (Below wr.heap.size wr), x.w.cell? ⟨b, o + k, none⟩ = some (.slice (some ⟨bk, ok, none⟩) m ck) := fun x => by rw [← EK.out]; exact ((bl L0.out x.ok).cell (p := ⟨b, o + k, none⟩) hb).trans (HCS.out k hlt)
                have pr : ∀ x : Held (Below wr.heap.size wr), x.w.cell? ⟨bk, ok + (i - p), none⟩ = some (.int .u64 (nth rec (i - p))) := fun x => by
                  exact ((bl L0.out x.ok).cell (p := ⟨bk, ok + (i - p), none⟩) hbk).trans (HCK.out (i - p) (by rw [HMK.out]; have := HIN.out; omega))
                clear c0w
                refine drawn_bars (S := Below wr.heap.size wr) [([0, 1, 3, 4, 5, 6, 7, 8, 9, 10, 11], 2)] [12] (by kernel_rfl) (by kernel_rfl) (by kernel_rfl) rfl (Below.refl _ _).drew ?_
                refine Phased.go ?_
                simp only [pick, List.map_cons, List.map_nil, List.getElem?_cons_zero, List.getElem?_cons_succ, Option.getD_some]
                repeat (go_big_quiet_step (fail))
                refine wpQuiet_nil ?_
                go_wp2_with fail
                refine (Peek_any g h _ _ (i : Int) wr.drew (K0.out.drewN 1)).mono ?_; rintro e w5 ⟨rfl, hb5⟩
                rw [HWI.out]
                have hb6 := bl ((Below.refl wr.heap.size wr).drew) hb5
                go_wp2_with fail
                refine behind_normal ⟨Below wr.heap.size wr, fun W h => h, hb6, ?_⟩
                refine Phased.end_ ?_
                have hne5 : Nonempty (Held (fun W => W = w5)) := ⟨⟨_, rfl⟩⟩
                simp only [pick, List.map_cons, List.map_nil, List.getElem?_cons_zero, List.getElem?_cons_succ, Option.getD_some]
                repeat (go_big_quiet_step (fail))
                refine wpQuiet_nil ?_
                clear hne hne5 pk pr hb5
                have ee : Ex (fun _ => False) wr w5 := Ex.of_below hb6
                have K_7 := Lib.hid (K0.out.ex ee (fun h => h) (fun h => h))
                have S_7 := Lib.hid (S0.out.ex ee (fun h => h))
                have C_7 := Lib.hid (C0.out.ex ee (fun h => h) (fun h => h))
                have L_7 := Lib.hid (Ex.below L0.out ee (fun k hk => hk.elim))
                clear ee K0 S0 C0 L0 hb6
                have hi5 : (i : Int) ≤ 1026 := by have := HIZ.out; have := HN5.out; omega
                go_wp2_with fail
                go_roundw
                case rel => exact ⟨i + 1, by have := HHI.out; omega, by have := HIZ.out; omega, by go_num, K_7.out, S_7.out, C_7.out, L_7.out⟩
                case measure => have := HIZ.out; simp [intOf]; omega
              · rw [if_neg hin] at hwi
                have hwj : wordF ws (i : Int) = nth ws i := wordF_nat ws i (by rw [PW.out.1]; exact hiz)
                have HWI := Lib.hid hwi
                have HWJ := Lib.hid hwj
                clear hwi hwj
                have hor : i < p ∨ (p ≤ i ∧ p + m ≤ i) := by omega
                rcases hor with hlo | ⟨hhi0, hhi⟩
                · have ge1 : decide ((i : Int) ≥ (p : Int)) = false := decide_eq_false (by omega)
                  go_wp2_with fail
                  refine (Peek_any g h _ _ (i : Int) _ K0.out).mono ?_; rintro e w5 ⟨rfl, hb5⟩
                  rw [HWI.out]
                  clear c0w
                  have ee : Ex (fun _ => False) wr w5 := Ex.of_below hb5
                  have K_7 := Lib.hid (K0.out.ex ee (fun h => h) (fun h => h))
                  have S_7 := Lib.hid (S0.out.ex ee (fun h => h))
                  have C_7 := Lib.hid (C0.out.ex ee (fun h => h) (fun h => h))
                  have L_7 := Lib.hid (Ex.below L0.out ee (fun k hk => hk.elim))
                  clear ee K0 S0 C0 L0 hb5
                  go_wp2_with fail
                  refine (Peek_any g2 h2 _ _ (i : Int) _ C_7.out).mono ?_; rintro e w6 ⟨rfl, hb5⟩
                  rw [HWJ.out]
                  have ee : Ex (fun _ => False) w5 w6 := Ex.of_below hb5
                  have K_8 := Lib.hid (K_7.out.ex ee (fun h => h) (fun h => h))
                  have S_8 := Lib.hid (S_7.out.ex ee (fun h => h))
                  have C_8 := Lib.hid (C_7.out.ex ee (fun h => h) (fun h => h))
                  have L_8 := Lib.hid (Ex.below L_7.out ee (fun k hk => hk.elim))
                  clear ee K_7 S_7 C_7 L_7 hb5
                  have hi5 : (i : Int) ≤ 1026 := by have := HN5.out; omega
                  go_wp2_with fail
                  go_roundw
                  case rel => exact ⟨i + 1, by have := HHI.out; omega, by omega, by go_num, K_8.out, S_8.out, C_8.out, L_8.out⟩
                  case measure => simp [intOf]; omega
                · have ge1 : decide ((i : Int) ≥ (p : Int)) = true := decide_eq_true (by omega)
                  have lt1 : decide ((i : Int) < (p : Int) + (m : Int)) = false := decide_eq_false (by omega)
                  go_wp2_with fail
                  refine (Peek_any g h _ _ (i : Int) _ K0.out).mono ?_; rintro e w5 ⟨rfl, hb5⟩
                  rw [HWI.out]
                  clear c0w
                  have ee : Ex (fun _ => False) wr w5 := Ex.of_below hb5
                  have K_7 := Lib.hid (K0.out.ex ee (fun h => h) (fun h => h))
                  have S_7 := Lib.hid (S0.out.ex ee (fun h => h))
                  have C_7 := Lib.hid (C0.out.ex ee (fun h => h) (fun h => h))
                  have L_7 := Lib.hid (Ex.below L0.out ee (fun k hk => hk.elim))
                  clear ee K0 S0 C0 L0 hb5
                  go_wp2_with fail
                  refine (Peek_any g2 h2 _ _ (i : Int) _ C_7.out).mono ?_; rintro e w6 ⟨rfl, hb5⟩
                  rw [HWJ.out]
                  have ee : Ex (fun _ => False) w5 w6 := Ex.of_below hb5
                  have K_8 := Lib.hid (K_7.out.ex ee (fun h => h) (fun h => h))
                  have S_8 := Lib.hid (S_7.out.ex ee (fun h => h))
                  have C_8 := Lib.hid (C_7.out.ex ee (fun h => h) (fun h => h))
                  have L_8 := Lib.hid (Ex.below L_7.out ee (fun k hk => hk.elim))
                  clear ee K_7 S_7 C_7 L_7 hb5
                  have hi5 : (i : Int) ≤ 1026 := by have := HN5.out; omega
                  go_wp2_with fail
                  go_roundw
                  case rel => exact ⟨i + 1, by have := HHI.out; omega, by omega, by go_num, K_8.out, S_8.out, C_8.out, L_8.out⟩
                  case measure => simp [intOf]; omega
            · obtain rfl : i = N := by omega
              have kd3 : decide ((i : Int) < (i : Int)) = false := decide_eq_false (by omega)
              have hk5 : (k : Int) ≤ 12 := by have := HK.out; omega
              go_wp2_with fail
              go_roundw
              case rel => exact ⟨k + 1, wz, tz, by omega, by go_num, K0.out, S0.out, ⟨by rw [HLN.out]; exact PW.out.1, by rw [HEND.out 1, if_pos rfl]; omega, by rw [HEND.out 0, if_neg (by omega), if_neg (by have := HP1.out; omega)]; exact PW.out.2.2⟩, L0.out⟩
              case measure => simp [intOf]; omega
    · obtain rfl : k = n := by omega
      have kd : decide ((k : Int) < (k : Int)) = false := decide_eq_false (by omega)
      go_wp2_with fail
      refine (awake_any _).mono ?_; rintro e wz ⟨rfl, hb⟩
      have LZ := Lib.hid (bl L0.out hb)
      clear hb
      go_wp2_with fail
      go_ret
      exact ⟨rfl, LZ.out⟩
section
variable {H : Type} {enc : TypeId × Value → H}
set_option maxRecDepth 100000 in
theorem rows_of_trod {W : World} {r : Reach} {b : Nat} {v : Value} {d : DataW H} {p : List MemPlace} (hv : Value.okWide Try.prog W r b 70 v) (h : DataW.Trod enc Try.prog W 0 (fun _ => true) true 70 v d p) :
    ∃ x : Nat × (Nat → Value) × (Nat → List Int), Rows2 W .u64 v x.1 x.2.1 x.2.2 :=
  rows2_of_trod Try.underlying70 Try.underlying24 Try.underlying49 (by kernel_rfl) (by kernel_rfl) hv h
end
end Go.Proofs.Ytpfjadgcnaffgaa.Bank
