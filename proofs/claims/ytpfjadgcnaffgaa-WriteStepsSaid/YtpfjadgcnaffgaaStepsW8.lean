/-
  WriteSteps, walked. Printed by wip/tools/mkws.py. No condition. By an AI agent.
-/
import Derived.Test.YtpfjadgcnaffgaaPlay
import Derived.Test.YtpfjadgcnaffgaaPlain
import Derived.Deep.CutRange
namespace Go.Proofs.Ytpfjadgcnaffgaa.Bank
set_option linter.unusedVariables false
set_option linter.unusedSimpArgs false
open Go Go.RowKit Go.Proofs.Ytpfjadgcnaffgaa.Base

theorem updP_none {px : PX} {k : Nat} (h : px k = none) : updP px k none = px := by
  funext j
  unfold updP
  split
  · rename_i e; subst e; exact h.symm
  · rfl
theorem play_cell (vs : Nat → Value) (ts : Nat → Int) (va : Value) {k : Nat} (hk : k < 3) : (playArr vs ts va)[k * 2]? = some (vs k) ∧ (playArr vs ts va)[k * 2 + 1]? = some (.int .i64 (ts k)) := by
  match k, hk with
  | 0, _ => exact ⟨rfl, rfl⟩
  | 1, _ => exact ⟨rfl, rfl⟩
  | 2, _ => exact ⟨rfl, rfl⟩
theorem arr3_none {px : PX} (h : ∀ j, px j = none) : pArr px = #[.pointer none, .pointer none, .pointer none] ∧ fArr px = #[.pointer none, .pointer none, .pointer none] := by
  unfold pArr fArr
  rw [h 0, h 1, h 2]
  exact ⟨rfl, rfl⟩
def outB (who : Int) : Bool := decide (who < 0 ∨ 2 < who)
theorem outB_true {who : Int} (h : who < 0 ∨ 2 < who) : outB who = true := decide_eq_true h
theorem outB_false {who : Int} (h : ¬ who < 0) (h2 : ¬ 2 < who) : outB who = false := decide_eq_false (by omega)
theorem outB_in {who : Int} (h : outB who = false) : 0 ≤ who ∧ who ≤ 2 := by have := of_decide_eq_false h; omega
theorem wStep_len8 (s : Spot) (rec : List Int) (tries : Int) (x : WS) (ws : List Int) (t : Int) : (wStep s rec tries x ws t).2.1.length = ws.length := by
  unfold wStep
  repeat' split
  all_goals first | rfl | exact setF_len _ _ _

set_option maxRecDepth 100000 in
set_option maxHeartbeats 16000000 in
theorem WriteSteps_walk (n : Int) (hn : -9223372036854775808 ≤ n ∧ n ≤ 9223372036854775807) (v : Value) (s : Spot) (v2 : Value) (x : (Nat → Value) × (Nat → Int) × (Nat → List Int) × Value × Nat × (Nat → Act)) (w : World) (hs : v = s.val) (hx : PlayAt w v2 x.1 x.2.1 x.2.2.1 x.2.2.2.1 x.2.2.2.2.1 x.2.2.2.2.2) : Calls Try.prog 3 #[.int .i64 n, v, v2] w fun e w' => e = .returned (.bool true) ∧ Below w.heap.size w w' := by
  clear hn
  subst hs
  obtain ⟨vs, ts, xs, va, na, l⟩ := x
  simp only at hx
  obtain ⟨rfl, hrows, hacts⟩ := hx
  obtain ⟨B, cb, rfl, -, hg⟩ := hacts.form
  have HAO := Lib.hid hacts.ok
  have HG := Lib.hid hg
  have HROW := Lib.hid hrows
  obtain ⟨A0, a0, e0, -, -⟩ := (hrows 0 (by omega)).1.form
  obtain ⟨A1, a1, e1, -, -⟩ := (hrows 1 (by omega)).1.form
  obtain ⟨A2, a2, e2, -, -⟩ := (hrows 2 (by omega)).1.form
  have E0 := Lib.hid e0
  have E1 := Lib.hid e1
  have E2 := Lib.hid e2
  clear hacts hg hrows e0 e1 e2
  obtain ⟨ow, sq, fi, wo, de⟩ := s
  unfold Spot.val playArr
  simp only
  have SB := Lib.hid ((Blk.new w 23 #[.int .i64 ow, .int .i64 sq, .int .i64 fi, .int .i64 wo, .int .i64 de]).alloc (.cells #[vs 0, .int .i64 (ts 0), vs 1, .int .i64 (ts 1), vs 2, .int .i64 (ts 2), .slice B na cb] 30))
  have XB0 := Blk.new (w.alloc (.cells #[.int .i64 ow, .int .i64 sq, .int .i64 fi, .int .i64 wo, .int .i64 de] 23)) 30 #[vs 0, .int .i64 (ts 0), vs 1, .int .i64 (ts 1), vs 2, .int .i64 (ts 2), .slice B na cb]
  simp only [World.size_alloc] at XB0
  have XB := Lib.hid XB0
  clear XB0
  have L0 := Lib.hid (((Below.refl w.heap.size w).alloc (Nat.le_refl _) (.cells #[.int .i64 ow, .int .i64 sq, .int .i64 fi, .int .i64 wo, .int .i64 de] 23)).alloc (by simp) (.cells #[vs 0, .int .i64 (ts 0), vs 1, .int .i64 (ts 1), vs 2, .int .i64 (ts 2), .slice B na cb] 30))
  have W1 := Lib.hid (show w.heap.size + 2 = ((w.alloc (.cells #[.int .i64 ow, .int .i64 sq, .int .i64 fi, .int .i64 wo, .int .i64 de] 23)).alloc (.cells #[vs 0, .int .i64 (ts 0), vs 1, .int .i64 (ts 1), vs 2, .int .i64 (ts 2), .slice B na cb] 30)).heap.size by simp)
  go_enter Try.func3, Try.ntmps3
  go_upto_region 1 with fail
  generalize (w.alloc (.cells #[.int .i64 ow, .int .i64 sq, .int .i64 fi, .int .i64 wo, .int .i64 de] 23)).alloc (.cells #[vs 0, .int .i64 (ts 0), vs 1, .int .i64 (ts 1), vs 2, .int .i64 (ts 2), .slice B na cb] 30) = w1 at *
  generalize hxb : w.heap.size + 1 = xb at *
  have OR0 := Lib.hid (show w.heap.size < xb ∧ xb < w1.heap.size by have := W1.out; omega)
  clear hxb W1
  have HL := Lib.hid (long_any A0 A1 A2 (xs 0).length (xs 1).length (xs 2).length a0 a1 a2 (ts 0) (ts 1) (ts 2) w1)
  rw [← E0.out, ← E1.out, ← E2.out] at HL
  clear E0 E1 E2
  by_cases q1 : n < 1
  · skip
    have kq1 : decide (n < 1) = true := decide_eq_true (by omega)
    clear q1
    go_wp2_with fail
    refine (awake_any _).mono ?_; rintro e wz ⟨rfl, hb⟩
    have LZ := Lib.hid (bl L0.out hb)
    clear hb
    go_wp2_with fail
    go_ret
    exact ⟨rfl, LZ.out⟩
  by_cases q2 : 60 < n
  · skip
    have kq1 : decide (n < 1) = false := decide_eq_false (by omega)
    have kq2 : decide (n > 60) = true := decide_eq_true (by omega)
    clear q1 q2
    go_wp2_with fail
    refine (awake_any _).mono ?_; rintro e wz ⟨rfl, hb⟩
    have LZ := Lib.hid (bl L0.out hb)
    clear hb
    go_wp2_with fail
    go_ret
    exact ⟨rfl, LZ.out⟩
  by_cases q3 : 200 < na
  · skip
    have kq1 : decide (n < 1) = false := decide_eq_false (by omega)
    have kq2 : decide (n > 60) = false := decide_eq_false (by omega)
    have kq3 : decide ((na : Int) > 200) = true := decide_eq_true (by omega)
    clear q1 q2 q3
    have Xq6 := (XB.out).cell 6
    simp only [List.getElem?_toArray, List.getElem?_cons_succ, List.getElem?_cons_zero] at Xq6
    go_wp2_with fail
    clear Xq6
    refine (awake_any _).mono ?_; rintro e wz ⟨rfl, hb⟩
    have LZ := Lib.hid (bl L0.out hb)
    clear hb
    go_wp2_with fail
    go_ret
    exact ⟨rfl, LZ.out⟩
  have kq1 : decide (n < 1) = false := decide_eq_false (by omega)
  have kq2 : decide (n > 60) = false := decide_eq_false (by omega)
  have kq3 : decide ((na : Int) > 200) = false := decide_eq_false (by omega)
  have HNA := Lib.hid (show na ≤ 200 by omega)
  have Xq0 := (XB.out).cell 0
  have Xq1 := (XB.out).cell 1
  have Xq2 := (XB.out).cell 2
  have Xq3 := (XB.out).cell 3
  have Xq4 := (XB.out).cell 4
  have Xq5 := (XB.out).cell 5
  have Xq6 := (XB.out).cell 6
  simp only [List.getElem?_toArray, List.getElem?_cons_succ, List.getElem?_cons_zero] at Xq0 Xq1 Xq2 Xq3 Xq4 Xq5 Xq6
  go_wp2_with fail
  clear Xq0 Xq1 Xq2 Xq3 Xq4 Xq5 Xq6
  refine HL.out.mono ?_; rintro e w2 ⟨rfl, hb⟩
  clear HL
  have HX2 := Lib.hid (Nat.lt_of_lt_of_le OR0.out.2 hb.size)
  have ee : Ex (fun _ => False) w1 w2 := Ex.of_below hb
  have S_1 := Lib.hid (SB.out.ex ee (fun h => h))
  have X_1 := Lib.hid (XB.out.ex ee (fun h => h))
  have L_1 := Lib.hid (Ex.below L0.out ee (fun k hk => hk.elim))
  clear ee SB XB L0 hb
  cases longB (xs 0).length (xs 1).length (xs 2).length with
  | true =>
    go_wp2_with fail
    refine (awake_any _).mono ?_; rintro e wz ⟨rfl, hb⟩
    have LZ := Lib.hid (bl L_1.out hb)
    clear hb
    go_wp2_with fail
    go_ret
    exact ⟨rfl, LZ.out⟩
  | false =>
    obtain ⟨N, rfl⟩ : ∃ N : Nat, n = N := ⟨n.toNat, by omega⟩
    have HN := Lib.hid (show 1 ≤ N ∧ N ≤ 60 from ⟨by omega, by omega⟩)
    clear q1 q2 q3
    go_wp2_with fail
    clear kq1 kq2 kq3
    refine (BNew_ex N HN.out.1 (by have := HN.out; omega) _).mono ?_; rintro e w3 ⟨g, h, rfl, hk, h1, h2, h3, hb⟩
    have ee : Ex (fun _ => False) w2 w3 := Ex.of_below hb
    have S_2 := Lib.hid (S_1.out.ex ee (fun h => h))
    have X_2 := Lib.hid (X_1.out.ex ee (fun h => h))
    have L_2 := Lib.hid (Ex.below L_1.out ee (fun k hk => hk.elim))
    have K_2 := Lib.hid (hk)
    clear ee S_1 X_1 L_1 hk
    have OR1 := Lib.hid (show w.heap.size < xb ∧ xb < h ∧ h < g ∧ g < w3.heap.size from ⟨OR0.out.1, Nat.lt_of_lt_of_le HX2.out h1, h2, h3⟩)
    clear h1 h2 h3 hb OR0 HX2
    have hmk := make_words N (by have := HN.out; omega) w3
    go_upto_region 7 with fail
    clear hmk
    have ee : Ex (fun _ => False) w3 (w3.alloc (.cells ((zeros N).map (Value.int .u64)).toArray 49)) := (Ex.refl _ w3).alloc _
    have S_3 := Lib.hid (S_2.out.ex ee (fun h => h))
    have X_3 := Lib.hid (X_2.out.ex ee (fun h => h))
    have K_3 := Lib.hid (K_2.out.ex ee (fun h => h) (fun h => h))
    have L_3 := Lib.hid (Ex.below L_2.out ee (fun k hk => hk.elim))
    have R_3 := Lib.hid (show RowW (w3.alloc (.cells ((zeros N).map (Value.int .u64)).toArray 49)) w3.heap.size (zeros N) from Blk.new w3 49 _)
    clear ee S_2 X_2 K_2 L_2
    have S1 := Lib.hid (show w3.heap.size < (w3.alloc (.cells ((zeros N).map (Value.int .u64)).toArray 49)).heap.size by simp)
    generalize (w3.alloc (.cells ((zeros N).map (Value.int .u64)).toArray 49)) = w4 at *
    generalize w3.heap.size = hb at *
    have OR2 := Lib.hid (show w.heap.size < xb ∧ xb < h ∧ h < g ∧ g < hb ∧ hb < w4.heap.size from ⟨OR1.out.1, OR1.out.2.1, OR1.out.2.2.1, OR1.out.2.2.2, S1.out⟩)
    clear OR1 S1
    go_upto_region 8 with fail
    have ee : Ex (fun _ => False) w4 (w4.alloc (.cells #[.pointer none, .pointer none, .pointer none] 38)) := (Ex.refl _ w4).alloc _
    have S_4 := Lib.hid (S_3.out.ex ee (fun h => h))
    have X_4 := Lib.hid (X_3.out.ex ee (fun h => h))
    have K_4 := Lib.hid (K_3.out.ex ee (fun h => h) (fun h => h))
    have R_4 := Lib.hid (R_3.out.ex ee (fun h => h))
    have L_4 := Lib.hid (Ex.below L_3.out ee (fun k hk => hk.elim))
    have A_4 := Lib.hid (Blk.new w4 38 #[.pointer none, .pointer none, .pointer none])
    clear ee S_3 X_3 K_3 R_3 L_3
    have S1 := Lib.hid (show w4.heap.size < (w4.alloc (.cells #[.pointer none, .pointer none, .pointer none] 38)).heap.size by simp)
    generalize (w4.alloc (.cells #[.pointer none, .pointer none, .pointer none] 38)) = w5 at *
    generalize w4.heap.size = a1 at *
    have OR3 := Lib.hid (show w.heap.size < xb ∧ xb < h ∧ h < g ∧ g < hb ∧ hb < a1 ∧ a1 < w5.heap.size from ⟨OR2.out.1, OR2.out.2.1, OR2.out.2.2.1, OR2.out.2.2.2.1, OR2.out.2.2.2.2, S1.out⟩)
    clear OR2 S1
    go_upto_region 9 with fail
    have ee : Ex (fun _ => False) w5 (w5.alloc (.cells #[.pointer none, .pointer none, .pointer none] 40)) := (Ex.refl _ w5).alloc _
    have S_5 := Lib.hid (S_4.out.ex ee (fun h => h))
    have X_5 := Lib.hid (X_4.out.ex ee (fun h => h))
    have K_5 := Lib.hid (K_4.out.ex ee (fun h => h) (fun h => h))
    have R_5 := Lib.hid (R_4.out.ex ee (fun h => h))
    have A_5 := Lib.hid (A_4.out.ex ee (fun h => h))
    have L_5 := Lib.hid (Ex.below L_4.out ee (fun k hk => hk.elim))
    have C_5 := Lib.hid (Blk.new w5 40 #[.pointer none, .pointer none, .pointer none])
    clear ee S_4 X_4 K_4 R_4 A_4 L_4
    have S1 := Lib.hid (show w5.heap.size < (w5.alloc (.cells #[.pointer none, .pointer none, .pointer none] 40)).heap.size by simp)
    generalize (w5.alloc (.cells #[.pointer none, .pointer none, .pointer none] 40)) = w6 at *
    generalize w5.heap.size = a2 at *
    have ORD := Lib.hid (show w.heap.size < xb ∧ xb < h ∧ h < g ∧ g < hb ∧ hb < a1 ∧ a1 < a2 from ⟨OR3.out.1, OR3.out.2.1, OR3.out.2.2.1, OR3.out.2.2.2.1, OR3.out.2.2.2.2.1, OR3.out.2.2.2.2.2⟩)
    clear OR3
    go_wp2_with fail
    obtain ⟨wk, rfl⟩ : ∃ wk : World, wk = w6 := ⟨_, rfl⟩
    have PN := Lib.hid (Prs.empty (w := wk) (lo := a2) (s := (⟨ow, sq, fi, wo, de⟩ : Spot)) (tr := ts) (vs := vs) (rec := xs))
    go_loopw [12, 13, 14, 15, 16] (fun kv s13 s14 s15 s16 wr => ∃ (k : Nat) (px : PX), k ≤ 3 ∧ kv = .int .i64 k ∧ (∀ j, k ≤ j → px j = none) ∧ BankAt wr g h (zeros N) 0 ∧ RowW wr hb (zeros N) ∧ Blk wr w.heap.size 23 #[.int .i64 ow, .int .i64 sq, .int .i64 fi, .int .i64 wo, .int .i64 de] ∧ Blk wr xb 30 #[vs 0, .int .i64 (ts 0), vs 1, .int .i64 (ts 1), vs 2, .int .i64 (ts 2), .slice B na cb] ∧ Blk wr a1 38 (pArr px) ∧ Blk wr a2 40 (fArr px) ∧ Prs wr a2 (⟨ow, sq, fi, wo, de⟩ : Spot) ts vs xs px ∧ a2 < wr.heap.size ∧ Below w.heap.size w wr) (fun kv s13 s14 s15 s16 _ => 3 - (intOf kv).toNat)
    case atStart => exact ⟨0, fun _ => none, by omega, rfl, fun _ _ => rfl, K_5.out, R_5.out, S_5.out, X_5.out, A_5.out, C_5.out, PN.out, S1.out, L_5.out⟩
    case round =>
      clear K_5 R_5 S_5 X_5 A_5 C_5 L_5 PN S1
      obtain ⟨k, px, hk3, rfl, hpn, hbk, hrw, hsb, hxb, hab, hcb, hz, hsz, hl⟩ := hrel
      have K0 := Lib.hid hbk
      have R0 := Lib.hid hrw
      have S0 := Lib.hid hsb
      have X0 := Lib.hid hxb
      have A0_ := Lib.hid hab
      have C0 := Lib.hid hcb
      have Z0 := Lib.hid hz
      have SZ0 := Lib.hid hsz
      have L0 := Lib.hid hl
      have HPN := Lib.hid hpn
      clear hbk hrw hsb hxb hab hcb hz hsz hl hpn
      by_cases hlt : k < 3
      · have kd : decide ((k : Int) < 3) = true := decide_eq_true (by omega)
        have kk0 : (0 : Int) ≤ (k : Int) := by omega
        have kk3 : (k : Int) < 3 := by omega
        have HK3 := Lib.hid hlt
        clear hk3 hlt
        obtain ⟨Ak, ck, ek, -, hfk⟩ := (HROW.out k HK3.out).1.form
        have EK := Lib.hid ek
        have HFK := Lib.hid hfk
        have HWF := Lib.hid (fun y hy => u64_bounds ((HROW.out k HK3.out).2 y hy))
        clear ek hfk
        have HPK := Lib.hid (HPN.out k (Nat.le_refl _))
        have kpp : ((none : Option Addr) == none) = true := rfl
        have kmm : (mostF (⟨ow, sq, fi, wo, de⟩ : Spot) (ts k) != mostF (⟨ow, sq, fi, wo, de⟩ : Spot) (ts k)) = false := by simp
        cases hmay : mayF (⟨ow, sq, fi, wo, de⟩ : Spot) (ts k) with
        | false =>
          skip
          have HWMAY := Lib.hid hmay
          go_upto_region 12 with fail
          have HNW := Lib.hid (WNew_may (⟨ow, sq, fi, wo, de⟩ : Spot) (ts k) (.slice Ak (xs k).length ck) wr.drew HWMAY.out)
          unfold Spot.val at HNW
          simp only at HNW
          have hne : Nonempty (Held (Below wr.heap.size wr)) := ⟨⟨wr, (Below.refl _ _)⟩⟩
          have rS0 : ∀ x : Held (Below wr.heap.size wr), x.w.cell? ⟨w.heap.size, 0, none⟩ = some (.int .i64 ow) := fun x => (S0.out.bl x.ok).cell 0
          have rS1 : ∀ x : Held (Below wr.heap.size wr), x.w.cell? ⟨w.heap.size, 1, none⟩ = some (.int .i64 sq) := fun x => (S0.out.bl x.ok).cell 1
          have rS2 : ∀ x : Held (Below wr.heap.size wr), x.w.cell? ⟨w.heap.size, 2, none⟩ = some (.int .i64 fi) := fun x => (S0.out.bl x.ok).cell 2
          have rS3 : ∀ x : Held (Below wr.heap.size wr), x.w.cell? ⟨w.heap.size, 3, none⟩ = some (.int .i64 wo) := fun x => (S0.out.bl x.ok).cell 3
          have rS4 : ∀ x : Held (Below wr.heap.size wr), x.w.cell? ⟨w.heap.size, 4, none⟩ = some (.int .i64 de) := fun x => (S0.out.bl x.ok).cell 4
          have px0 : ∀ x : Held (Below wr.heap.size wr), x.w.cell? ⟨xb, k * 2, none⟩ = some ((.slice Ak (xs k).length ck)) := fun x => by rw [← EK.out]; exact ((X0.out.bl x.ok).cell (k * 2)).trans (play_cell vs ts _ HK3.out).1
          have px1 : ∀ x : Held (Below wr.heap.size wr), x.w.cell? ⟨xb, k * 2 + 1, none⟩ = some (.int .i64 (ts k)) := fun x => ((X0.out.bl x.ok).cell (k * 2 + 1)).trans (play_cell vs ts _ HK3.out).2
          refine drawn_bars (S := (Below wr.heap.size wr)) [([0, 1, 2, 3, 4, 5, 6, 7, 8, 9, 10], 11)] [12, 13, 14, 15, 16] (by kernel_rfl) (by kernel_rfl) (by kernel_rfl) rfl (Below.refl _ _).drew ?_
          refine Phased.go ?_
          simp only [pick, List.map_cons, List.map_nil, List.getElem?_cons_zero, List.getElem?_cons_succ, Option.getD_some]
          repeat (go_big_quiet_step (fail))
          refine wpQuiet_nil ?_
          go_wp2_with fail
          refine HNW.out.mono ?_; rintro e w7 ⟨rfl, hl4⟩
          have hl5 := bl ((Below.refl wr.heap.size wr).drew) hl4
          go_wp2_with fail
          refine behind_normal ⟨(Below wr.heap.size wr), fun W h => h, hl5, ?_⟩
          refine Phased.end_ ?_
          have hne5 : Nonempty (Held (fun W => W = w7)) := ⟨⟨_, rfl⟩⟩
          simp only [pick, List.map_cons, List.map_nil, List.getElem?_cons_zero, List.getElem?_cons_succ, Option.getD_some]
          repeat (go_big_quiet_step (fail))
          refine wpQuiet_nil ?_
          clear hne5 hne rS0 rS1 rS2 rS3 rS4 px0 px1 HNW hl4
          have ee : Ex (fun _ => False) wr w7 := Ex.of_below hl5
          have K_1 := Lib.hid (K0.out.ex ee (fun h => h) (fun h => h))
          have R_1 := Lib.hid (R0.out.ex ee (fun h => h))
          have S_1 := Lib.hid (S0.out.ex ee (fun h => h))
          have X_1 := Lib.hid (X0.out.ex ee (fun h => h))
          have A_1 := Lib.hid (A0_.out.ex ee (fun h => h))
          have C_1 := Lib.hid (C0.out.ex ee (fun h => h))
          have Z_1 := Lib.hid (Z0.out.ex ee (fun b_ h_ => h_.elim))
          have L_1 := Lib.hid (Ex.below L0.out ee (fun k hk => hk.elim))
          clear ee K0 R0 S0 X0 A0_ C0 Z0 L0 hl5
          go_upto_region 13 with fail
          have HPL := Lib.hid (fun W => plain_any (⟨ow, sq, fi, wo, de⟩ : Spot) W)
          unfold Spot.val at HPL
          simp only at HPL
          have hne : Nonempty (Held (Below w7.heap.size w7)) := ⟨⟨w7, (Below.refl _ _)⟩⟩
          have rS0 : ∀ x : Held (Below w7.heap.size w7), x.w.cell? ⟨w.heap.size, 0, none⟩ = some (.int .i64 ow) := fun x => (S_1.out.bl x.ok).cell 0
          have rS1 : ∀ x : Held (Below w7.heap.size w7), x.w.cell? ⟨w.heap.size, 1, none⟩ = some (.int .i64 sq) := fun x => (S_1.out.bl x.ok).cell 1
          have rS2 : ∀ x : Held (Below w7.heap.size w7), x.w.cell? ⟨w.heap.size, 2, none⟩ = some (.int .i64 fi) := fun x => (S_1.out.bl x.ok).cell 2
          have rS3 : ∀ x : Held (Below w7.heap.size w7), x.w.cell? ⟨w.heap.size, 3, none⟩ = some (.int .i64 wo) := fun x => (S_1.out.bl x.ok).cell 3
          have rS4 : ∀ x : Held (Below w7.heap.size w7), x.w.cell? ⟨w.heap.size, 4, none⟩ = some (.int .i64 de) := fun x => (S_1.out.bl x.ok).cell 4
          have px0 : ∀ x : Held (Below w7.heap.size w7), x.w.cell? ⟨xb, k * 2, none⟩ = some ((.slice Ak (xs k).length ck)) := fun x => by rw [← EK.out]; exact ((X_1.out.bl x.ok).cell (k * 2)).trans (play_cell vs ts _ HK3.out).1
          have px1 : ∀ x : Held (Below w7.heap.size w7), x.w.cell? ⟨xb, k * 2 + 1, none⟩ = some (.int .i64 (ts k)) := fun x => ((X_1.out.bl x.ok).cell (k * 2 + 1)).trans (play_cell vs ts _ HK3.out).2
          refine drawn_bars (S := (Below w7.heap.size w7)) [([0, 2, 3, 4, 5, 6, 7, 8, 9, 10, 11], 1), ([], 12)] [13, 14, 15, 16, 17] (by kernel_rfl) (by kernel_rfl) (by kernel_rfl) rfl (Below.refl _ _).drew ?_
          refine Phased.go ?_
          simp only [pick, List.map_cons, List.map_nil, List.getElem?_cons_zero, List.getElem?_cons_succ, Option.getD_some]
          repeat (go_big_quiet_step (fail))
          refine wpQuiet_nil ?_
          go_wp2_with fail
          refine (HPL.out _).mono ?_; rintro e w8 ⟨rfl, hl4⟩
          have hl5 := bl ((Below.refl w7.heap.size w7).drew) hl4
          go_wp2_with fail
          refine behind_normal ⟨(Below w7.heap.size w7), fun W h => h, hl5, ?_⟩
          refine Phased.go ?_
          simp only [pick, List.map_cons, List.map_nil, List.getElem?_cons_zero, List.getElem?_cons_succ, Option.getD_some]
          repeat (go_big_quiet_step (fail))
          refine wpQuiet_nil ?_
          have HNF := Lib.hid (fNew_may (⟨ow, sq, fi, wo, de⟩ : Spot) (ts k) (.slice Ak (xs k).length ck) w8 HWMAY.out)
          unfold Spot.val at HNF
          simp only at HNF
          go_wp2_with fail
          refine HNF.out.mono ?_; rintro e w9 ⟨rfl, hl6⟩
          have hl7 := bl hl5 hl6
          go_wp2_with fail
          refine behind_normal ⟨(Below w7.heap.size w7), fun W h => h, hl7, ?_⟩
          refine Phased.end_ ?_
          have hne5 : Nonempty (Held (fun W => W = w9)) := ⟨⟨_, rfl⟩⟩
          simp only [pick, List.map_cons, List.map_nil, List.getElem?_cons_zero, List.getElem?_cons_succ, Option.getD_some]
          repeat (go_big_quiet_step (fail))
          refine wpQuiet_nil ?_
          clear hne5 hne rS0 rS1 rS2 rS3 rS4 px0 px1 HNF hl4 hl5 hl6
          have ee : Ex (fun _ => False) w7 w9 := Ex.of_below hl7
          have K_2 := Lib.hid (K_1.out.ex ee (fun h => h) (fun h => h))
          have R_2 := Lib.hid (R_1.out.ex ee (fun h => h))
          have S_2 := Lib.hid (S_1.out.ex ee (fun h => h))
          have X_2 := Lib.hid (X_1.out.ex ee (fun h => h))
          have A_2 := Lib.hid (A_1.out.ex ee (fun h => h))
          have C_2 := Lib.hid (C_1.out.ex ee (fun h => h))
          have Z_2 := Lib.hid (Z_1.out.ex ee (fun b_ h_ => h_.elim))
          have L_2 := Lib.hid (Ex.below L_1.out ee (fun k hk => hk.elim))
          clear ee K_1 R_1 S_1 X_1 A_1 C_1 Z_1 L_1 hl7
          go_upto_region 14 with fail
          have HMO := Lib.hid (WMost_any (⟨ow, sq, fi, wo, de⟩ : Spot) (ts k))
          have HMF := Lib.hid (fMost_any (⟨ow, sq, fi, wo, de⟩ : Spot) (ts k))
          unfold Spot.val at HMO HMF
          simp only at HMO HMF
          have hne : Nonempty (Held (Below w9.heap.size w9)) := ⟨⟨w9, (Below.refl _ _)⟩⟩
          have rS0 : ∀ x : Held (Below w9.heap.size w9), x.w.cell? ⟨w.heap.size, 0, none⟩ = some (.int .i64 ow) := fun x => (S_2.out.bl x.ok).cell 0
          have rS1 : ∀ x : Held (Below w9.heap.size w9), x.w.cell? ⟨w.heap.size, 1, none⟩ = some (.int .i64 sq) := fun x => (S_2.out.bl x.ok).cell 1
          have rS2 : ∀ x : Held (Below w9.heap.size w9), x.w.cell? ⟨w.heap.size, 2, none⟩ = some (.int .i64 fi) := fun x => (S_2.out.bl x.ok).cell 2
          have rS3 : ∀ x : Held (Below w9.heap.size w9), x.w.cell? ⟨w.heap.size, 3, none⟩ = some (.int .i64 wo) := fun x => (S_2.out.bl x.ok).cell 3
          have rS4 : ∀ x : Held (Below w9.heap.size w9), x.w.cell? ⟨w.heap.size, 4, none⟩ = some (.int .i64 de) := fun x => (S_2.out.bl x.ok).cell 4
          have px0 : ∀ x : Held (Below w9.heap.size w9), x.w.cell? ⟨xb, k * 2, none⟩ = some ((.slice Ak (xs k).length ck)) := fun x => by rw [← EK.out]; exact ((X_2.out.bl x.ok).cell (k * 2)).trans (play_cell vs ts _ HK3.out).1
          have px1 : ∀ x : Held (Below w9.heap.size w9), x.w.cell? ⟨xb, k * 2 + 1, none⟩ = some (.int .i64 (ts k)) := fun x => ((X_2.out.bl x.ok).cell (k * 2 + 1)).trans (play_cell vs ts _ HK3.out).2
          refine drawn_bars (S := (Below w9.heap.size w9)) [([0, 1, 2, 3, 4, 5, 6, 7, 8, 9, 10, 11, 12, 13, 14, 15, 16, 18, 20, 21, 22, 23, 24], 17), ([], 19), ([], 25)] [26, 27] (by kernel_rfl) (by kernel_rfl) (by kernel_rfl) rfl (Below.refl _ _).drew ?_
          refine Phased.go ?_
          simp only [pick, List.map_cons, List.map_nil, List.getElem?_cons_zero, List.getElem?_cons_succ, Option.getD_some]
          repeat (go_big_quiet_step (fail))
          refine wpQuiet_nil ?_
          go_wp2_with fail
          refine (HMO.out _).mono ?_; rintro e w10 ⟨rfl, hl4⟩
          have hl5 := bl ((Below.refl w9.heap.size w9).drew) hl4
          go_wp2_with fail
          refine behind_normal ⟨(Below w9.heap.size w9), fun W h => h, hl5, ?_⟩
          refine Phased.go ?_
          simp only [pick, List.map_cons, List.map_nil, List.getElem?_cons_zero, List.getElem?_cons_succ, Option.getD_some]
          repeat (go_big_quiet_step (fail))
          refine wpQuiet_nil ?_
          go_wp2_with fail
          refine (HPL.out _).mono ?_; rintro e w11 ⟨rfl, hl6⟩
          have hl7 := bl hl5 hl6
          go_wp2_with fail
          refine behind_normal ⟨(Below w9.heap.size w9), fun W h => h, hl7, ?_⟩
          refine Phased.go ?_
          simp only [pick, List.map_cons, List.map_nil, List.getElem?_cons_zero, List.getElem?_cons_succ, Option.getD_some]
          repeat (go_big_quiet_step (fail))
          refine wpQuiet_nil ?_
          go_wp2_with fail
          refine (HMF.out _).mono ?_; rintro e w12 ⟨rfl, hl8⟩
          have hl9 := bl hl7 hl8
          go_wp2_with fail
          refine behind_normal ⟨(Below w9.heap.size w9), fun W h => h, hl9, ?_⟩
          refine Phased.end_ ?_
          have hne5 : Nonempty (Held (fun W => W = w12)) := ⟨⟨_, rfl⟩⟩
          simp only [pick, List.map_cons, List.map_nil, List.getElem?_cons_zero, List.getElem?_cons_succ, Option.getD_some]
          repeat (go_big_quiet_step (fail))
          refine wpQuiet_nil ?_
          clear hne5 hne rS0 rS1 rS2 rS3 rS4 px0 px1 HMO HMF HPL hl4 hl5 hl6 hl7 hl8
          have ee : Ex (fun _ => False) w9 w12 := Ex.of_below hl9
          have K_3 := Lib.hid (K_2.out.ex ee (fun h => h) (fun h => h))
          have R_3 := Lib.hid (R_2.out.ex ee (fun h => h))
          have S_3 := Lib.hid (S_2.out.ex ee (fun h => h))
          have X_3 := Lib.hid (X_2.out.ex ee (fun h => h))
          have A_3 := Lib.hid (A_2.out.ex ee (fun h => h))
          have C_3 := Lib.hid (C_2.out.ex ee (fun h => h))
          have Z_3 := Lib.hid (Z_2.out.ex ee (fun b_ h_ => h_.elim))
          have L_3 := Lib.hid (Ex.below L_2.out ee (fun k hk => hk.elim))
          clear ee K_2 R_2 S_2 X_2 A_2 C_2 Z_2 L_2 hl9
          have af := A_3.out.frozen k
          have cf := C_3.out.frozen k
          have aq := (A_3.out.cell k).trans (pArr_cell px HK3.out)
          have cq := (C_3.out.cell k).trans (fArr_cell px HK3.out)
          rw [HPK.out] at aq cq
          have aq2 : w12.cell? ⟨a1, k, none⟩ = some (.pointer none) := aq
          have cq2 : w12.cell? ⟨a2, k, none⟩ = some (.pointer none) := cq
          clear aq cq
          have hne1 : ¬ a1 = a2 := by have := ORD.out; omega
          have hne2 : ¬ a2 = a1 := by have := ORD.out; omega
          go_wp2_with fail
          clear af cf aq2 cq2 hne1 hne2
          have bb := A_3.out.set_ k (.pointer (pAddr none))
          rw [pArr_set px HK3.out, updP_none HPK.out] at bb
          have BB := Lib.hid bb
          clear bb
          have ee : Ex (fun k => k = a1) w12 (w12.setCell ⟨a1, k, none⟩ (.pointer none)) := (Ex.refl (fun b => b = a1) w12).setCell (q := ⟨a1, k, none⟩) (.inl rfl) (.pointer none)
          have K_4 := Lib.hid (K_3.out.ex ee (by have o_ := ORD.out; omega) (by have o_ := ORD.out; omega))
          have R_4 := Lib.hid (R_3.out.ex ee (by have o_ := ORD.out; omega))
          have S_4 := Lib.hid (S_3.out.ex ee (by have o_ := ORD.out; omega))
          have X_4 := Lib.hid (X_3.out.ex ee (by have o_ := ORD.out; omega))
          have C_4 := Lib.hid (C_3.out.ex ee (by have o_ := ORD.out; omega))
          have Z_4 := Lib.hid (Z_3.out.ex ee (fun b_ h_ => by have o_ := ORD.out; have h_ : b_ = a1 := h_; first | omega | (show _ ∨ _; omega)))
          have L_4 := Lib.hid (Ex.below L_3.out ee (fun k hk => by have o_ := ORD.out; have hk : k = a1 := hk; omega))
          have A_4 := Lib.hid (BB.out)
          clear ee K_3 R_3 S_3 X_3 A_3 C_3 Z_3 L_3 BB
          have bb := C_4.out.set_ k (.pointer (fAddr none))
          rw [fArr_set px HK3.out, updP_none HPK.out] at bb
          have BB := Lib.hid bb
          clear bb
          have ee : Ex (fun k => k = a2) (w12.setCell ⟨a1, k, none⟩ (.pointer none)) ((w12.setCell ⟨a1, k, none⟩ (.pointer none)).setCell ⟨a2, k, none⟩ (.pointer none)) := (Ex.refl (fun b => b = a2) (w12.setCell ⟨a1, k, none⟩ (.pointer none))).setCell (q := ⟨a2, k, none⟩) (.inl rfl) (.pointer none)
          have K_5 := Lib.hid (K_4.out.ex ee (by have o_ := ORD.out; omega) (by have o_ := ORD.out; omega))
          have R_5 := Lib.hid (R_4.out.ex ee (by have o_ := ORD.out; omega))
          have S_5 := Lib.hid (S_4.out.ex ee (by have o_ := ORD.out; omega))
          have X_5 := Lib.hid (X_4.out.ex ee (by have o_ := ORD.out; omega))
          have A_5 := Lib.hid (A_4.out.ex ee (by have o_ := ORD.out; omega))
          have Z_5 := Lib.hid (Z_4.out.ex ee (fun b_ h_ => by have o_ := ORD.out; have h_ : b_ = a2 := h_; first | omega | (show _ ∨ _; omega)))
          have L_5 := Lib.hid (Ex.below L_4.out ee (fun k hk => by have o_ := ORD.out; have hk : k = a2 := hk; omega))
          have C_5 := Lib.hid (BB.out)
          clear ee K_4 R_4 S_4 X_4 A_4 C_4 Z_4 L_4 BB
          exact ⟨⟨k + 1, px, by have := HK3.out; omega, by go_num, fun j hj => HPN.out j (by omega), K_5.out, R_5.out, S_5.out, X_5.out, A_5.out, C_5.out, Z_5.out, C_5.out.lt, L_5.out⟩, by have := HK3.out; simp [intOf]; omega⟩
        | true =>
          by_cases hwd : ((xs k).length : Int) = wo
          · skip
            obtain ⟨bk, ok, rfl, hbk, hck⟩ := HFK.out (by intro hh; have h9 := (mayF_true hmay).1; have := (of_decide_eq_true h9).1; rw [hh] at hwd; simp at hwd; simp only at this; omega)
            have HBK := Lib.hid hbk
            have HCK := Lib.hid hck
            clear hbk hck
            have HWMAY := Lib.hid hmay
            have HWD := Lib.hid hwd
            go_upto_region 12 with fail
            have HNW := Lib.hid (WNew_in (⟨ow, sq, fi, wo, de⟩ : Spot) (ts k) bk ok (xs k).length ck (xs k) wr.drew HWMAY.out (by exact HWD.out) rfl (Nat.lt_of_lt_of_le HBK.out L0.out.size) (fun i hi => (L0.out.drew.cell (p := ⟨bk, ok + i, none⟩) HBK.out).trans (HCK.out i hi)))
            unfold Spot.val at HNW
            simp only at HNW
            have hne : Nonempty (Held (Below wr.heap.size wr)) := ⟨⟨wr, (Below.refl _ _)⟩⟩
            have rS0 : ∀ x : Held (Below wr.heap.size wr), x.w.cell? ⟨w.heap.size, 0, none⟩ = some (.int .i64 ow) := fun x => (S0.out.bl x.ok).cell 0
            have rS1 : ∀ x : Held (Below wr.heap.size wr), x.w.cell? ⟨w.heap.size, 1, none⟩ = some (.int .i64 sq) := fun x => (S0.out.bl x.ok).cell 1
            have rS2 : ∀ x : Held (Below wr.heap.size wr), x.w.cell? ⟨w.heap.size, 2, none⟩ = some (.int .i64 fi) := fun x => (S0.out.bl x.ok).cell 2
            have rS3 : ∀ x : Held (Below wr.heap.size wr), x.w.cell? ⟨w.heap.size, 3, none⟩ = some (.int .i64 wo) := fun x => (S0.out.bl x.ok).cell 3
            have rS4 : ∀ x : Held (Below wr.heap.size wr), x.w.cell? ⟨w.heap.size, 4, none⟩ = some (.int .i64 de) := fun x => (S0.out.bl x.ok).cell 4
            have px0 : ∀ x : Held (Below wr.heap.size wr), x.w.cell? ⟨xb, k * 2, none⟩ = some ((.slice (some ⟨bk, ok, none⟩) (xs k).length ck)) := fun x => by rw [← EK.out]; exact ((X0.out.bl x.ok).cell (k * 2)).trans (play_cell vs ts _ HK3.out).1
            have px1 : ∀ x : Held (Below wr.heap.size wr), x.w.cell? ⟨xb, k * 2 + 1, none⟩ = some (.int .i64 (ts k)) := fun x => ((X0.out.bl x.ok).cell (k * 2 + 1)).trans (play_cell vs ts _ HK3.out).2
            refine drawn_bars (S := (Below wr.heap.size wr)) [([0, 1, 2, 3, 4, 5, 6, 7, 8, 9, 10], 11)] [12, 13, 14, 15, 16] (by kernel_rfl) (by kernel_rfl) (by kernel_rfl) rfl (Below.refl _ _).drew ?_
            refine Phased.go ?_
            simp only [pick, List.map_cons, List.map_nil, List.getElem?_cons_zero, List.getElem?_cons_succ, Option.getD_some]
            repeat (go_big_quiet_step (fail))
            refine wpQuiet_nil ?_
            go_wp2_with fail
            refine HNW.out.mono ?_; rintro e w7 ⟨o, r, cc, rfl, ho, q1, q2, hl4⟩
            have hl5 := bl ((Below.refl wr.heap.size wr).drew) hl4
            go_wp2_with fail
            refine behind_normal ⟨(Below wr.heap.size wr), fun W h => h, hl5, ?_⟩
            refine Phased.end_ ?_
            have hne5 : Nonempty (Held (fun W => W = w7)) := ⟨⟨_, rfl⟩⟩
            simp only [pick, List.map_cons, List.map_nil, List.getElem?_cons_zero, List.getElem?_cons_succ, Option.getD_some]
            repeat (go_big_quiet_step (fail))
            refine wpQuiet_nil ?_
            clear hne5 hne rS0 rS1 rS2 rS3 rS4 px0 px1 HNW hl4
            have HB1 := Lib.hid hl5
            have HO := Lib.hid ho
            have Q1 := Lib.hid q1
            have Q2 := Lib.hid q2
            clear ho q1 q2
            have ee : Ex (fun _ => False) wr w7 := Ex.of_below hl5
            have K_1 := Lib.hid (K0.out.ex ee (fun h => h) (fun h => h))
            have R_1 := Lib.hid (R0.out.ex ee (fun h => h))
            have S_1 := Lib.hid (S0.out.ex ee (fun h => h))
            have X_1 := Lib.hid (X0.out.ex ee (fun h => h))
            have A_1 := Lib.hid (A0_.out.ex ee (fun h => h))
            have C_1 := Lib.hid (C0.out.ex ee (fun h => h))
            have L_1 := Lib.hid (Ex.below L0.out ee (fun k hk => hk.elim))
            clear ee K0 R0 S0 X0 A0_ C0 L0 hl5
            go_upto_region 13 with fail
            have HPL := Lib.hid (fun W => plain_any (⟨ow, sq, fi, wo, de⟩ : Spot) W)
            unfold Spot.val at HPL
            simp only at HPL
            have hne : Nonempty (Held (Below w7.heap.size w7)) := ⟨⟨w7, (Below.refl _ _)⟩⟩
            have rS0 : ∀ x : Held (Below w7.heap.size w7), x.w.cell? ⟨w.heap.size, 0, none⟩ = some (.int .i64 ow) := fun x => (S_1.out.bl x.ok).cell 0
            have rS1 : ∀ x : Held (Below w7.heap.size w7), x.w.cell? ⟨w.heap.size, 1, none⟩ = some (.int .i64 sq) := fun x => (S_1.out.bl x.ok).cell 1
            have rS2 : ∀ x : Held (Below w7.heap.size w7), x.w.cell? ⟨w.heap.size, 2, none⟩ = some (.int .i64 fi) := fun x => (S_1.out.bl x.ok).cell 2
            have rS3 : ∀ x : Held (Below w7.heap.size w7), x.w.cell? ⟨w.heap.size, 3, none⟩ = some (.int .i64 wo) := fun x => (S_1.out.bl x.ok).cell 3
            have rS4 : ∀ x : Held (Below w7.heap.size w7), x.w.cell? ⟨w.heap.size, 4, none⟩ = some (.int .i64 de) := fun x => (S_1.out.bl x.ok).cell 4
            have px0 : ∀ x : Held (Below w7.heap.size w7), x.w.cell? ⟨xb, k * 2, none⟩ = some ((.slice (some ⟨bk, ok, none⟩) (xs k).length ck)) := fun x => by rw [← EK.out]; exact ((X_1.out.bl x.ok).cell (k * 2)).trans (play_cell vs ts _ HK3.out).1
            have px1 : ∀ x : Held (Below w7.heap.size w7), x.w.cell? ⟨xb, k * 2 + 1, none⟩ = some (.int .i64 (ts k)) := fun x => ((X_1.out.bl x.ok).cell (k * 2 + 1)).trans (play_cell vs ts _ HK3.out).2
            refine drawn_bars (S := (Below w7.heap.size w7)) [([0, 2, 3, 4, 5, 6, 7, 8, 9, 10, 11], 1), ([], 12)] [13, 14, 15, 16, 17] (by kernel_rfl) (by kernel_rfl) (by kernel_rfl) rfl (Below.refl _ _).drew ?_
            refine Phased.go ?_
            simp only [pick, List.map_cons, List.map_nil, List.getElem?_cons_zero, List.getElem?_cons_succ, Option.getD_some]
            repeat (go_big_quiet_step (fail))
            refine wpQuiet_nil ?_
            go_wp2_with fail
            refine (HPL.out _).mono ?_; rintro e w8 ⟨rfl, hl4⟩
            have hl5 := bl ((Below.refl w7.heap.size w7).drew) hl4
            go_wp2_with fail
            refine behind_normal ⟨(Below w7.heap.size w7), fun W h => h, hl5, ?_⟩
            refine Phased.go ?_
            simp only [pick, List.map_cons, List.map_nil, List.getElem?_cons_zero, List.getElem?_cons_succ, Option.getD_some]
            repeat (go_big_quiet_step (fail))
            refine wpQuiet_nil ?_
            have HNF := Lib.hid (fNew_in (⟨ow, sq, fi, wo, de⟩ : Spot) (ts k) (some ⟨bk, ok, none⟩) (xs k).length ck w8 HWMAY.out (by exact HWD.out))
            unfold Spot.val at HNF
            simp only at HNF
            go_wp2_with fail
            refine HNF.out.mono ?_; rintro e w9 ⟨f, rfl, hr, q3, hl6⟩
            have Q3 := Lib.hid (Nat.le_trans hl5.size q3)
            have HR := Lib.hid (show RefAt w9 f (⟨ow, sq, fi, wo, de⟩ : Spot) (ts k) (vs k) WS.zero by rw [EK.out]; exact hr)
            clear hr q3
            have hl7 := bl hl5 hl6
            go_wp2_with fail
            refine behind_normal ⟨(Below w7.heap.size w7), fun W h => h, hl7, ?_⟩
            refine Phased.end_ ?_
            have hne5 : Nonempty (Held (fun W => W = w9)) := ⟨⟨_, rfl⟩⟩
            simp only [pick, List.map_cons, List.map_nil, List.getElem?_cons_zero, List.getElem?_cons_succ, Option.getD_some]
            repeat (go_big_quiet_step (fail))
            refine wpQuiet_nil ?_
            clear hne5 hne rS0 rS1 rS2 rS3 rS4 px0 px1 HNF hl4 hl5 hl6
            have HB2 := Lib.hid hl7
            have ee : Ex (fun _ => False) w7 w9 := Ex.of_below hl7
            have K_2 := Lib.hid (K_1.out.ex ee (fun h => h) (fun h => h))
            have R_2 := Lib.hid (R_1.out.ex ee (fun h => h))
            have S_2 := Lib.hid (S_1.out.ex ee (fun h => h))
            have X_2 := Lib.hid (X_1.out.ex ee (fun h => h))
            have A_2 := Lib.hid (A_1.out.ex ee (fun h => h))
            have C_2 := Lib.hid (C_1.out.ex ee (fun h => h))
            have L_2 := Lib.hid (Ex.below L_1.out ee (fun k hk => hk.elim))
            clear ee K_1 R_1 S_1 X_1 A_1 C_1 L_1 hl7
            have hoth := Lib.hid (Nat.le_trans HB1.out.size HB2.out.size)
            have Z9 := Lib.hid (Z0.out.new HK3.out HPK.out HB1.out HB2.out SZ0.out HO.out HR.out (WInv.zero_ HWMAY.out (by exact HWD.out) HWF.out) (WInv.zero_ HWMAY.out (by exact HWD.out) HWF.out) (.inl rfl) Q1.out Q2.out Q3.out)
            clear Z0 HO HR Q1 Q2 Q3 HB1 HB2 hoth
            go_upto_region 14 with fail
            have HMO := Lib.hid (WMost_any (⟨ow, sq, fi, wo, de⟩ : Spot) (ts k))
            have HMF := Lib.hid (fMost_any (⟨ow, sq, fi, wo, de⟩ : Spot) (ts k))
            unfold Spot.val at HMO HMF
            simp only at HMO HMF
            have hne : Nonempty (Held (Below w9.heap.size w9)) := ⟨⟨w9, (Below.refl _ _)⟩⟩
            have rS0 : ∀ x : Held (Below w9.heap.size w9), x.w.cell? ⟨w.heap.size, 0, none⟩ = some (.int .i64 ow) := fun x => (S_2.out.bl x.ok).cell 0
            have rS1 : ∀ x : Held (Below w9.heap.size w9), x.w.cell? ⟨w.heap.size, 1, none⟩ = some (.int .i64 sq) := fun x => (S_2.out.bl x.ok).cell 1
            have rS2 : ∀ x : Held (Below w9.heap.size w9), x.w.cell? ⟨w.heap.size, 2, none⟩ = some (.int .i64 fi) := fun x => (S_2.out.bl x.ok).cell 2
            have rS3 : ∀ x : Held (Below w9.heap.size w9), x.w.cell? ⟨w.heap.size, 3, none⟩ = some (.int .i64 wo) := fun x => (S_2.out.bl x.ok).cell 3
            have rS4 : ∀ x : Held (Below w9.heap.size w9), x.w.cell? ⟨w.heap.size, 4, none⟩ = some (.int .i64 de) := fun x => (S_2.out.bl x.ok).cell 4
            have px0 : ∀ x : Held (Below w9.heap.size w9), x.w.cell? ⟨xb, k * 2, none⟩ = some ((.slice (some ⟨bk, ok, none⟩) (xs k).length ck)) := fun x => by rw [← EK.out]; exact ((X_2.out.bl x.ok).cell (k * 2)).trans (play_cell vs ts _ HK3.out).1
            have px1 : ∀ x : Held (Below w9.heap.size w9), x.w.cell? ⟨xb, k * 2 + 1, none⟩ = some (.int .i64 (ts k)) := fun x => ((X_2.out.bl x.ok).cell (k * 2 + 1)).trans (play_cell vs ts _ HK3.out).2
            refine drawn_bars (S := (Below w9.heap.size w9)) [([0, 1, 2, 3, 4, 5, 6, 7, 8, 9, 10, 11, 12, 13, 14, 15, 16, 18, 20, 21, 22, 23, 24], 17), ([], 19), ([], 25)] [26, 27] (by kernel_rfl) (by kernel_rfl) (by kernel_rfl) rfl (Below.refl _ _).drew ?_
            refine Phased.go ?_
            simp only [pick, List.map_cons, List.map_nil, List.getElem?_cons_zero, List.getElem?_cons_succ, Option.getD_some]
            repeat (go_big_quiet_step (fail))
            refine wpQuiet_nil ?_
            go_wp2_with fail
            refine (HMO.out _).mono ?_; rintro e w10 ⟨rfl, hl4⟩
            have hl5 := bl ((Below.refl w9.heap.size w9).drew) hl4
            go_wp2_with fail
            refine behind_normal ⟨(Below w9.heap.size w9), fun W h => h, hl5, ?_⟩
            refine Phased.go ?_
            simp only [pick, List.map_cons, List.map_nil, List.getElem?_cons_zero, List.getElem?_cons_succ, Option.getD_some]
            repeat (go_big_quiet_step (fail))
            refine wpQuiet_nil ?_
            go_wp2_with fail
            refine (HPL.out _).mono ?_; rintro e w11 ⟨rfl, hl6⟩
            have hl7 := bl hl5 hl6
            go_wp2_with fail
            refine behind_normal ⟨(Below w9.heap.size w9), fun W h => h, hl7, ?_⟩
            refine Phased.go ?_
            simp only [pick, List.map_cons, List.map_nil, List.getElem?_cons_zero, List.getElem?_cons_succ, Option.getD_some]
            repeat (go_big_quiet_step (fail))
            refine wpQuiet_nil ?_
            go_wp2_with fail
            refine (HMF.out _).mono ?_; rintro e w12 ⟨rfl, hl8⟩
            have hl9 := bl hl7 hl8
            go_wp2_with fail
            refine behind_normal ⟨(Below w9.heap.size w9), fun W h => h, hl9, ?_⟩
            refine Phased.end_ ?_
            have hne5 : Nonempty (Held (fun W => W = w12)) := ⟨⟨_, rfl⟩⟩
            simp only [pick, List.map_cons, List.map_nil, List.getElem?_cons_zero, List.getElem?_cons_succ, Option.getD_some]
            repeat (go_big_quiet_step (fail))
            refine wpQuiet_nil ?_
            clear hne5 hne rS0 rS1 rS2 rS3 rS4 px0 px1 HMO HMF HPL hl4 hl5 hl6 hl7 hl8
            have ee : Ex (fun _ => False) w9 w12 := Ex.of_below hl9
            have K_3 := Lib.hid (K_2.out.ex ee (fun h => h) (fun h => h))
            have R_3 := Lib.hid (R_2.out.ex ee (fun h => h))
            have S_3 := Lib.hid (S_2.out.ex ee (fun h => h))
            have X_3 := Lib.hid (X_2.out.ex ee (fun h => h))
            have A_3 := Lib.hid (A_2.out.ex ee (fun h => h))
            have C_3 := Lib.hid (C_2.out.ex ee (fun h => h))
            have Z_3 := Lib.hid (Z9.out.ex ee (fun b_ h_ => h_.elim))
            have L_3 := Lib.hid (Ex.below L_2.out ee (fun k hk => hk.elim))
            clear ee K_2 R_2 S_2 X_2 A_2 C_2 Z9 L_2 hl9
            have af := A_3.out.frozen k
            have cf := C_3.out.frozen k
            have aq := (A_3.out.cell k).trans (pArr_cell px HK3.out)
            have cq := (C_3.out.cell k).trans (fArr_cell px HK3.out)
            rw [HPK.out] at aq cq
            have aq2 : w12.cell? ⟨a1, k, none⟩ = some (.pointer none) := aq
            have cq2 : w12.cell? ⟨a2, k, none⟩ = some (.pointer none) := cq
            clear aq cq
            have hne1 : ¬ a1 = a2 := by have := ORD.out; omega
            have hne2 : ¬ a2 = a1 := by have := ORD.out; omega
            go_wp2_with fail
            clear af cf aq2 cq2 hne1 hne2
            have bb := A_3.out.set_ k (.pointer (pAddr (some (o, r, cc, WS.zero, f, WS.zero))))
            rw [pArr_set px HK3.out] at bb
            have BB := Lib.hid bb
            clear bb
            have ee : Ex (fun k => k = a1) w12 (w12.setCell ⟨a1, k, none⟩ (.pointer (some ⟨o, 0, none⟩))) := (Ex.refl (fun b => b = a1) w12).setCell (q := ⟨a1, k, none⟩) (.inl rfl) (.pointer (some ⟨o, 0, none⟩))
            have K_4 := Lib.hid (K_3.out.ex ee (by have o_ := ORD.out; omega) (by have o_ := ORD.out; omega))
            have R_4 := Lib.hid (R_3.out.ex ee (by have o_ := ORD.out; omega))
            have S_4 := Lib.hid (S_3.out.ex ee (by have o_ := ORD.out; omega))
            have X_4 := Lib.hid (X_3.out.ex ee (by have o_ := ORD.out; omega))
            have C_4 := Lib.hid (C_3.out.ex ee (by have o_ := ORD.out; omega))
            have Z_4 := Lib.hid (Z_3.out.ex ee (fun b_ h_ => by have o_ := ORD.out; have h_ : b_ = a1 := h_; first | omega | (show _ ∨ _; omega)))
            have L_4 := Lib.hid (Ex.below L_3.out ee (fun k hk => by have o_ := ORD.out; have hk : k = a1 := hk; omega))
            have A_4 := Lib.hid (BB.out)
            clear ee K_3 R_3 S_3 X_3 A_3 C_3 Z_3 L_3 BB
            have bb := C_4.out.set_ k (.pointer (fAddr (some (o, r, cc, WS.zero, f, WS.zero))))
            rw [fArr_set px HK3.out] at bb
            have BB := Lib.hid bb
            clear bb
            have ee : Ex (fun k => k = a2) (w12.setCell ⟨a1, k, none⟩ (.pointer (some ⟨o, 0, none⟩))) ((w12.setCell ⟨a1, k, none⟩ (.pointer (some ⟨o, 0, none⟩))).setCell ⟨a2, k, none⟩ (.pointer (some ⟨f, 0, none⟩))) := (Ex.refl (fun b => b = a2) (w12.setCell ⟨a1, k, none⟩ (.pointer (some ⟨o, 0, none⟩)))).setCell (q := ⟨a2, k, none⟩) (.inl rfl) (.pointer (some ⟨f, 0, none⟩))
            have K_5 := Lib.hid (K_4.out.ex ee (by have o_ := ORD.out; omega) (by have o_ := ORD.out; omega))
            have R_5 := Lib.hid (R_4.out.ex ee (by have o_ := ORD.out; omega))
            have S_5 := Lib.hid (S_4.out.ex ee (by have o_ := ORD.out; omega))
            have X_5 := Lib.hid (X_4.out.ex ee (by have o_ := ORD.out; omega))
            have A_5 := Lib.hid (A_4.out.ex ee (by have o_ := ORD.out; omega))
            have Z_5 := Lib.hid (Z_4.out.ex ee (fun b_ h_ => by have o_ := ORD.out; have h_ : b_ = a2 := h_; first | omega | (show _ ∨ _; omega)))
            have L_5 := Lib.hid (Ex.below L_4.out ee (fun k hk => by have o_ := ORD.out; have hk : k = a2 := hk; omega))
            have C_5 := Lib.hid (BB.out)
            clear ee K_4 R_4 S_4 X_4 A_4 C_4 Z_4 L_4 BB
            exact ⟨⟨k + 1, (updP px k (some (o, r, cc, WS.zero, f, WS.zero))), by have := HK3.out; omega, by go_num, fun j hj => by rw [updP_ne _ _ (by omega)]; exact HPN.out j (by omega), K_5.out, R_5.out, S_5.out, X_5.out, A_5.out, C_5.out, Z_5.out, C_5.out.lt, L_5.out⟩, by have := HK3.out; simp [intOf]; omega⟩
          · skip
            have HWMAY := Lib.hid hmay
            have HWD := Lib.hid hwd
            go_upto_region 12 with fail
            have HNW := Lib.hid (WNew_width (⟨ow, sq, fi, wo, de⟩ : Spot) (ts k) Ak (xs k).length ck wr.drew HWMAY.out (by exact HWD.out))
            unfold Spot.val at HNW
            simp only at HNW
            have hne : Nonempty (Held (Below wr.heap.size wr)) := ⟨⟨wr, (Below.refl _ _)⟩⟩
            have rS0 : ∀ x : Held (Below wr.heap.size wr), x.w.cell? ⟨w.heap.size, 0, none⟩ = some (.int .i64 ow) := fun x => (S0.out.bl x.ok).cell 0
            have rS1 : ∀ x : Held (Below wr.heap.size wr), x.w.cell? ⟨w.heap.size, 1, none⟩ = some (.int .i64 sq) := fun x => (S0.out.bl x.ok).cell 1
            have rS2 : ∀ x : Held (Below wr.heap.size wr), x.w.cell? ⟨w.heap.size, 2, none⟩ = some (.int .i64 fi) := fun x => (S0.out.bl x.ok).cell 2
            have rS3 : ∀ x : Held (Below wr.heap.size wr), x.w.cell? ⟨w.heap.size, 3, none⟩ = some (.int .i64 wo) := fun x => (S0.out.bl x.ok).cell 3
            have rS4 : ∀ x : Held (Below wr.heap.size wr), x.w.cell? ⟨w.heap.size, 4, none⟩ = some (.int .i64 de) := fun x => (S0.out.bl x.ok).cell 4
            have px0 : ∀ x : Held (Below wr.heap.size wr), x.w.cell? ⟨xb, k * 2, none⟩ = some ((.slice Ak (xs k).length ck)) := fun x => by rw [← EK.out]; exact ((X0.out.bl x.ok).cell (k * 2)).trans (play_cell vs ts _ HK3.out).1
            have px1 : ∀ x : Held (Below wr.heap.size wr), x.w.cell? ⟨xb, k * 2 + 1, none⟩ = some (.int .i64 (ts k)) := fun x => ((X0.out.bl x.ok).cell (k * 2 + 1)).trans (play_cell vs ts _ HK3.out).2
            refine drawn_bars (S := (Below wr.heap.size wr)) [([0, 1, 2, 3, 4, 5, 6, 7, 8, 9, 10], 11)] [12, 13, 14, 15, 16] (by kernel_rfl) (by kernel_rfl) (by kernel_rfl) rfl (Below.refl _ _).drew ?_
            refine Phased.go ?_
            simp only [pick, List.map_cons, List.map_nil, List.getElem?_cons_zero, List.getElem?_cons_succ, Option.getD_some]
            repeat (go_big_quiet_step (fail))
            refine wpQuiet_nil ?_
            go_wp2_with fail
            refine HNW.out.mono ?_; rintro e w7 ⟨rfl, hl4⟩
            have hl5 := bl ((Below.refl wr.heap.size wr).drew) hl4
            go_wp2_with fail
            refine behind_normal ⟨(Below wr.heap.size wr), fun W h => h, hl5, ?_⟩
            refine Phased.end_ ?_
            have hne5 : Nonempty (Held (fun W => W = w7)) := ⟨⟨_, rfl⟩⟩
            simp only [pick, List.map_cons, List.map_nil, List.getElem?_cons_zero, List.getElem?_cons_succ, Option.getD_some]
            repeat (go_big_quiet_step (fail))
            refine wpQuiet_nil ?_
            clear hne5 hne rS0 rS1 rS2 rS3 rS4 px0 px1 HNW hl4
            have ee : Ex (fun _ => False) wr w7 := Ex.of_below hl5
            have K_1 := Lib.hid (K0.out.ex ee (fun h => h) (fun h => h))
            have R_1 := Lib.hid (R0.out.ex ee (fun h => h))
            have S_1 := Lib.hid (S0.out.ex ee (fun h => h))
            have X_1 := Lib.hid (X0.out.ex ee (fun h => h))
            have A_1 := Lib.hid (A0_.out.ex ee (fun h => h))
            have C_1 := Lib.hid (C0.out.ex ee (fun h => h))
            have Z_1 := Lib.hid (Z0.out.ex ee (fun b_ h_ => h_.elim))
            have L_1 := Lib.hid (Ex.below L0.out ee (fun k hk => hk.elim))
            clear ee K0 R0 S0 X0 A0_ C0 Z0 L0 hl5
            go_upto_region 13 with fail
            have HPL := Lib.hid (fun W => plain_any (⟨ow, sq, fi, wo, de⟩ : Spot) W)
            unfold Spot.val at HPL
            simp only at HPL
            have hne : Nonempty (Held (Below w7.heap.size w7)) := ⟨⟨w7, (Below.refl _ _)⟩⟩
            have rS0 : ∀ x : Held (Below w7.heap.size w7), x.w.cell? ⟨w.heap.size, 0, none⟩ = some (.int .i64 ow) := fun x => (S_1.out.bl x.ok).cell 0
            have rS1 : ∀ x : Held (Below w7.heap.size w7), x.w.cell? ⟨w.heap.size, 1, none⟩ = some (.int .i64 sq) := fun x => (S_1.out.bl x.ok).cell 1
            have rS2 : ∀ x : Held (Below w7.heap.size w7), x.w.cell? ⟨w.heap.size, 2, none⟩ = some (.int .i64 fi) := fun x => (S_1.out.bl x.ok).cell 2
            have rS3 : ∀ x : Held (Below w7.heap.size w7), x.w.cell? ⟨w.heap.size, 3, none⟩ = some (.int .i64 wo) := fun x => (S_1.out.bl x.ok).cell 3
            have rS4 : ∀ x : Held (Below w7.heap.size w7), x.w.cell? ⟨w.heap.size, 4, none⟩ = some (.int .i64 de) := fun x => (S_1.out.bl x.ok).cell 4
            have px0 : ∀ x : Held (Below w7.heap.size w7), x.w.cell? ⟨xb, k * 2, none⟩ = some ((.slice Ak (xs k).length ck)) := fun x => by rw [← EK.out]; exact ((X_1.out.bl x.ok).cell (k * 2)).trans (play_cell vs ts _ HK3.out).1
            have px1 : ∀ x : Held (Below w7.heap.size w7), x.w.cell? ⟨xb, k * 2 + 1, none⟩ = some (.int .i64 (ts k)) := fun x => ((X_1.out.bl x.ok).cell (k * 2 + 1)).trans (play_cell vs ts _ HK3.out).2
            refine drawn_bars (S := (Below w7.heap.size w7)) [([0, 2, 3, 4, 5, 6, 7, 8, 9, 10, 11], 1), ([], 12)] [13, 14, 15, 16, 17] (by kernel_rfl) (by kernel_rfl) (by kernel_rfl) rfl (Below.refl _ _).drew ?_
            refine Phased.go ?_
            simp only [pick, List.map_cons, List.map_nil, List.getElem?_cons_zero, List.getElem?_cons_succ, Option.getD_some]
            repeat (go_big_quiet_step (fail))
            refine wpQuiet_nil ?_
            go_wp2_with fail
            refine (HPL.out _).mono ?_; rintro e w8 ⟨rfl, hl4⟩
            have hl5 := bl ((Below.refl w7.heap.size w7).drew) hl4
            go_wp2_with fail
            refine behind_normal ⟨(Below w7.heap.size w7), fun W h => h, hl5, ?_⟩
            refine Phased.go ?_
            simp only [pick, List.map_cons, List.map_nil, List.getElem?_cons_zero, List.getElem?_cons_succ, Option.getD_some]
            repeat (go_big_quiet_step (fail))
            refine wpQuiet_nil ?_
            have HNF := Lib.hid (fNew_width (⟨ow, sq, fi, wo, de⟩ : Spot) (ts k) Ak (xs k).length ck w8 HWMAY.out (by exact HWD.out))
            unfold Spot.val at HNF
            simp only at HNF
            go_wp2_with fail
            refine HNF.out.mono ?_; rintro e w9 ⟨rfl, hl6⟩
            have hl7 := bl hl5 hl6
            go_wp2_with fail
            refine behind_normal ⟨(Below w7.heap.size w7), fun W h => h, hl7, ?_⟩
            refine Phased.end_ ?_
            have hne5 : Nonempty (Held (fun W => W = w9)) := ⟨⟨_, rfl⟩⟩
            simp only [pick, List.map_cons, List.map_nil, List.getElem?_cons_zero, List.getElem?_cons_succ, Option.getD_some]
            repeat (go_big_quiet_step (fail))
            refine wpQuiet_nil ?_
            clear hne5 hne rS0 rS1 rS2 rS3 rS4 px0 px1 HNF hl4 hl5 hl6
            have ee : Ex (fun _ => False) w7 w9 := Ex.of_below hl7
            have K_2 := Lib.hid (K_1.out.ex ee (fun h => h) (fun h => h))
            have R_2 := Lib.hid (R_1.out.ex ee (fun h => h))
            have S_2 := Lib.hid (S_1.out.ex ee (fun h => h))
            have X_2 := Lib.hid (X_1.out.ex ee (fun h => h))
            have A_2 := Lib.hid (A_1.out.ex ee (fun h => h))
            have C_2 := Lib.hid (C_1.out.ex ee (fun h => h))
            have Z_2 := Lib.hid (Z_1.out.ex ee (fun b_ h_ => h_.elim))
            have L_2 := Lib.hid (Ex.below L_1.out ee (fun k hk => hk.elim))
            clear ee K_1 R_1 S_1 X_1 A_1 C_1 Z_1 L_1 hl7
            go_upto_region 14 with fail
            have HMO := Lib.hid (WMost_any (⟨ow, sq, fi, wo, de⟩ : Spot) (ts k))
            have HMF := Lib.hid (fMost_any (⟨ow, sq, fi, wo, de⟩ : Spot) (ts k))
            unfold Spot.val at HMO HMF
            simp only at HMO HMF
            have hne : Nonempty (Held (Below w9.heap.size w9)) := ⟨⟨w9, (Below.refl _ _)⟩⟩
            have rS0 : ∀ x : Held (Below w9.heap.size w9), x.w.cell? ⟨w.heap.size, 0, none⟩ = some (.int .i64 ow) := fun x => (S_2.out.bl x.ok).cell 0
            have rS1 : ∀ x : Held (Below w9.heap.size w9), x.w.cell? ⟨w.heap.size, 1, none⟩ = some (.int .i64 sq) := fun x => (S_2.out.bl x.ok).cell 1
            have rS2 : ∀ x : Held (Below w9.heap.size w9), x.w.cell? ⟨w.heap.size, 2, none⟩ = some (.int .i64 fi) := fun x => (S_2.out.bl x.ok).cell 2
            have rS3 : ∀ x : Held (Below w9.heap.size w9), x.w.cell? ⟨w.heap.size, 3, none⟩ = some (.int .i64 wo) := fun x => (S_2.out.bl x.ok).cell 3
            have rS4 : ∀ x : Held (Below w9.heap.size w9), x.w.cell? ⟨w.heap.size, 4, none⟩ = some (.int .i64 de) := fun x => (S_2.out.bl x.ok).cell 4
            have px0 : ∀ x : Held (Below w9.heap.size w9), x.w.cell? ⟨xb, k * 2, none⟩ = some ((.slice Ak (xs k).length ck)) := fun x => by rw [← EK.out]; exact ((X_2.out.bl x.ok).cell (k * 2)).trans (play_cell vs ts _ HK3.out).1
            have px1 : ∀ x : Held (Below w9.heap.size w9), x.w.cell? ⟨xb, k * 2 + 1, none⟩ = some (.int .i64 (ts k)) := fun x => ((X_2.out.bl x.ok).cell (k * 2 + 1)).trans (play_cell vs ts _ HK3.out).2
            refine drawn_bars (S := (Below w9.heap.size w9)) [([0, 1, 2, 3, 4, 5, 6, 7, 8, 9, 10, 11, 12, 13, 14, 15, 16, 18, 20, 21, 22, 23, 24], 17), ([], 19), ([], 25)] [26, 27] (by kernel_rfl) (by kernel_rfl) (by kernel_rfl) rfl (Below.refl _ _).drew ?_
            refine Phased.go ?_
            simp only [pick, List.map_cons, List.map_nil, List.getElem?_cons_zero, List.getElem?_cons_succ, Option.getD_some]
            repeat (go_big_quiet_step (fail))
            refine wpQuiet_nil ?_
            go_wp2_with fail
            refine (HMO.out _).mono ?_; rintro e w10 ⟨rfl, hl4⟩
            have hl5 := bl ((Below.refl w9.heap.size w9).drew) hl4
            go_wp2_with fail
            refine behind_normal ⟨(Below w9.heap.size w9), fun W h => h, hl5, ?_⟩
            refine Phased.go ?_
            simp only [pick, List.map_cons, List.map_nil, List.getElem?_cons_zero, List.getElem?_cons_succ, Option.getD_some]
            repeat (go_big_quiet_step (fail))
            refine wpQuiet_nil ?_
            go_wp2_with fail
            refine (HPL.out _).mono ?_; rintro e w11 ⟨rfl, hl6⟩
            have hl7 := bl hl5 hl6
            go_wp2_with fail
            refine behind_normal ⟨(Below w9.heap.size w9), fun W h => h, hl7, ?_⟩
            refine Phased.go ?_
            simp only [pick, List.map_cons, List.map_nil, List.getElem?_cons_zero, List.getElem?_cons_succ, Option.getD_some]
            repeat (go_big_quiet_step (fail))
            refine wpQuiet_nil ?_
            go_wp2_with fail
            refine (HMF.out _).mono ?_; rintro e w12 ⟨rfl, hl8⟩
            have hl9 := bl hl7 hl8
            go_wp2_with fail
            refine behind_normal ⟨(Below w9.heap.size w9), fun W h => h, hl9, ?_⟩
            refine Phased.end_ ?_
            have hne5 : Nonempty (Held (fun W => W = w12)) := ⟨⟨_, rfl⟩⟩
            simp only [pick, List.map_cons, List.map_nil, List.getElem?_cons_zero, List.getElem?_cons_succ, Option.getD_some]
            repeat (go_big_quiet_step (fail))
            refine wpQuiet_nil ?_
            clear hne5 hne rS0 rS1 rS2 rS3 rS4 px0 px1 HMO HMF HPL hl4 hl5 hl6 hl7 hl8
            have ee : Ex (fun _ => False) w9 w12 := Ex.of_below hl9
            have K_3 := Lib.hid (K_2.out.ex ee (fun h => h) (fun h => h))
            have R_3 := Lib.hid (R_2.out.ex ee (fun h => h))
            have S_3 := Lib.hid (S_2.out.ex ee (fun h => h))
            have X_3 := Lib.hid (X_2.out.ex ee (fun h => h))
            have A_3 := Lib.hid (A_2.out.ex ee (fun h => h))
            have C_3 := Lib.hid (C_2.out.ex ee (fun h => h))
            have Z_3 := Lib.hid (Z_2.out.ex ee (fun b_ h_ => h_.elim))
            have L_3 := Lib.hid (Ex.below L_2.out ee (fun k hk => hk.elim))
            clear ee K_2 R_2 S_2 X_2 A_2 C_2 Z_2 L_2 hl9
            have af := A_3.out.frozen k
            have cf := C_3.out.frozen k
            have aq := (A_3.out.cell k).trans (pArr_cell px HK3.out)
            have cq := (C_3.out.cell k).trans (fArr_cell px HK3.out)
            rw [HPK.out] at aq cq
            have aq2 : w12.cell? ⟨a1, k, none⟩ = some (.pointer none) := aq
            have cq2 : w12.cell? ⟨a2, k, none⟩ = some (.pointer none) := cq
            clear aq cq
            have hne1 : ¬ a1 = a2 := by have := ORD.out; omega
            have hne2 : ¬ a2 = a1 := by have := ORD.out; omega
            go_wp2_with fail
            clear af cf aq2 cq2 hne1 hne2
            have bb := A_3.out.set_ k (.pointer (pAddr none))
            rw [pArr_set px HK3.out, updP_none HPK.out] at bb
            have BB := Lib.hid bb
            clear bb
            have ee : Ex (fun k => k = a1) w12 (w12.setCell ⟨a1, k, none⟩ (.pointer none)) := (Ex.refl (fun b => b = a1) w12).setCell (q := ⟨a1, k, none⟩) (.inl rfl) (.pointer none)
            have K_4 := Lib.hid (K_3.out.ex ee (by have o_ := ORD.out; omega) (by have o_ := ORD.out; omega))
            have R_4 := Lib.hid (R_3.out.ex ee (by have o_ := ORD.out; omega))
            have S_4 := Lib.hid (S_3.out.ex ee (by have o_ := ORD.out; omega))
            have X_4 := Lib.hid (X_3.out.ex ee (by have o_ := ORD.out; omega))
            have C_4 := Lib.hid (C_3.out.ex ee (by have o_ := ORD.out; omega))
            have Z_4 := Lib.hid (Z_3.out.ex ee (fun b_ h_ => by have o_ := ORD.out; have h_ : b_ = a1 := h_; first | omega | (show _ ∨ _; omega)))
            have L_4 := Lib.hid (Ex.below L_3.out ee (fun k hk => by have o_ := ORD.out; have hk : k = a1 := hk; omega))
            have A_4 := Lib.hid (BB.out)
            clear ee K_3 R_3 S_3 X_3 A_3 C_3 Z_3 L_3 BB
            have bb := C_4.out.set_ k (.pointer (fAddr none))
            rw [fArr_set px HK3.out, updP_none HPK.out] at bb
            have BB := Lib.hid bb
            clear bb
            have ee : Ex (fun k => k = a2) (w12.setCell ⟨a1, k, none⟩ (.pointer none)) ((w12.setCell ⟨a1, k, none⟩ (.pointer none)).setCell ⟨a2, k, none⟩ (.pointer none)) := (Ex.refl (fun b => b = a2) (w12.setCell ⟨a1, k, none⟩ (.pointer none))).setCell (q := ⟨a2, k, none⟩) (.inl rfl) (.pointer none)
            have K_5 := Lib.hid (K_4.out.ex ee (by have o_ := ORD.out; omega) (by have o_ := ORD.out; omega))
            have R_5 := Lib.hid (R_4.out.ex ee (by have o_ := ORD.out; omega))
            have S_5 := Lib.hid (S_4.out.ex ee (by have o_ := ORD.out; omega))
            have X_5 := Lib.hid (X_4.out.ex ee (by have o_ := ORD.out; omega))
            have A_5 := Lib.hid (A_4.out.ex ee (by have o_ := ORD.out; omega))
            have Z_5 := Lib.hid (Z_4.out.ex ee (fun b_ h_ => by have o_ := ORD.out; have h_ : b_ = a2 := h_; first | omega | (show _ ∨ _; omega)))
            have L_5 := Lib.hid (Ex.below L_4.out ee (fun k hk => by have o_ := ORD.out; have hk : k = a2 := hk; omega))
            have C_5 := Lib.hid (BB.out)
            clear ee K_4 R_4 S_4 X_4 A_4 C_4 Z_4 L_4 BB
            exact ⟨⟨k + 1, px, by have := HK3.out; omega, by go_num, fun j hj => HPN.out j (by omega), K_5.out, R_5.out, S_5.out, X_5.out, A_5.out, C_5.out, Z_5.out, C_5.out.lt, L_5.out⟩, by have := HK3.out; simp [intOf]; omega⟩
      · have kd : decide ((k : Int) < 3) = false := decide_eq_false (by omega)
        go_wp2_with fail
        clear HPN hk3 kd hlt
        obtain ⟨wk2, rfl⟩ : ∃ wk : World, wk = wr := ⟨_, rfl⟩
        go_loopw [17, 18, 19, 20, 21] (fun iv s18 s19 s20 s21 wr => ∃ (i : Nat) (px : PX) (ws : List Int) (t : Int), i ≤ na ∧ iv = .int .i64 i ∧ BankAt wr g h ws t ∧ RowW wr hb ws ∧ ws.length = N ∧ Blk wr w.heap.size 23 #[.int .i64 ow, .int .i64 sq, .int .i64 fi, .int .i64 wo, .int .i64 de] ∧ Blk wr xb 30 #[vs 0, .int .i64 (ts 0), vs 1, .int .i64 (ts 1), vs 2, .int .i64 (ts 2), .slice B na cb] ∧ Blk wr a1 38 (pArr px) ∧ Blk wr a2 40 (fArr px) ∧ Prs wr a2 (⟨ow, sq, fi, wo, de⟩ : Spot) ts vs xs px ∧ a2 < wr.heap.size ∧ Below w.heap.size w wr) (fun iv s18 s19 s20 s21 _ => na - (intOf iv).toNat)
        case atStart => exact ⟨0, px, zeros N, 0, by omega, rfl, K0.out, R0.out, zeros_len _, S0.out, X0.out, A0_.out, C0.out, Z0.out, SZ0.out, L0.out⟩
        case round =>
          clear K0 R0 S0 X0 A0_ C0 Z0 L0 SZ0
          obtain ⟨i, px, ws, t, hi, rfl, hbk, hrw, hln, hsb, hxb, hab, hcb, hz, hsz, hl⟩ := hrel
          have K0 := Lib.hid hbk
          have R0 := Lib.hid hrw
          have S0 := Lib.hid hsb
          have X0 := Lib.hid hxb
          have A0_ := Lib.hid hab
          have C0 := Lib.hid hcb
          have Z0 := Lib.hid hz
          have L0 := Lib.hid hl
          have HLN := Lib.hid hln
          clear hbk hrw hsb hxb hab hcb hz hl hln
          by_cases hlt : i < na
          · have kd : decide ((i : Int) < (na : Int)) = true := decide_eq_true (by omega)
            have ki0 : (0 : Int) ≤ (i : Int) := by omega
            have ki1 : (i : Int) < (na : Int) := by omega
            have ki5 : (i : Int) ≤ 200 := by have := HNA.out; omega
            have HI := Lib.hid hlt
            clear hi hlt
            obtain ⟨bb, ob, rfl, hbb, hcb⟩ := HG.out (by have := HI.out; omega)
            have qv := X0.out.cell 6
            simp only [List.getElem?_toArray, List.getElem?_cons_succ, List.getElem?_cons_zero] at qv
            have p0 := (L0.out.cell (p := ⟨bb, ob + i * 3, none⟩) hbb).trans (hcb i HI.out).1
            have p1 := (L0.out.cell (p := ⟨bb, ob + i * 3 + 1, none⟩) hbb).trans (hcb i HI.out).2.1
            have p2 := (L0.out.cell (p := ⟨bb, ob + i * 3 + 2, none⟩) hbb).trans (hcb i HI.out).2.2
            have HAI := Lib.hid (HAO.out i HI.out)
            generalize l i = a at *
            obtain ⟨who, aat, ax⟩ := a
            simp only at p0 p1 p2
            clear hcb
            have HSZ0 := Lib.hid hsz
            have HOLD := Lib.hid (fun k o r c x f y (hk : k < 3) (hx : px k = some (o, r, c, x, f, y)) => show r < wr.heap.size ∧ o < wr.heap.size ∧ f < wr.heap.size from by
              have h9 := Z0.out.ops k o r c x f y hk hx
              have h8 : f < wr.heap.size := Blk.lt h9.2.2.1
              omega)
            clear hsz
            go_upto_region 22 with fail
            clear qv p0 p1 p2
            have ee : Ex (fun _ => False) wr (wr.alloc (.cells #[.int .i64 who, .int .i64 aat, .int .u64 ax] 51)) := (Ex.refl _ wr).alloc _
            have K_1 := Lib.hid (K0.out.ex ee (fun h => h) (fun h => h))
            have R_1 := Lib.hid (R0.out.ex ee (fun h => h))
            have S_1 := Lib.hid (S0.out.ex ee (fun h => h))
            have X_1 := Lib.hid (X0.out.ex ee (fun h => h))
            have A_1 := Lib.hid (A0_.out.ex ee (fun h => h))
            have C_1 := Lib.hid (C0.out.ex ee (fun h => h))
            have Z_1 := Lib.hid (Z0.out.ex ee (fun b_ h_ => h_.elim))
            have L_1 := Lib.hid (Ex.below L0.out ee (fun k hk => hk.elim))
            have T_1 := Lib.hid (Blk.new wr 51 #[.int .i64 who, .int .i64 aat, .int .u64 ax])
            clear ee K0 R0 S0 X0 A0_ C0 Z0 L0
            generalize (wr.alloc (.cells #[.int .i64 who, .int .i64 aat, .int .u64 ax] 51)) = w7 at *
            generalize wr.heap.size = ac at *
            have hac := Lib.hid (show a2 < ac from HSZ0.out)
            have ORD2 := Lib.hid (show w.heap.size < xb ∧ xb < h ∧ h < g ∧ g < hb ∧ hb < a1 ∧ a1 < a2 ∧ a2 < ac from ⟨ORD.out.1, ORD.out.2.1, ORD.out.2.2.1, ORD.out.2.2.2.1, ORD.out.2.2.2.2.1, ORD.out.2.2.2.2.2, hac.out⟩)
            clear hac HSZ0
            have Tq0 := (T_1.out).cell 0
            have Tq1 := (T_1.out).cell 1
            have Tq2 := (T_1.out).cell 2
            simp only [List.getElem?_toArray, List.getElem?_cons_succ, List.getElem?_cons_zero] at Tq0 Tq1 Tq2
            go_cut [137] from 118 to 212 (fun v wx => v = .bool (outB who) ∧ wx = w7)
            case first =>
              by_cases h0 : who < 0
              · have kw0 : decide (who < 0) = true := decide_eq_true h0
                go_wp2_with fail
                go_meet
                exact ⟨by rw [outB_true (.inl (by omega))], rfl⟩
              have kw0 : decide (who < 0) = false := decide_eq_false h0
              by_cases h2 : 2 < who
              · have kw1 : decide (who > 2) = true := decide_eq_true h2
                go_wp2_with fail
                go_meet
                exact ⟨by rw [outB_true (.inr (by omega))], rfl⟩
              have kw1 : decide (who > 2) = false := decide_eq_false h2
              go_wp2_with fail
              go_meet
              exact ⟨by rw [outB_false (by omega) (by omega)], rfl⟩
            case rest =>
              obtain ⟨rfl, rfl⟩ := hcut
              go_upto_if 137 with fail
              go_cut [19, 20] from 118 to 212 (fun s19 s20 wx => ∃ (px2 : PX) (ws2 : List Int) (t2 : Int), BankAt wx g h ws2 t2 ∧ RowW wx hb ws2 ∧ ws2.length = N ∧ Blk wx w.heap.size 23 #[.int .i64 ow, .int .i64 sq, .int .i64 fi, .int .i64 wo, .int .i64 de] ∧ Blk wx xb 30 #[vs 0, .int .i64 (ts 0), vs 1, .int .i64 (ts 1), vs 2, .int .i64 (ts 2), .slice (some ⟨bb, ob, none⟩) na cb] ∧ Blk wx a1 38 (pArr px2) ∧ Blk wx a2 40 (fArr px2) ∧ Prs wx a2 (⟨ow, sq, fi, wo, de⟩ : Spot) ts vs xs px2 ∧ a2 < wx.heap.size ∧ Below w.heap.size w wx)
              case first =>
                cases hob : outB who with
                | true =>
                  clear hob
                  by_cases ha0 : aat < 0
                  · have kw0 : decide (aat ≥ 0) = false := decide_eq_false (by omega)
                    clear ha0
                    go_wp2_with fail
                    go_meet
                    exact ⟨px, ws, t, K_1.out, R_1.out, HLN.out, S_1.out, X_1.out, A_1.out, C_1.out, Z_1.out, Blk.lt C_1.out, L_1.out⟩
                  by_cases ha1 : (N : Int) ≤ aat
                  · have kw0 : decide (aat ≥ 0) = true := decide_eq_true (by omega)
                    have kw1 : decide (aat < (N : Int)) = false := decide_eq_false (by omega)
                    clear ha0 ha1
                    go_wp2_with fail
                    go_meet
                    exact ⟨px, ws, t, K_1.out, R_1.out, HLN.out, S_1.out, X_1.out, A_1.out, C_1.out, Z_1.out, Blk.lt C_1.out, L_1.out⟩
                  obtain ⟨j, rfl⟩ : ∃ j : Nat, aat = j := ⟨aat.toNat, by omega⟩
                  have kw0 : decide ((j : Int) ≥ 0) = true := decide_eq_true (by omega)
                  have kw1 : decide ((j : Int) < (N : Int)) = true := decide_eq_true (by omega)
                  have HJ := Lib.hid (show j < N by omega)
                  clear ha0 ha1
                  go_wp2_with fail
                  refine (Store_any g h ws t (j : Int) ax wc K_1.out HAI.out).mono ?_; rintro e w8 ⟨rfl, hb8, hx8⟩
                  rw [errF_in (inW_nat ws j (by rw [HLN.out]; exact HJ.out))]
                  rw [setF_in (inW_nat ws j (by rw [HLN.out]; exact HJ.out)), Int.toNat_natCast] at hb8
                  clear Tq0 Tq1 Tq2
                  have ee : Ex (fun k => k = g ∨ k = h) wc w8 := Ex.of_ex2 (T := fun k => k = g ∨ k = h) hx8 (.inl rfl) (.inr rfl)
                  have R_2 := Lib.hid (R_1.out.ex ee (by have o_ := ORD2.out; omega))
                  have S_2 := Lib.hid (S_1.out.ex ee (by have o_ := ORD2.out; omega))
                  have X_2 := Lib.hid (X_1.out.ex ee (by have o_ := ORD2.out; omega))
                  have A_2 := Lib.hid (A_1.out.ex ee (by have o_ := ORD2.out; omega))
                  have C_2 := Lib.hid (C_1.out.ex ee (by have o_ := ORD2.out; omega))
                  have Z_2 := Lib.hid (Z_1.out.ex ee (fun b_ h_ => by have o_ := ORD2.out; have h_ : b_ = g ∨ b_ = h := h_; first | omega | (show _ ∨ _; omega)))
                  have T_2 := Lib.hid (T_1.out.ex ee (by have o_ := ORD2.out; omega))
                  have L_2 := Lib.hid (Ex.below L_1.out ee (fun k hk => by have o_ := ORD2.out; have hk : k = g ∨ k = h := hk; omega))
                  have K_2 := Lib.hid (hb8)
                  clear ee K_1 R_1 S_1 X_1 A_1 C_1 Z_1 T_1 L_1 hb8 hx8
                  have Tq0 := (T_2.out).cell 0
                  have Tq1 := (T_2.out).cell 1
                  have Tq2 := (T_2.out).cell 2
                  simp only [List.getElem?_toArray, List.getElem?_cons_succ, List.getElem?_cons_zero] at Tq0 Tq1 Tq2
                  have qw := R_2.out.word (i := j) (by rw [HLN.out]; exact HJ.out)
                  have fw := Blk.frozen R_2.out j
                  have kj0 : (0 : Int) ≤ (j : Int) := by omega
                  have kj1 : (j : Int) < (N : Int) := by have := HJ.out; omega
                  go_wp2_with fail
                  clear qw fw
                  have bb := R_2.out.stored j ax
                  have BB := Lib.hid bb
                  clear bb
                  clear Tq0 Tq1 Tq2
                  have ee : Ex (fun k => k = hb) w8 (w8.setCell ⟨hb, j, none⟩ (.int .u64 ax)) := (Ex.refl (fun b => b = hb) w8).setCell (q := ⟨hb, j, none⟩) (.inl rfl) (.int .u64 ax)
                  have K_3 := Lib.hid (K_2.out.ex ee (by have o_ := ORD2.out; omega) (by have o_ := ORD2.out; omega))
                  have S_3 := Lib.hid (S_2.out.ex ee (by have o_ := ORD2.out; omega))
                  have X_3 := Lib.hid (X_2.out.ex ee (by have o_ := ORD2.out; omega))
                  have A_3 := Lib.hid (A_2.out.ex ee (by have o_ := ORD2.out; omega))
                  have C_3 := Lib.hid (C_2.out.ex ee (by have o_ := ORD2.out; omega))
                  have Z_3 := Lib.hid (Z_2.out.ex ee (fun b_ h_ => by have o_ := ORD2.out; have h_ : b_ = hb := h_; first | omega | (show _ ∨ _; omega)))
                  have T_3 := Lib.hid (T_2.out.ex ee (by have o_ := ORD2.out; omega))
                  have L_3 := Lib.hid (Ex.below L_2.out ee (fun k hk => by have o_ := ORD2.out; have hk : k = hb := hk; omega))
                  have R_3 := Lib.hid (BB.out)
                  clear ee K_2 R_2 S_2 X_2 A_2 C_2 Z_2 T_2 L_2 BB
                  go_meet
                  exact ⟨px, ws.set j ax, _, K_3.out, R_3.out, by rw [List.length_set]; exact HLN.out, S_3.out, X_3.out, A_3.out, C_3.out, Z_3.out, Blk.lt C_3.out, L_3.out⟩
                | false =>
                  obtain ⟨hw0, hw2⟩ := outB_in hob
                  obtain ⟨k, rfl⟩ : ∃ k : Nat, who = k := ⟨who.toNat, by omega⟩
                  have HK3 := Lib.hid (show k < 3 by omega)
                  have kk0 : (0 : Int) ≤ (k : Int) := by omega
                  have kk3 : (k : Int) < 3 := by omega
                  clear hob hw0 hw2
                  have cq := (C_1.out.cell k).trans (fArr_cell px HK3.out)
                  have aq := (A_1.out.cell k).trans (pArr_cell px HK3.out)
                  cases hpk : px k with
                  | none =>
                    rw [hpk] at aq cq
                    have cq2 : wc.cell? ⟨a2, k, none⟩ = some (.pointer none) := cq
                    clear aq cq
                    go_wp2_with fail
                    clear cq2
                    go_meet
                    exact ⟨px, ws, t, K_1.out, R_1.out, HLN.out, S_1.out, X_1.out, A_1.out, C_1.out, Z_1.out, Blk.lt C_1.out, L_1.out⟩
                  | some z =>
                    obtain ⟨o, r, cc, x, f, y⟩ := z
                    rw [hpk] at aq cq
                    have cq2 : wc.cell? ⟨a2, k, none⟩ = some (.pointer (some ⟨f, 0, none⟩)) := cq
                    have HPK := Lib.hid hpk
                    clear aq cq hpk
                    have HOP := Lib.hid (Z_1.out.ops k _ _ _ _ _ _ HK3.out HPK.out)
                    have OPK := Lib.hid (show (w.heap.size < xb ∧ xb < h ∧ h < g ∧ g < hb ∧ hb < a1 ∧ a1 < a2 ∧ a2 < ac) ∧ a2 < r ∧ r < o ∧ o < f ∧ ac ≠ f ∧ ac ≠ o ∧ ac ≠ r from ⟨ORD2.out, HOP.out.2.2.2.2.2.1, HOP.out.2.2.2.2.2.2.1, HOP.out.2.2.2.2.2.2.2, by have := HOLD.out _ _ _ _ _ _ _ HK3.out HPK.out; omega, by have := HOLD.out _ _ _ _ _ _ _ HK3.out HPK.out; omega, by have := HOLD.out _ _ _ _ _ _ _ HK3.out HPK.out; omega⟩)
                    have HF := Lib.hid (FStep_any f hb ws (⟨ow, sq, fi, wo, de⟩ : Spot) (ts k) (vs k) (xs k) y w wc HOP.out.2.2.1 R_1.out HOP.out.2.2.2.1 K_1.out.fit (HROW.out k HK3.out).1 L_1.out (by have := OPK.out; omega))
                    rw [HLN.out] at HF
                    have HLK := Lib.hid (HOP.out.2.2.2.2.1.step (s := (⟨ow, sq, fi, wo, de⟩ : Spot)) (rec := xs k) (tries := ts k) ws t)
                    have HI1 := Lib.hid (HOP.out.2.1.step ws t K_1.out.fit)
                    have HI2 := Lib.hid (FInv ws K_1.out.fit HOP.out.2.2.2.1)
                    have HLN2 := Lib.hid (show (wStep (⟨ow, sq, fi, wo, de⟩ : Spot) (xs k) (ts k) x ws t).2.1.length = N by rw [wStep_len8]; exact HLN.out)
                    go_wp2_with fail
                    refine HF.out.mono ?_; rintro e w8 ⟨rfl, hr8, hw8, hx8⟩
                    rw [HLK.out.2] at hw8
                    clear HF
                    have E1 := Lib.hid hx8
                    have HS := Lib.hid (fun W (hk : BankAt W g h ws t) (ho : OpAt W o r cc (⟨ow, sq, fi, wo, de⟩ : Spot) (xs k) (ts k) x) => WStep_any g h o r cc ws t (⟨ow, sq, fi, wo, de⟩ : Spot) (xs k) (ts k) x W hk ho HOP.out.2.1 (by have := OPK.out; omega))
                    have O7 := Lib.hid HOP.out.1
                    clear Tq0 Tq1 Tq2
                    have ee : Ex (fun k => k = f ∨ k = hb) wc w8 := hx8
                    have K_2 := Lib.hid (K_1.out.ex ee (by have o_ := OPK.out; omega) (by have o_ := OPK.out; omega))
                    have S_2 := Lib.hid (S_1.out.ex ee (by have o_ := OPK.out; omega))
                    have X_2 := Lib.hid (X_1.out.ex ee (by have o_ := OPK.out; omega))
                    have A_2 := Lib.hid (A_1.out.ex ee (by have o_ := OPK.out; omega))
                    have C_2 := Lib.hid (C_1.out.ex ee (by have o_ := OPK.out; omega))
                    have T_2 := Lib.hid (T_1.out.ex ee (by have o_ := OPK.out; omega))
                    have O_2 := Lib.hid (O7.out.ex ee (by have o_ := OPK.out; omega) (by have o_ := OPK.out; omega))
                    have L_2 := Lib.hid (Ex.below L_1.out ee (fun k hk => by have o_ := OPK.out; have hk : k = f ∨ k = hb := hk; omega))
                    have R_2 := Lib.hid (hw8)
                    have F_2 := Lib.hid (hr8)
                    clear ee K_1 R_1 S_1 X_1 A_1 C_1 T_1 O7 L_1 hx8 hw8 hr8 cq2
                    generalize wStep (⟨ow, sq, fi, wo, de⟩ : Spot) (xs k) (ts k) x ws t = Q at *
                    generalize fStep (⟨ow, sq, fi, wo, de⟩ : Spot) (xs k) (ts k) y ws = Q2 at *
                    obtain ⟨x1, ws1, t1⟩ := Q
                    obtain ⟨y1, ws9⟩ := Q2
                    simp only at *
                    have Tq0 := (T_2.out).cell 0
                    have Tq1 := (T_2.out).cell 1
                    have Tq2 := (T_2.out).cell 2
                    simp only [List.getElem?_toArray, List.getElem?_cons_succ, List.getElem?_cons_zero] at Tq0 Tq1 Tq2
                    have aq := (A_2.out.cell k).trans (pArr_cell px HK3.out)
                    rw [HPK.out] at aq
                    have aq2 : w8.cell? ⟨a1, k, none⟩ = some (.pointer (some ⟨o, 0, none⟩)) := aq
                    clear aq
                    go_upto_region 31 with fail
                    clear Tq0 Tq1 Tq2
                    clear aq2
                    have khh : (x1.how != x1.how) = false := by simp
                    have kss : (x1.steps != x1.steps) = false := by simp
                    have kgg : (x1.gen != x1.gen) = false := by simp
                    have hne : Nonempty (Held (Ex (fun k => k = g ∨ k = h ∨ k = o) w8)) := ⟨⟨w8, (Ex.refl _ _)⟩⟩
                    have f0 : ∀ x : Held (Ex (fun k => k = g ∨ k = h ∨ k = o) w8), x.w.cell? ⟨f, 0, none⟩ = some (.int .i64 ow) := fun x => Blk.cell (F_2.out.ex x.ok (by have o_ := OPK.out; omega)) 0
                    have f11 : ∀ x : Held (Ex (fun k => k = g ∨ k = h ∨ k = o) w8), x.w.cell? ⟨f, 11, none⟩ = some (.int .i64 x1.how) := fun x => (Blk.cell (F_2.out.ex x.ok (by have o_ := OPK.out; omega)) 11).trans (show (fCs (⟨ow, sq, fi, wo, de⟩ : Spot) (ts k) (vs k) y1)[11]? = some (.int .i64 x1.how) by rw [← HLK.out.1.how]; rfl)
                    have f12 : ∀ x : Held (Ex (fun k => k = g ∨ k = h ∨ k = o) w8), x.w.cell? ⟨f, 12, none⟩ = some (.int .i64 x1.steps) := fun x => (Blk.cell (F_2.out.ex x.ok (by have o_ := OPK.out; omega)) 12).trans (show (fCs (⟨ow, sq, fi, wo, de⟩ : Spot) (ts k) (vs k) y1)[12]? = some (.int .i64 x1.steps) by rw [← HLK.out.1.steps]; rfl)
                    refine drawn_bars (S := (Ex (fun k => k = g ∨ k = h ∨ k = o) w8)) [([0, 1, 3, 4, 5, 6], 2), ([7, 8, 9, 11], 10), ([], 12), ([13, 14, 15, 16, 18, 19, 20, 21], 17)] [22, 23] (by kernel_rfl) (by kernel_rfl) (by kernel_rfl) rfl (Ex.refl _ _).drew ?_
                    refine Phased.go ?_
                    simp only [pick, List.map_cons, List.map_nil, List.getElem?_cons_zero, List.getElem?_cons_succ, Option.getD_some]
                    repeat (go_big_quiet_step (fail))
                    refine wpQuiet_nil ?_
                    go_wp2_with fail
                    have hk8 : BankAt w8.drew g h ws t := K_2.out.drewN 1
                    have ho8 : OpAt w8.drew o r cc (⟨ow, sq, fi, wo, de⟩ : Spot) (xs k) (ts k) x := O_2.out.below (Below.refl _ _).drew
                    refine (HS.out w8.drew hk8 ho8).mono ?_; rintro e w9 ⟨rfl, hk9, ho9, hx9⟩
                    have hx10 := hx9.undrew
                    go_wp2_with fail
                    refine behind_normal ⟨(Ex (fun k => k = g ∨ k = h ∨ k = o) w8), fun W h => h, hx10, ?_⟩
                    refine Phased.go ?_
                    simp only [pick, List.map_cons, List.map_nil, List.getElem?_cons_zero, List.getElem?_cons_succ, Option.getD_some]
                    repeat (go_big_quiet_step (fail))
                    refine wpQuiet_nil ?_
                    go_wp2_with fail
                    refine (WGen_any o r cc (⟨ow, sq, fi, wo, de⟩ : Spot) (xs k) (ts k) x1 w9 ho9).mono ?_; rintro e w10 ⟨rfl, rfl⟩
                    go_wp2_with fail
                    refine behind_normal ⟨(Ex (fun k => k = g ∨ k = h ∨ k = o) w8), fun W h => h, hx10, ?_⟩
                    refine Phased.go ?_
                    simp only [pick, List.map_cons, List.map_nil, List.getElem?_cons_zero, List.getElem?_cons_succ, Option.getD_some]
                    repeat (go_big_quiet_step (fail))
                    refine wpQuiet_nil ?_
                    go_wp2_with fail
                    refine (fGen_any f (⟨ow, sq, fi, wo, de⟩ : Spot) (ts k) (vs k) y1 _ (F_2.out.ex hx10 (by have o_ := OPK.out; omega)) HI2.out.sq).mono ?_; rintro e w11 ⟨rfl, rfl⟩
                    rw [HLK.out.1.gen]
                    go_wp2_with fail
                    refine behind_normal ⟨(Ex (fun k => k = g ∨ k = h ∨ k = o) w8), fun W h => h, hx10, ?_⟩
                    refine Phased.go ?_
                    simp only [pick, List.map_cons, List.map_nil, List.getElem?_cons_zero, List.getElem?_cons_succ, Option.getD_some]
                    repeat (go_big_quiet_step (fail))
                    refine wpQuiet_nil ?_
                    go_wp2_with fail
                    refine (WSteps_any o r cc (⟨ow, sq, fi, wo, de⟩ : Spot) (xs k) (ts k) x1 _ ho9).mono ?_; rintro e w12 ⟨rfl, rfl⟩
                    go_wp2_with fail
                    refine behind_normal ⟨(Ex (fun k => k = g ∨ k = h ∨ k = o) w8), fun W h => h, hx10, ?_⟩
                    refine Phased.end_ ?_
                    have hne5 : Nonempty (Held (fun W => W = w9)) := ⟨⟨_, rfl⟩⟩
                    simp only [pick, List.map_cons, List.map_nil, List.getElem?_cons_zero, List.getElem?_cons_succ, Option.getD_some]
                    repeat (go_big_quiet_step (fail))
                    refine wpQuiet_nil ?_
                    clear hne5 hne f0 f11 f12 HS hx9 hk8 ho8
                    have HZ := Lib.hid (Z_1.out.turn HK3.out HPK.out (by have := OPK.out; omega) (by have := OPK.out; omega) (by have := OPK.out; omega) E1.out F_2.out hx10 ho9 HI1.out HI2.out HLK.out.1)
                    have HSAME := Lib.hid (pArr_same px (x := x) (x' := x1) (y := y) (y' := y1) HPK.out)
                    have ee : Ex (fun k => k = g ∨ k = h ∨ k = o) w8 w9 := hx10
                    have R_3 := Lib.hid (R_2.out.ex ee (by have o_ := OPK.out; omega))
                    have S_3 := Lib.hid (S_2.out.ex ee (by have o_ := OPK.out; omega))
                    have X_3 := Lib.hid (X_2.out.ex ee (by have o_ := OPK.out; omega))
                    have A_3 := Lib.hid (A_2.out.ex ee (by have o_ := OPK.out; omega))
                    have C_3 := Lib.hid (C_2.out.ex ee (by have o_ := OPK.out; omega))
                    have T_3 := Lib.hid (T_2.out.ex ee (by have o_ := OPK.out; omega))
                    have L_3 := Lib.hid (Ex.below L_2.out ee (fun k hk => by have o_ := OPK.out; have hk : k = g ∨ k = h ∨ k = o := hk; omega))
                    have K_3 := Lib.hid (hk9)
                    have Z_3 := Lib.hid (HZ.out)
                    clear ee K_2 R_2 S_2 X_2 A_2 C_2 T_2 L_2 hx10 hk9 ho9 HZ E1 Z_1 O_2 F_2
                    go_wp2_with fail
                    go_meet
                    exact ⟨(updP px k (some (o, r, cc, x1, f, y1))), ws1, t1, K_3.out, R_3.out, HLN2.out, S_3.out, X_3.out, (by rw [HSAME.out.1]; exact A_3.out), (by rw [HSAME.out.2]; exact C_3.out), Z_3.out, Blk.lt C_3.out, L_3.out⟩
              case rest =>
                obtain ⟨px2, ws2, t2, hbk, hrw, hln, hsb, hxb, hab, hcb, hz, hsz, hl⟩ := hcut
                have K0' := Lib.hid hbk
                have R0' := Lib.hid hrw
                have S0' := Lib.hid hsb
                have X0' := Lib.hid hxb
                have A0' := Lib.hid hab
                have C0' := Lib.hid hcb
                have Z0' := Lib.hid hz
                have L0' := Lib.hid hl
                have SZ' := Lib.hid hsz
                have HLN2 := Lib.hid hln
                clear hbk hrw hln hsb hxb hab hcb hz hsz hl
                clear K_1 R_1 S_1 X_1 A_1 C_1 Z_1 T_1 L_1 HOLD HLN
                go_wp2_with fail
                obtain ⟨wk3, rfl⟩ : ∃ wk : World, wk = wc := ⟨_, rfl⟩
                go_loopw [21] (fun jv wr => ∃ (j : Nat), j ≤ N ∧ jv = .int .i64 j ∧ BankAt wr g h ws2 t2 ∧ RowW wr hb ws2 ∧ Blk wr w.heap.size 23 #[.int .i64 ow, .int .i64 sq, .int .i64 fi, .int .i64 wo, .int .i64 de] ∧ Blk wr xb 30 #[vs 0, .int .i64 (ts 0), vs 1, .int .i64 (ts 1), vs 2, .int .i64 (ts 2), .slice (some ⟨bb, ob, none⟩) na cb] ∧ Blk wr a1 38 (pArr px2) ∧ Blk wr a2 40 (fArr px2) ∧ Prs wr a2 (⟨ow, sq, fi, wo, de⟩ : Spot) ts vs xs px2 ∧ a2 < wr.heap.size ∧ Below w.heap.size w wr) (fun jv _ => N - (intOf jv).toNat)
                case atStart => exact ⟨0, by omega, rfl, K0'.out, R0'.out, S0'.out, X0'.out, A0'.out, C0'.out, Z0'.out, SZ'.out, L0'.out⟩
                case round =>
                  clear K0' R0' S0' X0' A0' C0' Z0' L0' SZ'
                  obtain ⟨j, hj, rfl, hbk, hrw, hsb, hxb, hab, hcb, hz, hsz, hl⟩ := hrel
                  have K0 := Lib.hid hbk
                  have R0 := Lib.hid hrw
                  have S0 := Lib.hid hsb
                  have X0 := Lib.hid hxb
                  have A0_ := Lib.hid hab
                  have C0 := Lib.hid hcb
                  have Z0 := Lib.hid hz
                  have L0 := Lib.hid hl
                  have SZ0 := Lib.hid hsz
                  clear hbk hrw hsb hxb hab hcb hz hsz hl
                  by_cases hjN : j < N
                  · have kj : decide ((j : Int) < (N : Int)) = true := decide_eq_true (by omega)
                    have kj0 : (0 : Int) ≤ (j : Int) := by omega
                    have kj1 : (j : Int) < (N : Int) := by omega
                    have kj5 : (j : Int) ≤ 60 := by have := HN.out; omega
                    have HJ := Lib.hid (show j < ws2.length by rw [HLN2.out]; exact hjN)
                    clear hj hjN
                    go_upto_region 36 with fail
                    have kx : (nth ws2 j != nth ws2 j) = false := by simp
                    have hne : Nonempty (Held (Below wr.heap.size wr)) := ⟨⟨wr, (Below.refl _ _)⟩⟩
                    have pw : ∀ x : Held (Below wr.heap.size wr), x.w.cell? ⟨hb, j, none⟩ = some (.int .u64 (nth ws2 j)) := fun x => (R0.out.bl x.ok).word HJ.out
                    refine drawn_bars (S := (Below wr.heap.size wr)) [([0, 1, 3, 4, 5, 6], 2)] [7] (by kernel_rfl) (by kernel_rfl) (by kernel_rfl) rfl (Below.refl _ _).drew ?_
                    refine Phased.go ?_
                    simp only [pick, List.map_cons, List.map_nil, List.getElem?_cons_zero, List.getElem?_cons_succ, Option.getD_some]
                    repeat (go_big_quiet_step (fail))
                    refine wpQuiet_nil ?_
                    go_wp2_with fail
                    refine (Peek_any g h ws2 t2 (j : Int) wr.drew (K0.out.drewN 1)).mono ?_; rintro e w9 ⟨rfl, hb9⟩
                    rw [wordF_nat ws2 j HJ.out]
                    have hb8 := bl ((Below.refl wr.heap.size wr).drew) hb9
                    go_wp2_with fail
                    refine behind_normal ⟨(Below wr.heap.size wr), fun W h => h, hb8, ?_⟩
                    refine Phased.end_ ?_
                    have hne5 : Nonempty (Held (fun W => W = w9)) := ⟨⟨_, rfl⟩⟩
                    simp only [pick, List.map_cons, List.map_nil, List.getElem?_cons_zero, List.getElem?_cons_succ, Option.getD_some]
                    repeat (go_big_quiet_step (fail))
                    refine wpQuiet_nil ?_
                    clear hne5 hne pw hb9
                    have HSZ9 := Lib.hid (Nat.lt_of_lt_of_le SZ0.out hb8.size)
                    clear Tq0 Tq1 Tq2
                    have ee : Ex (fun _ => False) wr w9 := Ex.of_below hb8
                    have K_2 := Lib.hid (K0.out.ex ee (fun h => h) (fun h => h))
                    have R_2 := Lib.hid (R0.out.ex ee (fun h => h))
                    have S_2 := Lib.hid (S0.out.ex ee (fun h => h))
                    have X_2 := Lib.hid (X0.out.ex ee (fun h => h))
                    have A_2 := Lib.hid (A0_.out.ex ee (fun h => h))
                    have C_2 := Lib.hid (C0.out.ex ee (fun h => h))
                    have Z_2 := Lib.hid (Z0.out.ex ee (fun b_ h_ => h_.elim))
                    have L_2 := Lib.hid (Ex.below L0.out ee (fun k hk => hk.elim))
                    clear ee K0 R0 S0 X0 A0_ C0 Z0 L0 hb8
                    go_wp2_with fail
                    go_roundw
                    case rel => exact ⟨j + 1, by have := HJ.out; have := HLN2.out; omega, by go_num, K_2.out, R_2.out, S_2.out, X_2.out, A_2.out, C_2.out, Z_2.out, HSZ9.out, L_2.out⟩
                    case measure => have := HJ.out; have := HLN2.out; simp [intOf]; omega
                  · obtain rfl : j = N := by omega
                    have kj : decide ((j : Int) < (j : Int)) = false := decide_eq_false (by omega)
                    go_wp2_with fail
                    exact ⟨⟨i + 1, px2, ws2, t2, by have := HI.out; omega, by go_num, K0.out, R0.out, HLN2.out, S0.out, X0.out, A0_.out, C0.out, Z0.out, SZ0.out, L0.out⟩, by have := HI.out; simp [intOf]; omega⟩
          · obtain rfl : i = na := by omega
            have kd : decide ((i : Int) < (i : Int)) = false := decide_eq_false (by omega)
            have qv := X0.out.cell 6
            simp only [List.getElem?_toArray, List.getElem?_cons_succ, List.getElem?_cons_zero] at qv
            go_wp2_with fail
            clear qv
            refine (awake_any _).mono ?_; rintro e wz ⟨rfl, hb⟩
            have LZ := Lib.hid (bl L0.out hb)
            clear hb
            go_wp2_with fail
            go_ret
            exact ⟨rfl, LZ.out⟩
end Go.Proofs.Ytpfjadgcnaffgaa.Bank
