/-
  Law 16: LogNil's walk. Printed by wip/tools/mklgn.py. Conditions stand at each. By an AI agent.
-/
import Derived.Test.YthhellgaafbokaaLgW
import Derived.Test.YthhellgaafbokaaLgH
namespace Go.Proofs.Ythhellgaafbokaa.Lg
set_option linter.unusedVariables false
set_option linter.unusedSimpArgs false
open Go Go.RowKit Go.Proofs.Ythhellgaafbokaa.Base Go.Proofs.Ythhellgaafbokaa.Reg
open Go.Proofs.Ythhellgaafbokaa.Bank (BankAt inW wordF setF tickF errF New_in zeros zeros_len Touches_any Peek_any Store_any wordF_in wordF_out setF_in)
def nilHow (i N : Nat) : Int := if i = N then 1 else 0
/-- a row of states of one's own, opened -/
theorem own_open {w : World} {base n c : Nat} {A : Option Addr} {l : List St} (h : w.ownsRow base 28 5 (.slice A n c) n (flatS l)) (hn : 0 < l.length) : ∃ b cur, A = some ⟨b, 0, none⟩ ∧ base ≤ b ∧ Blk w b 28 cur ∧ ∀ i, i < l.length → ∀ j, j < 5 → cur[i * 5 + j]? = (encS (l.getD i St.zero))[j]? := by
  have hnl : l.length * 5 = n * 5 := by rw [← flatS_len]; exact h.1
  rcases h.2 with ⟨_, h0⟩ | ⟨g, cap, cur, hv, hb, hg, hn', hcap, hcur, ht⟩
  · omega
  · simp only [Value.slice.injEq] at hv
    obtain ⟨rfl, _, rfl⟩ := hv
    refine ⟨g, cur, rfl, hb, hg, fun i hi j hj => ?_⟩
    have h1 := flatS_get l i (l.getD i St.zero) (by simp [List.getD_eq_getElem?_getD, List.getElem?_eq_getElem hi]) j hj
    rw [← h1, ← ht, List.getElem?_take_of_lt (by omega), Array.getElem?_toList]
set_option maxRecDepth 100000 in
set_option maxHeartbeats 8000000 in
theorem Nil_out0 (s : St) (hs : s.Ok) (long : Int) (w : World) (hmay : mayE s = 0) (hl : ¬ (1 ≤ long ∧ long ≤ 64)) : Calls Try.prog 6 #[s.val, .int .i64 long] w fun e w' => e = .returned (.bool true) ∧ Below w.heap.size w w' := by
  have MY := Lib.hid hmay
  have SO := Lib.hid hs
  have HPL := Lib.hid (show ¬ HasP 1 long from fun h => hl h.1)
  have SV := Lib.hid (show s.val = .agg #[.int .i64 s.mode, .int .i64 s.source, .bool s.hold, .int .i64 s.flags, .int .u64 s.epoch] from rfl)
  unfold St.val
  have HLO := Lib.hid hl
  clear hmay hs hl
  go_enter Try.func6, Try.ntmps6
  go_upto_region 2 with fail
  have hP := Blk.new w 28 #[.int .i64 s.mode, .int .i64 s.source, .bool s.hold, .int .i64 s.flags, .int .u64 s.epoch]
  have hL : Lo w.heap.size w (w.alloc (.cells #[.int .i64 s.mode, .int .i64 s.source, .bool s.hold, .int .i64 s.flags, .int .u64 s.epoch] 28)) := ⟨(Below.refl _ w).alloc (Nat.le_refl _) _, by simp⟩
  obtain ⟨sb, hfb⟩ : ∃ sb, w.heap.size = sb := ⟨_, rfl⟩
  have HBS := Lib.hid (Nat.le_of_eq hfb)
  simp only [hfb] at hP hL ⊢
  generalize w.alloc (.cells #[.int .i64 s.mode, .int .i64 s.source, .bool s.hold, .int .i64 s.flags, .int .u64 s.epoch] 28) = w1 at *
  have S0 := Lib.hid hP
  have L0 := Lib.hid hL
  clear hP hL hfb
  have ORD1 := Lib.hid (show sb = sb from by rfl)
  go_wp2_with fail
  refine (New_in 70 (by decide) (by decide) w1).mono ?_; rintro e w2 ⟨rfl, hb, hl, hsz⟩
  have hb : BankAt w2 (w1.heap.size + 1) w1.heap.size (zeros 70) 0 := hb
  obtain ⟨rr, hrr⟩ : ∃ rr, w1.heap.size = rr := ⟨_, rfl⟩
  have hlt_sb : sb < rr := hrr ▸ S0.out.lt
  simp only [hrr] at hb ⊢
  obtain ⟨g, hg⟩ : ∃ g, rr + 1 = g := ⟨_, rfl⟩
  simp only [hg] at hb ⊢
  have ORD2 := Lib.hid (show sb = sb ∧ sb < rr ∧ rr + 1 = g from by have o_ := ORD1.out; omega)
  clear ORD1
  have ee : Ex (fun _ => False) w1 w2 := Ex.of_below hl
  have S3 := Lib.hid (S0.out.ex ee (fun h => h))
  have L3 := Lib.hid (L0.out.ex ee (fun k hk => hk.elim))
  have K3 := Lib.hid (hb)
  clear ee S0 L0 hb hl hsz hrr hg hlt_sb
  go_wp2_with fail
  refine (S_none _ w2).mono ?_; rintro e w_ ⟨rfl, rfl⟩
  go_wp2_with fail
  refine (G_none w2).mono ?_; rintro e w_ ⟨rfl, rfl⟩
  go_upto_region 6 with fail
  have hn := Blk.new w2 33 #[.int .i64 0, .int .i64 1, .int .i64 long, .slice none 0 0, .int .i64 0]
  obtain ⟨pb, hnb⟩ : ∃ pb, w2.heap.size = pb := ⟨_, rfl⟩
  have hlt_sb : sb < pb := hnb ▸ S3.out.lt
  have hlt_rr : rr < pb := hnb ▸ K3.out.row.lt
  have hlt_g : g < pb := hnb ▸ K3.out.head.lt
  simp only [hnb] at hn ⊢
  have ORD4 := Lib.hid (show sb = sb ∧ sb < rr ∧ rr + 1 = g ∧ sb < pb ∧ rr < pb ∧ g < pb from by have o_ := ORD2.out; omega)
  clear ORD2
  have ee : Ex (fun _ => False) w2 (w2.alloc (.cells #[.int .i64 0, .int .i64 1, .int .i64 long, .slice none 0 0, .int .i64 0] 33)) := (Ex.refl _ w2).alloc (.cells #[.int .i64 0, .int .i64 1, .int .i64 long, .slice none 0 0, .int .i64 0] 33)
  have S5 := Lib.hid (S3.out.ex ee (fun h => h))
  have L5 := Lib.hid (L3.out.ex ee (fun k hk => hk.elim))
  have K5 := Lib.hid (K3.out.ex ee (fun h => h) (fun h => h))
  have P5 := Lib.hid (hn)
  clear ee S3 L3 K3 hn hnb hlt_sb hlt_rr hlt_g
  generalize w2.alloc (.cells #[.int .i64 0, .int .i64 1, .int .i64 long, .slice none 0 0, .int .i64 0] 33) = w3 at *
  have Pq0 := P5.out.cell 0
  have Pq1 := P5.out.cell 1
  have Pq2 := P5.out.cell 2
  have Pq3 := P5.out.cell 3
  have Pq4 := P5.out.cell 4
  simp only [List.getElem?_toArray, List.getElem?_cons_succ, List.getElem?_cons_zero] at Pq0 Pq1 Pq2 Pq3 Pq4
  have Sq0 := S5.out.cell 0
  have Sq1 := S5.out.cell 1
  have Sq2 := S5.out.cell 2
  have Sq3 := S5.out.cell 3
  have Sq4 := S5.out.cell 4
  simp only [List.getElem?_toArray, List.getElem?_cons_succ, List.getElem?_cons_zero] at Sq0 Sq1 Sq2 Sq3 Sq4
  go_wp2_with fail
  clear Pq0 Pq1 Pq2 Pq3 Pq4 Sq0 Sq1 Sq2 Sq3 Sq4
  have HW := Lib.hid (Write_no 1 long s SO.out MY.out HPL.out w3)
  rw [SV.out] at HW
  refine HW.out.mono ?_; rintro e w4 ⟨rfl, hb⟩
  clear HW
  have ee : Ex (fun _ => False) w3 w4 := Ex.of_below hb
  have S6 := Lib.hid (S5.out.ex ee (fun h => h))
  have L6 := Lib.hid (L5.out.ex ee (fun k hk => hk.elim))
  have K6 := Lib.hid (K5.out.ex ee (fun h => h) (fun h => h))
  have P6 := Lib.hid (P5.out.ex ee (fun h => h))
  clear ee S5 L5 K5 P5 hb
  have Sq0 := S6.out.cell 0
  have Sq1 := S6.out.cell 1
  have Sq2 := S6.out.cell 2
  have Sq3 := S6.out.cell 3
  have Sq4 := S6.out.cell 4
  simp only [List.getElem?_toArray, List.getElem?_cons_succ, List.getElem?_cons_zero] at Sq0 Sq1 Sq2 Sq3 Sq4
  go_wp2_with fail
  clear Sq0 Sq1 Sq2 Sq3 Sq4
  have HK := Lib.hid (Pack_ok s SO.out MY.out w4)
  rw [SV.out] at HK
  refine HK.out.mono ?_; rintro e w5 ⟨rfl, hb⟩
  clear HK
  have ee : Ex (fun _ => False) w4 w5 := Ex.of_below hb
  have S7 := Lib.hid (S6.out.ex ee (fun h => h))
  have L7 := Lib.hid (L6.out.ex ee (fun k hk => hk.elim))
  have K7 := Lib.hid (K6.out.ex ee (fun h => h) (fun h => h))
  have P7 := Lib.hid (P6.out.ex ee (fun h => h))
  clear ee S6 L6 K6 P6 hb
  have Pq0 := P7.out.cell 0
  have Pq1 := P7.out.cell 1
  have Pq2 := P7.out.cell 2
  have Pq3 := P7.out.cell 3
  have Pq4 := P7.out.cell 4
  simp only [List.getElem?_toArray, List.getElem?_cons_succ, List.getElem?_cons_zero] at Pq0 Pq1 Pq2 Pq3 Pq4
  go_wp2_with fail
  clear Pq0 Pq1 Pq2 Pq3 Pq4
  refine (Read_out 1 long HPL.out w5).mono ?_; rintro e w6 ⟨rfl, hb⟩
  have ee : Ex (fun _ => False) w5 w6 := Ex.of_below hb
  have S8 := Lib.hid (S7.out.ex ee (fun h => h))
  have L8 := Lib.hid (L7.out.ex ee (fun k hk => hk.elim))
  have K8 := Lib.hid (K7.out.ex ee (fun h => h) (fun h => h))
  have P8 := Lib.hid (P7.out.ex ee (fun h => h))
  clear ee S7 L7 K7 P7 hb
  by_cases h1 : long < 1
  · have kl1 : decide (long < 1) = true := decide_eq_true h1
    clear h1
    go_wp2_with fail
    refine (awake_any w6).mono ?_; rintro e wz ⟨rfl, hb⟩
    have ee : Ex (fun _ => False) w6 wz := Ex.of_below hb
    have S9 := Lib.hid (S8.out.ex ee (fun h => h))
    have L9 := Lib.hid (L8.out.ex ee (fun k hk => hk.elim))
    have K9 := Lib.hid (K8.out.ex ee (fun h => h) (fun h => h))
    have P9 := Lib.hid (P8.out.ex ee (fun h => h))
    clear ee S8 L8 K8 P8 hb
    go_wp2_with fail
    go_ret
    exact ⟨rfl, L9.out.low.mono HBS.out⟩
  · have kl1 : decide (long < 1) = false := decide_eq_false h1
    have kl2 : decide (long > 64) = true := decide_eq_true (by have := HLO.out; omega)
    have kl3 : decide (64 < long) = true := kl2
    clear h1
    go_wp2_with fail
    refine (awake_any w6).mono ?_; rintro e wz ⟨rfl, hb⟩
    have ee : Ex (fun _ => False) w6 wz := Ex.of_below hb
    have S9 := Lib.hid (S8.out.ex ee (fun h => h))
    have L9 := Lib.hid (L8.out.ex ee (fun k hk => hk.elim))
    have K9 := Lib.hid (K8.out.ex ee (fun h => h) (fun h => h))
    have P9 := Lib.hid (P8.out.ex ee (fun h => h))
    clear ee S8 L8 K8 P8 hb
    go_wp2_with fail
    go_ret
    exact ⟨rfl, L9.out.low.mono HBS.out⟩
set_option maxRecDepth 100000 in
set_option maxHeartbeats 8000000 in
theorem Nil_out1 (s : St) (hs : s.Ok) (long : Int) (w : World) (hmay : mayE s ≠ 0) (hl : ¬ (1 ≤ long ∧ long ≤ 64)) : Calls Try.prog 6 #[s.val, .int .i64 long] w fun e w' => e = .returned (.bool true) ∧ Below w.heap.size w w' := by
  have MY := Lib.hid hmay
  have SO := Lib.hid hs
  have HPL := Lib.hid (show ¬ HasP 1 long from fun h => hl h.1)
  obtain ⟨me, hme⟩ : ∃ me, mayE s = me := ⟨_, rfl⟩
  have HME := Lib.hid hme
  have km0 : (me == 0) = false := by rw [← hme]; simpa using hmay
  have km1 : (me != 0) = true := by rw [← hme]; simpa using hmay
  have km2 : (me == me) = true := by simp
  have km3 : (me != me) = false := by simp
  clear hme
  have SV := Lib.hid (show s.val = .agg #[.int .i64 s.mode, .int .i64 s.source, .bool s.hold, .int .i64 s.flags, .int .u64 s.epoch] from rfl)
  unfold St.val
  have HLO := Lib.hid hl
  clear hmay hs hl
  go_enter Try.func6, Try.ntmps6
  go_upto_region 2 with fail
  have hP := Blk.new w 28 #[.int .i64 s.mode, .int .i64 s.source, .bool s.hold, .int .i64 s.flags, .int .u64 s.epoch]
  have hL : Lo w.heap.size w (w.alloc (.cells #[.int .i64 s.mode, .int .i64 s.source, .bool s.hold, .int .i64 s.flags, .int .u64 s.epoch] 28)) := ⟨(Below.refl _ w).alloc (Nat.le_refl _) _, by simp⟩
  obtain ⟨sb, hfb⟩ : ∃ sb, w.heap.size = sb := ⟨_, rfl⟩
  have HBS := Lib.hid (Nat.le_of_eq hfb)
  simp only [hfb] at hP hL ⊢
  generalize w.alloc (.cells #[.int .i64 s.mode, .int .i64 s.source, .bool s.hold, .int .i64 s.flags, .int .u64 s.epoch] 28) = w1 at *
  have S0 := Lib.hid hP
  have L0 := Lib.hid hL
  clear hP hL hfb
  have ORD1 := Lib.hid (show sb = sb from by rfl)
  go_wp2_with fail
  refine (New_in 70 (by decide) (by decide) w1).mono ?_; rintro e w2 ⟨rfl, hb, hl, hsz⟩
  have hb : BankAt w2 (w1.heap.size + 1) w1.heap.size (zeros 70) 0 := hb
  obtain ⟨rr, hrr⟩ : ∃ rr, w1.heap.size = rr := ⟨_, rfl⟩
  have hlt_sb : sb < rr := hrr ▸ S0.out.lt
  simp only [hrr] at hb ⊢
  obtain ⟨g, hg⟩ : ∃ g, rr + 1 = g := ⟨_, rfl⟩
  simp only [hg] at hb ⊢
  have ORD2 := Lib.hid (show sb = sb ∧ sb < rr ∧ rr + 1 = g from by have o_ := ORD1.out; omega)
  clear ORD1
  have ee : Ex (fun _ => False) w1 w2 := Ex.of_below hl
  have S3 := Lib.hid (S0.out.ex ee (fun h => h))
  have L3 := Lib.hid (L0.out.ex ee (fun k hk => hk.elim))
  have K3 := Lib.hid (hb)
  clear ee S0 L0 hb hl hsz hrr hg hlt_sb
  go_wp2_with fail
  refine (S_none _ w2).mono ?_; rintro e w_ ⟨rfl, rfl⟩
  go_wp2_with fail
  refine (G_none w2).mono ?_; rintro e w_ ⟨rfl, rfl⟩
  go_upto_region 6 with fail
  have hn := Blk.new w2 33 #[.int .i64 0, .int .i64 1, .int .i64 long, .slice none 0 0, .int .i64 0]
  obtain ⟨pb, hnb⟩ : ∃ pb, w2.heap.size = pb := ⟨_, rfl⟩
  have hlt_sb : sb < pb := hnb ▸ S3.out.lt
  have hlt_rr : rr < pb := hnb ▸ K3.out.row.lt
  have hlt_g : g < pb := hnb ▸ K3.out.head.lt
  simp only [hnb] at hn ⊢
  have ORD4 := Lib.hid (show sb = sb ∧ sb < rr ∧ rr + 1 = g ∧ sb < pb ∧ rr < pb ∧ g < pb from by have o_ := ORD2.out; omega)
  clear ORD2
  have ee : Ex (fun _ => False) w2 (w2.alloc (.cells #[.int .i64 0, .int .i64 1, .int .i64 long, .slice none 0 0, .int .i64 0] 33)) := (Ex.refl _ w2).alloc (.cells #[.int .i64 0, .int .i64 1, .int .i64 long, .slice none 0 0, .int .i64 0] 33)
  have S5 := Lib.hid (S3.out.ex ee (fun h => h))
  have L5 := Lib.hid (L3.out.ex ee (fun k hk => hk.elim))
  have K5 := Lib.hid (K3.out.ex ee (fun h => h) (fun h => h))
  have P5 := Lib.hid (hn)
  clear ee S3 L3 K3 hn hnb hlt_sb hlt_rr hlt_g
  generalize w2.alloc (.cells #[.int .i64 0, .int .i64 1, .int .i64 long, .slice none 0 0, .int .i64 0] 33) = w3 at *
  have Pq0 := P5.out.cell 0
  have Pq1 := P5.out.cell 1
  have Pq2 := P5.out.cell 2
  have Pq3 := P5.out.cell 3
  have Pq4 := P5.out.cell 4
  simp only [List.getElem?_toArray, List.getElem?_cons_succ, List.getElem?_cons_zero] at Pq0 Pq1 Pq2 Pq3 Pq4
  have Sq0 := S5.out.cell 0
  have Sq1 := S5.out.cell 1
  have Sq2 := S5.out.cell 2
  have Sq3 := S5.out.cell 3
  have Sq4 := S5.out.cell 4
  simp only [List.getElem?_toArray, List.getElem?_cons_succ, List.getElem?_cons_zero] at Sq0 Sq1 Sq2 Sq3 Sq4
  go_wp2_with fail
  clear Pq0 Pq1 Pq2 Pq3 Pq4 Sq0 Sq1 Sq2 Sq3 Sq4
  have HW := Lib.hid (Write_bad 1 long s SO.out MY.out w3)
  rw [SV.out, HME.out] at HW
  refine HW.out.mono ?_; rintro e w4 ⟨rfl, hb⟩
  clear HW
  have ee : Ex (fun _ => False) w3 w4 := Ex.of_below hb
  have S6 := Lib.hid (S5.out.ex ee (fun h => h))
  have L6 := Lib.hid (L5.out.ex ee (fun k hk => hk.elim))
  have K6 := Lib.hid (K5.out.ex ee (fun h => h) (fun h => h))
  have P6 := Lib.hid (P5.out.ex ee (fun h => h))
  clear ee S5 L5 K5 P5 hb
  have Sq0 := S6.out.cell 0
  have Sq1 := S6.out.cell 1
  have Sq2 := S6.out.cell 2
  have Sq3 := S6.out.cell 3
  have Sq4 := S6.out.cell 4
  simp only [List.getElem?_toArray, List.getElem?_cons_succ, List.getElem?_cons_zero] at Sq0 Sq1 Sq2 Sq3 Sq4
  go_wp2_with fail
  clear Sq0 Sq1 Sq2 Sq3 Sq4
  have HK := Lib.hid (Pack_bad s SO.out MY.out w4)
  rw [SV.out, HME.out] at HK
  refine HK.out.mono ?_; rintro e w5 ⟨rfl, hb⟩
  clear HK
  have ee : Ex (fun _ => False) w4 w5 := Ex.of_below hb
  have S7 := Lib.hid (S6.out.ex ee (fun h => h))
  have L7 := Lib.hid (L6.out.ex ee (fun k hk => hk.elim))
  have K7 := Lib.hid (K6.out.ex ee (fun h => h) (fun h => h))
  have P7 := Lib.hid (P6.out.ex ee (fun h => h))
  clear ee S6 L6 K6 P6 hb
  have Pq0 := P7.out.cell 0
  have Pq1 := P7.out.cell 1
  have Pq2 := P7.out.cell 2
  have Pq3 := P7.out.cell 3
  have Pq4 := P7.out.cell 4
  simp only [List.getElem?_toArray, List.getElem?_cons_succ, List.getElem?_cons_zero] at Pq0 Pq1 Pq2 Pq3 Pq4
  go_wp2_with fail
  clear Pq0 Pq1 Pq2 Pq3 Pq4
  refine (Read_out 1 long HPL.out w5).mono ?_; rintro e w6 ⟨rfl, hb⟩
  have ee : Ex (fun _ => False) w5 w6 := Ex.of_below hb
  have S8 := Lib.hid (S7.out.ex ee (fun h => h))
  have L8 := Lib.hid (L7.out.ex ee (fun k hk => hk.elim))
  have K8 := Lib.hid (K7.out.ex ee (fun h => h) (fun h => h))
  have P8 := Lib.hid (P7.out.ex ee (fun h => h))
  clear ee S7 L7 K7 P7 hb
  by_cases h1 : long < 1
  · have kl1 : decide (long < 1) = true := decide_eq_true h1
    clear h1
    go_wp2_with fail
    refine (awake_any w6).mono ?_; rintro e wz ⟨rfl, hb⟩
    have ee : Ex (fun _ => False) w6 wz := Ex.of_below hb
    have S9 := Lib.hid (S8.out.ex ee (fun h => h))
    have L9 := Lib.hid (L8.out.ex ee (fun k hk => hk.elim))
    have K9 := Lib.hid (K8.out.ex ee (fun h => h) (fun h => h))
    have P9 := Lib.hid (P8.out.ex ee (fun h => h))
    clear ee S8 L8 K8 P8 hb
    go_wp2_with fail
    go_ret
    exact ⟨rfl, L9.out.low.mono HBS.out⟩
  · have kl1 : decide (long < 1) = false := decide_eq_false h1
    have kl2 : decide (long > 64) = true := decide_eq_true (by have := HLO.out; omega)
    have kl3 : decide (64 < long) = true := kl2
    clear h1
    go_wp2_with fail
    refine (awake_any w6).mono ?_; rintro e wz ⟨rfl, hb⟩
    have ee : Ex (fun _ => False) w6 wz := Ex.of_below hb
    have S9 := Lib.hid (S8.out.ex ee (fun h => h))
    have L9 := Lib.hid (L8.out.ex ee (fun k hk => hk.elim))
    have K9 := Lib.hid (K8.out.ex ee (fun h => h) (fun h => h))
    have P9 := Lib.hid (P8.out.ex ee (fun h => h))
    clear ee S8 L8 K8 P8 hb
    go_wp2_with fail
    go_ret
    exact ⟨rfl, L9.out.low.mono HBS.out⟩
set_option maxRecDepth 100000 in
set_option maxHeartbeats 8000000 in
theorem Nil_bad (s : St) (hs : s.Ok) (long : Int) (w : World) (hmay : mayE s ≠ 0) (hl : 1 ≤ long ∧ long ≤ 64) : Calls Try.prog 6 #[s.val, .int .i64 long] w fun e w' => e = .returned (.bool true) ∧ Below w.heap.size w w' := by
  have MY := Lib.hid hmay
  have SO := Lib.hid hs
  have kl1 : decide (long < 1) = false := decide_eq_false (by omega)
  have kl2 : decide (long > 64) = false := decide_eq_false (by omega)
  have HPL := Lib.hid (show HasP 1 long from ⟨hl, by omega⟩)
  have HLN := Lib.hid hl
  obtain ⟨me, hme⟩ : ∃ me, mayE s = me := ⟨_, rfl⟩
  have HME := Lib.hid hme
  have km0 : (me == 0) = false := by rw [← hme]; simpa using hmay
  have km1 : (me != 0) = true := by rw [← hme]; simpa using hmay
  have km2 : (me == me) = true := by simp
  have km3 : (me != me) = false := by simp
  clear hme
  have SV := Lib.hid (show s.val = .agg #[.int .i64 s.mode, .int .i64 s.source, .bool s.hold, .int .i64 s.flags, .int .u64 s.epoch] from rfl)
  unfold St.val
  clear hmay hs hl
  go_enter Try.func6, Try.ntmps6
  go_upto_region 2 with fail
  have hP := Blk.new w 28 #[.int .i64 s.mode, .int .i64 s.source, .bool s.hold, .int .i64 s.flags, .int .u64 s.epoch]
  have hL : Lo w.heap.size w (w.alloc (.cells #[.int .i64 s.mode, .int .i64 s.source, .bool s.hold, .int .i64 s.flags, .int .u64 s.epoch] 28)) := ⟨(Below.refl _ w).alloc (Nat.le_refl _) _, by simp⟩
  obtain ⟨sb, hfb⟩ : ∃ sb, w.heap.size = sb := ⟨_, rfl⟩
  have HBS := Lib.hid (Nat.le_of_eq hfb)
  simp only [hfb] at hP hL ⊢
  generalize w.alloc (.cells #[.int .i64 s.mode, .int .i64 s.source, .bool s.hold, .int .i64 s.flags, .int .u64 s.epoch] 28) = w1 at *
  have S0 := Lib.hid hP
  have L0 := Lib.hid hL
  clear hP hL hfb
  have ORD1 := Lib.hid (show sb = sb from by rfl)
  go_wp2_with fail
  refine (New_in 70 (by decide) (by decide) w1).mono ?_; rintro e w2 ⟨rfl, hb, hl, hsz⟩
  have hb : BankAt w2 (w1.heap.size + 1) w1.heap.size (zeros 70) 0 := hb
  obtain ⟨rr, hrr⟩ : ∃ rr, w1.heap.size = rr := ⟨_, rfl⟩
  have hlt_sb : sb < rr := hrr ▸ S0.out.lt
  simp only [hrr] at hb ⊢
  obtain ⟨g, hg⟩ : ∃ g, rr + 1 = g := ⟨_, rfl⟩
  simp only [hg] at hb ⊢
  have ORD2 := Lib.hid (show sb = sb ∧ sb < rr ∧ rr + 1 = g from by have o_ := ORD1.out; omega)
  clear ORD1
  have ee : Ex (fun _ => False) w1 w2 := Ex.of_below hl
  have S3 := Lib.hid (S0.out.ex ee (fun h => h))
  have L3 := Lib.hid (L0.out.ex ee (fun k hk => hk.elim))
  have K3 := Lib.hid (hb)
  clear ee S0 L0 hb hl hsz hrr hg hlt_sb
  go_wp2_with fail
  refine (S_none _ w2).mono ?_; rintro e w_ ⟨rfl, rfl⟩
  go_wp2_with fail
  refine (G_none w2).mono ?_; rintro e w_ ⟨rfl, rfl⟩
  go_upto_region 6 with fail
  have hn := Blk.new w2 33 #[.int .i64 0, .int .i64 1, .int .i64 long, .slice none 0 0, .int .i64 0]
  obtain ⟨pb, hnb⟩ : ∃ pb, w2.heap.size = pb := ⟨_, rfl⟩
  have hlt_sb : sb < pb := hnb ▸ S3.out.lt
  have hlt_rr : rr < pb := hnb ▸ K3.out.row.lt
  have hlt_g : g < pb := hnb ▸ K3.out.head.lt
  simp only [hnb] at hn ⊢
  have ORD4 := Lib.hid (show sb = sb ∧ sb < rr ∧ rr + 1 = g ∧ sb < pb ∧ rr < pb ∧ g < pb from by have o_ := ORD2.out; omega)
  clear ORD2
  have ee : Ex (fun _ => False) w2 (w2.alloc (.cells #[.int .i64 0, .int .i64 1, .int .i64 long, .slice none 0 0, .int .i64 0] 33)) := (Ex.refl _ w2).alloc (.cells #[.int .i64 0, .int .i64 1, .int .i64 long, .slice none 0 0, .int .i64 0] 33)
  have S5 := Lib.hid (S3.out.ex ee (fun h => h))
  have L5 := Lib.hid (L3.out.ex ee (fun k hk => hk.elim))
  have K5 := Lib.hid (K3.out.ex ee (fun h => h) (fun h => h))
  have P5 := Lib.hid (hn)
  clear ee S3 L3 K3 hn hnb hlt_sb hlt_rr hlt_g
  generalize w2.alloc (.cells #[.int .i64 0, .int .i64 1, .int .i64 long, .slice none 0 0, .int .i64 0] 33) = w3 at *
  have Pq0 := P5.out.cell 0
  have Pq1 := P5.out.cell 1
  have Pq2 := P5.out.cell 2
  have Pq3 := P5.out.cell 3
  have Pq4 := P5.out.cell 4
  simp only [List.getElem?_toArray, List.getElem?_cons_succ, List.getElem?_cons_zero] at Pq0 Pq1 Pq2 Pq3 Pq4
  have Sq0 := S5.out.cell 0
  have Sq1 := S5.out.cell 1
  have Sq2 := S5.out.cell 2
  have Sq3 := S5.out.cell 3
  have Sq4 := S5.out.cell 4
  simp only [List.getElem?_toArray, List.getElem?_cons_succ, List.getElem?_cons_zero] at Sq0 Sq1 Sq2 Sq3 Sq4
  go_wp2_with fail
  clear Pq0 Pq1 Pq2 Pq3 Pq4 Sq0 Sq1 Sq2 Sq3 Sq4
  have HW := Lib.hid (Write_bad 1 long s SO.out MY.out w3)
  rw [SV.out, HME.out] at HW
  refine HW.out.mono ?_; rintro e w4 ⟨rfl, hb⟩
  clear HW
  have ee : Ex (fun _ => False) w3 w4 := Ex.of_below hb
  have S6 := Lib.hid (S5.out.ex ee (fun h => h))
  have L6 := Lib.hid (L5.out.ex ee (fun k hk => hk.elim))
  have K6 := Lib.hid (K5.out.ex ee (fun h => h) (fun h => h))
  have P6 := Lib.hid (P5.out.ex ee (fun h => h))
  clear ee S5 L5 K5 P5 hb
  have Sq0 := S6.out.cell 0
  have Sq1 := S6.out.cell 1
  have Sq2 := S6.out.cell 2
  have Sq3 := S6.out.cell 3
  have Sq4 := S6.out.cell 4
  simp only [List.getElem?_toArray, List.getElem?_cons_succ, List.getElem?_cons_zero] at Sq0 Sq1 Sq2 Sq3 Sq4
  go_wp2_with fail
  clear Sq0 Sq1 Sq2 Sq3 Sq4
  have HK := Lib.hid (Pack_bad s SO.out MY.out w4)
  rw [SV.out, HME.out] at HK
  refine HK.out.mono ?_; rintro e w5 ⟨rfl, hb⟩
  clear HK
  have ee : Ex (fun _ => False) w4 w5 := Ex.of_below hb
  have S7 := Lib.hid (S6.out.ex ee (fun h => h))
  have L7 := Lib.hid (L6.out.ex ee (fun k hk => hk.elim))
  have K7 := Lib.hid (K6.out.ex ee (fun h => h) (fun h => h))
  have P7 := Lib.hid (P6.out.ex ee (fun h => h))
  clear ee S6 L6 K6 P6 hb
  have Pq0 := P7.out.cell 0
  have Pq1 := P7.out.cell 1
  have Pq2 := P7.out.cell 2
  have Pq3 := P7.out.cell 3
  have Pq4 := P7.out.cell 4
  simp only [List.getElem?_toArray, List.getElem?_cons_succ, List.getElem?_cons_zero] at Pq0 Pq1 Pq2 Pq3 Pq4
  go_wp2_with fail
  clear Pq0 Pq1 Pq2 Pq3 Pq4
  refine (Read_in 1 long HPL.out w5).mono ?_; rintro e w6 ⟨o1, rfl, ha, hs, hb⟩
  have hlt_sb : sb < o1 := Nat.lt_of_lt_of_le S7.out.lt hs
  have hlt_rr : rr < o1 := Nat.lt_of_lt_of_le K7.out.row.lt hs
  have hlt_g : g < o1 := Nat.lt_of_lt_of_le K7.out.head.lt hs
  have hlt_pb : pb < o1 := Nat.lt_of_lt_of_le P7.out.lt hs
  have ORD8 := Lib.hid (show sb = sb ∧ sb < rr ∧ rr + 1 = g ∧ sb < pb ∧ rr < pb ∧ g < pb ∧ sb < o1 ∧ rr < o1 ∧ g < o1 ∧ pb < o1 from by have o_ := ORD4.out; omega)
  clear ORD4
  have ee : Ex (fun _ => False) w5 w6 := Ex.of_below hb
  have S9 := Lib.hid (S7.out.ex ee (fun h => h))
  have L9 := Lib.hid (L7.out.ex ee (fun k hk => hk.elim))
  have K9 := Lib.hid (K7.out.ex ee (fun h => h) (fun h => h))
  have P9 := Lib.hid (P7.out.ex ee (fun h => h))
  have A19 := Lib.hid (ha)
  clear ee S7 L7 K7 P7 ha hs hb hlt_sb hlt_rr hlt_g hlt_pb
  go_wp2_with fail
  refine (S_rnil o1 o1 1 long 0 [] w6 A19.out HPL.out (by have := HLN.out; omega)).mono ?_; rintro e w7 ⟨rfl, ha, hx⟩
  have ee : Ex (fun k => k = o1) w6 w7 := hx.mono (fun k hk => by rcases hk with h | h <;> exact h)
  have S10 := Lib.hid (S9.out.ex ee (by have o_ := ORD8.out; omega))
  have L10 := Lib.hid (L9.out.ex ee (fun k hk => by have o_ := ORD8.out; have hk : k = o1 := hk; omega))
  have K10 := Lib.hid (K9.out.ex ee (by have o_ := ORD8.out; omega) (by have o_ := ORD8.out; omega))
  have P10 := Lib.hid (P9.out.ex ee (by have o_ := ORD8.out; omega))
  have A110 := Lib.hid (ha)
  clear ee S9 L9 K9 P9 A19 ha hx
  go_wp2_with fail
  refine (S_done o1 o1 1 long _ _ w7 A110.out (by decide) _).mono ?_; rintro e w_ ⟨rfl, rfl⟩
  go_wp2_with fail
  refine (G_busy o1 o1 1 long _ _ w7 A110.out (by decide)).mono ?_; rintro e w_ ⟨rfl, rfl⟩
  go_wp2_with fail
  refine (Touches_any g rr _ 0 w7 K10.out).mono ?_; rintro e w_ ⟨rfl, rfl⟩
  go_wp2_with fail
  refine (awake_any w7).mono ?_; rintro e wz ⟨rfl, hb⟩
  have ee : Ex (fun _ => False) w7 wz := Ex.of_below hb
  have S11 := Lib.hid (S10.out.ex ee (fun h => h))
  have L11 := Lib.hid (L10.out.ex ee (fun k hk => hk.elim))
  have K11 := Lib.hid (K10.out.ex ee (fun h => h) (fun h => h))
  have P11 := Lib.hid (P10.out.ex ee (fun h => h))
  have A111 := Lib.hid (A110.out.ex ee (fun h => h.elim (fun h => h) (fun h => h)))
  clear ee S10 L10 K10 P10 A110 hb
  go_wp2_with fail
  go_ret
  exact ⟨rfl, L11.out.low.mono HBS.out⟩
set_option maxRecDepth 100000 in
set_option maxHeartbeats 8000000 in
theorem Nil_good (s : St) (hs : s.Ok) (long : Int) (w : World) (hmay : mayE s = 0) (hl : 1 ≤ long ∧ long ≤ 64) : Calls Try.prog 6 #[s.val, .int .i64 long] w fun e w' => e = .returned (.bool true) ∧ Below w.heap.size w w' := by
  have MY := Lib.hid hmay
  have SO := Lib.hid hs
  have kl1 : decide (long < 1) = false := decide_eq_false (by omega)
  have kl2 : decide (long > 64) = false := decide_eq_false (by omega)
  have HPL := Lib.hid (show HasP 1 long from ⟨hl, by omega⟩)
  have HLN := Lib.hid hl
  have SV := Lib.hid (show s.val = .agg #[.int .i64 s.mode, .int .i64 s.source, .bool s.hold, .int .i64 s.flags, .int .u64 s.epoch] from rfl)
  unfold St.val
  clear hmay hs hl
  go_enter Try.func6, Try.ntmps6
  go_upto_region 2 with fail
  have hP := Blk.new w 28 #[.int .i64 s.mode, .int .i64 s.source, .bool s.hold, .int .i64 s.flags, .int .u64 s.epoch]
  have hL : Lo w.heap.size w (w.alloc (.cells #[.int .i64 s.mode, .int .i64 s.source, .bool s.hold, .int .i64 s.flags, .int .u64 s.epoch] 28)) := ⟨(Below.refl _ w).alloc (Nat.le_refl _) _, by simp⟩
  obtain ⟨sb, hfb⟩ : ∃ sb, w.heap.size = sb := ⟨_, rfl⟩
  have HBS := Lib.hid (Nat.le_of_eq hfb)
  simp only [hfb] at hP hL ⊢
  generalize w.alloc (.cells #[.int .i64 s.mode, .int .i64 s.source, .bool s.hold, .int .i64 s.flags, .int .u64 s.epoch] 28) = w1 at *
  have S0 := Lib.hid hP
  have L0 := Lib.hid hL
  clear hP hL hfb
  have ORD1 := Lib.hid (show sb = sb from by rfl)
  go_wp2_with fail
  refine (New_in 70 (by decide) (by decide) w1).mono ?_; rintro e w2 ⟨rfl, hb, hl, hsz⟩
  have hb : BankAt w2 (w1.heap.size + 1) w1.heap.size (zeros 70) 0 := hb
  obtain ⟨rr, hrr⟩ : ∃ rr, w1.heap.size = rr := ⟨_, rfl⟩
  have hlt_sb : sb < rr := hrr ▸ S0.out.lt
  simp only [hrr] at hb ⊢
  obtain ⟨g, hg⟩ : ∃ g, rr + 1 = g := ⟨_, rfl⟩
  simp only [hg] at hb ⊢
  have ORD2 := Lib.hid (show sb = sb ∧ sb < rr ∧ rr + 1 = g from by have o_ := ORD1.out; omega)
  clear ORD1
  have ee : Ex (fun _ => False) w1 w2 := Ex.of_below hl
  have S3 := Lib.hid (S0.out.ex ee (fun h => h))
  have L3 := Lib.hid (L0.out.ex ee (fun k hk => hk.elim))
  have K3 := Lib.hid (hb)
  clear ee S0 L0 hb hl hsz hrr hg hlt_sb
  go_wp2_with fail
  refine (S_none _ w2).mono ?_; rintro e w_ ⟨rfl, rfl⟩
  go_wp2_with fail
  refine (G_none w2).mono ?_; rintro e w_ ⟨rfl, rfl⟩
  go_upto_region 6 with fail
  have hn := Blk.new w2 33 #[.int .i64 0, .int .i64 1, .int .i64 long, .slice none 0 0, .int .i64 0]
  obtain ⟨pb, hnb⟩ : ∃ pb, w2.heap.size = pb := ⟨_, rfl⟩
  have hlt_sb : sb < pb := hnb ▸ S3.out.lt
  have hlt_rr : rr < pb := hnb ▸ K3.out.row.lt
  have hlt_g : g < pb := hnb ▸ K3.out.head.lt
  simp only [hnb] at hn ⊢
  have ORD4 := Lib.hid (show sb = sb ∧ sb < rr ∧ rr + 1 = g ∧ sb < pb ∧ rr < pb ∧ g < pb from by have o_ := ORD2.out; omega)
  clear ORD2
  have ee : Ex (fun _ => False) w2 (w2.alloc (.cells #[.int .i64 0, .int .i64 1, .int .i64 long, .slice none 0 0, .int .i64 0] 33)) := (Ex.refl _ w2).alloc (.cells #[.int .i64 0, .int .i64 1, .int .i64 long, .slice none 0 0, .int .i64 0] 33)
  have S5 := Lib.hid (S3.out.ex ee (fun h => h))
  have L5 := Lib.hid (L3.out.ex ee (fun k hk => hk.elim))
  have K5 := Lib.hid (K3.out.ex ee (fun h => h) (fun h => h))
  have P5 := Lib.hid (hn)
  clear ee S3 L3 K3 hn hnb hlt_sb hlt_rr hlt_g
  generalize w2.alloc (.cells #[.int .i64 0, .int .i64 1, .int .i64 long, .slice none 0 0, .int .i64 0] 33) = w3 at *
  have Pq0 := P5.out.cell 0
  have Pq1 := P5.out.cell 1
  have Pq2 := P5.out.cell 2
  have Pq3 := P5.out.cell 3
  have Pq4 := P5.out.cell 4
  simp only [List.getElem?_toArray, List.getElem?_cons_succ, List.getElem?_cons_zero] at Pq0 Pq1 Pq2 Pq3 Pq4
  have Sq0 := S5.out.cell 0
  have Sq1 := S5.out.cell 1
  have Sq2 := S5.out.cell 2
  have Sq3 := S5.out.cell 3
  have Sq4 := S5.out.cell 4
  simp only [List.getElem?_toArray, List.getElem?_cons_succ, List.getElem?_cons_zero] at Sq0 Sq1 Sq2 Sq3 Sq4
  go_wp2_with fail
  clear Pq0 Pq1 Pq2 Pq3 Pq4 Sq0 Sq1 Sq2 Sq3 Sq4
  have HW := Lib.hid (Write_in 1 long s SO.out MY.out HPL.out w3)
  rw [SV.out] at HW
  refine HW.out.mono ?_; rintro e w4 ⟨ow, rfl, ha, hs, hb⟩
  clear HW
  have hlt_sb : sb < ow := Nat.lt_of_lt_of_le S5.out.lt hs
  have hlt_rr : rr < ow := Nat.lt_of_lt_of_le K5.out.row.lt hs
  have hlt_g : g < ow := Nat.lt_of_lt_of_le K5.out.head.lt hs
  have hlt_pb : pb < ow := Nat.lt_of_lt_of_le P5.out.lt hs
  have ORD6 := Lib.hid (show sb = sb ∧ sb < rr ∧ rr + 1 = g ∧ sb < pb ∧ rr < pb ∧ g < pb ∧ sb < ow ∧ rr < ow ∧ g < ow ∧ pb < ow from by have o_ := ORD4.out; omega)
  clear ORD4
  have ee : Ex (fun _ => False) w3 w4 := Ex.of_below hb
  have S7 := Lib.hid (S5.out.ex ee (fun h => h))
  have L7 := Lib.hid (L5.out.ex ee (fun k hk => hk.elim))
  have K7 := Lib.hid (K5.out.ex ee (fun h => h) (fun h => h))
  have P7 := Lib.hid (P5.out.ex ee (fun h => h))
  have Aw7 := Lib.hid (ha)
  clear ee S5 L5 K5 P5 ha hs hb hlt_sb hlt_rr hlt_g hlt_pb
  have Sq0 := S7.out.cell 0
  have Sq1 := S7.out.cell 1
  have Sq2 := S7.out.cell 2
  have Sq3 := S7.out.cell 3
  have Sq4 := S7.out.cell 4
  simp only [List.getElem?_toArray, List.getElem?_cons_succ, List.getElem?_cons_zero] at Sq0 Sq1 Sq2 Sq3 Sq4
  go_wp2_with fail
  clear Sq0 Sq1 Sq2 Sq3 Sq4
  have HK := Lib.hid (Pack_ok s SO.out MY.out w4)
  rw [SV.out] at HK
  refine HK.out.mono ?_; rintro e w5 ⟨rfl, hb⟩
  clear HK
  have ee : Ex (fun _ => False) w4 w5 := Ex.of_below hb
  have S8 := Lib.hid (S7.out.ex ee (fun h => h))
  have L8 := Lib.hid (L7.out.ex ee (fun k hk => hk.elim))
  have K8 := Lib.hid (K7.out.ex ee (fun h => h) (fun h => h))
  have P8 := Lib.hid (P7.out.ex ee (fun h => h))
  have Aw8 := Lib.hid (Aw7.out.ex ee (fun h => h.elim (fun h => h) (fun h => h)))
  clear ee S7 L7 K7 P7 Aw7 hb
  have Pq0 := P8.out.cell 0
  have Pq1 := P8.out.cell 1
  have Pq2 := P8.out.cell 2
  have Pq3 := P8.out.cell 3
  have Pq4 := P8.out.cell 4
  simp only [List.getElem?_toArray, List.getElem?_cons_succ, List.getElem?_cons_zero] at Pq0 Pq1 Pq2 Pq3 Pq4
  go_wp2_with fail
  clear Pq0 Pq1 Pq2 Pq3 Pq4
  refine (Read_in 1 long HPL.out w5).mono ?_; rintro e w6 ⟨o1, rfl, ha, hs, hb⟩
  have hlt_sb : sb < o1 := Nat.lt_of_lt_of_le S8.out.lt hs
  have hlt_rr : rr < o1 := Nat.lt_of_lt_of_le K8.out.row.lt hs
  have hlt_g : g < o1 := Nat.lt_of_lt_of_le K8.out.head.lt hs
  have hlt_pb : pb < o1 := Nat.lt_of_lt_of_le P8.out.lt hs
  have hlt_ow : ow < o1 := Nat.lt_of_lt_of_le Aw8.out.lt hs
  have ORD9 := Lib.hid (show sb = sb ∧ sb < rr ∧ rr + 1 = g ∧ sb < pb ∧ rr < pb ∧ g < pb ∧ sb < ow ∧ rr < ow ∧ g < ow ∧ pb < ow ∧ sb < o1 ∧ rr < o1 ∧ g < o1 ∧ pb < o1 ∧ ow < o1 from by have o_ := ORD6.out; omega)
  clear ORD6
  have ee : Ex (fun _ => False) w5 w6 := Ex.of_below hb
  have S10 := Lib.hid (S8.out.ex ee (fun h => h))
  have L10 := Lib.hid (L8.out.ex ee (fun k hk => hk.elim))
  have K10 := Lib.hid (K8.out.ex ee (fun h => h) (fun h => h))
  have P10 := Lib.hid (P8.out.ex ee (fun h => h))
  have Aw10 := Lib.hid (Aw8.out.ex ee (fun h => h.elim (fun h => h) (fun h => h)))
  have A110 := Lib.hid (ha)
  clear ee S8 L8 K8 P8 Aw8 ha hs hb hlt_sb hlt_rr hlt_g hlt_pb hlt_ow
  go_wp2_with fail
  refine (S_rnil o1 o1 1 long 0 [] w6 A110.out HPL.out (by have := HLN.out; omega)).mono ?_; rintro e w7 ⟨rfl, ha, hx⟩
  have ee : Ex (fun k => k = o1) w6 w7 := hx.mono (fun k hk => by rcases hk with h | h <;> exact h)
  have S11 := Lib.hid (S10.out.ex ee (by have o_ := ORD9.out; omega))
  have L11 := Lib.hid (L10.out.ex ee (fun k hk => by have o_ := ORD9.out; have hk : k = o1 := hk; omega))
  have K11 := Lib.hid (K10.out.ex ee (by have o_ := ORD9.out; omega) (by have o_ := ORD9.out; omega))
  have P11 := Lib.hid (P10.out.ex ee (by have o_ := ORD9.out; omega))
  have Aw11 := Lib.hid (Aw10.out.ex ee (by have o_ := ORD9.out; omega))
  have A111 := Lib.hid (ha)
  clear ee S10 L10 K10 P10 Aw10 A110 ha hx
  go_wp2_with fail
  refine (S_done o1 o1 1 long _ _ w7 A111.out (by decide) _).mono ?_; rintro e w_ ⟨rfl, rfl⟩
  go_wp2_with fail
  refine (G_busy o1 o1 1 long _ _ w7 A111.out (by decide)).mono ?_; rintro e w_ ⟨rfl, rfl⟩
  go_wp2_with fail
  refine (Touches_any g rr _ 0 w7 K11.out).mono ?_; rintro e w_ ⟨rfl, rfl⟩
  go_wp2_with fail
  have EI := Lib.hid (entF_range (e := s.epoch) HPL.out)
  refine (S_win g rr ow ow (zeros 70) 0 1 long 0 (wordI s) s [] w7 Aw11.out K11.out (by have o_ := ORD9.out; omega) SO.out (wordI_range (mayE_zero.1 MY.out).1 SO.out) ⟨by have := EI.out; omega, by rw [zeros_len]; have := EI.out; have := HLN.out; omega⟩).mono ?_; rintro e w8 ⟨rfl, hb1, _, hx⟩
  have ee : Ex (fun k => k = g ∨ k = rr ∨ k = ow) w7 w8 := hx.mono (fun k hk => by rcases hk with h | h | h | h <;> simp [h])
  have S12 := Lib.hid (S11.out.ex ee (by have o_ := ORD9.out; omega))
  have L12 := Lib.hid (L11.out.ex ee (fun k hk => by have o_ := ORD9.out; have hk : k = g ∨ k = rr ∨ k = ow := hk; omega))
  have P12 := Lib.hid (P11.out.ex ee (by have o_ := ORD9.out; omega))
  have K12 := Lib.hid (hb1)
  clear ee S11 L11 K11 P11 hb1 hx Aw11 A111
  have Pq0 := P12.out.cell 0
  have Pq1 := P12.out.cell 1
  have Pq2 := P12.out.cell 2
  have Pq3 := P12.out.cell 3
  have Pq4 := P12.out.cell 4
  simp only [List.getElem?_toArray, List.getElem?_cons_succ, List.getElem?_cons_zero] at Pq0 Pq1 Pq2 Pq3 Pq4
  go_wp2_with fail
  clear Pq0 Pq1 Pq2 Pq3 Pq4
  refine (Read_in 1 long HPL.out w8).mono ?_; rintro e w9 ⟨oq, rfl, ha, hs, hb⟩
  have hlt_sb : sb < oq := Nat.lt_of_lt_of_le S12.out.lt hs
  have hlt_rr : rr < oq := Nat.lt_of_lt_of_le K12.out.row.lt hs
  have hlt_g : g < oq := Nat.lt_of_lt_of_le K12.out.head.lt hs
  have hlt_pb : pb < oq := Nat.lt_of_lt_of_le P12.out.lt hs
  have ORD13 := Lib.hid (show sb = sb ∧ sb < rr ∧ rr + 1 = g ∧ sb < pb ∧ rr < pb ∧ g < pb ∧ sb < ow ∧ rr < ow ∧ g < ow ∧ pb < ow ∧ sb < o1 ∧ rr < o1 ∧ g < o1 ∧ pb < o1 ∧ ow < o1 ∧ sb < oq ∧ rr < oq ∧ g < oq ∧ pb < oq from by have o_ := ORD9.out; omega)
  clear ORD9
  have ee : Ex (fun _ => False) w8 w9 := Ex.of_below hb
  have S14 := Lib.hid (S12.out.ex ee (fun h => h))
  have L14 := Lib.hid (L12.out.ex ee (fun k hk => hk.elim))
  have K14 := Lib.hid (K12.out.ex ee (fun h => h) (fun h => h))
  have P14 := Lib.hid (P12.out.ex ee (fun h => h))
  have Aq14 := Lib.hid (ha)
  clear ee S12 L12 K12 P12 ha hs hb hlt_sb hlt_rr hlt_g hlt_pb
  go_wp2_with fail
  obtain ⟨N, hN⟩ : ∃ N : Nat, long = N := ⟨long.toNat, by have := HLN.out; omega⟩
  obtain ⟨ws, hws⟩ : ∃ ws, setF (zeros 70) (entF 1 long s.epoch) (wordI s) = ws := ⟨_, rfl⟩
  rw [hws] at K14
  have HWL := Lib.hid (show ws.length = 70 by
    rw [← hws, setF_in ⟨by have := EI.out; omega, by rw [zeros_len]; have := EI.out; have := HLN.out; omega⟩, List.length_set, zeros_len])
  obtain ⟨Ls, hLs⟩ : ∃ Ls, sortS (keepL 1 long 0 (rdN 1 ws N)) = Ls := ⟨_, rfl⟩
  have NL := Lib.hid (nil_list (L := Ls) SO.out MY.out hN (by have := HLN.out; omega) (by rw [hws]; exact hLs))
  have HLS := Lib.hid hLs
  have HNN := Lib.hid hN
  clear hws hLs hN EI
  go_loopw [15] (fun s15 wr => ∃ i : Nat, i ≤ N ∧ s15 = .int .i64 i ∧ (∃ t qq, RdAt wr oq qq 1 long (rdN 1 ws i) (nilHow i N) ∧ BankAt wr g rr ws t ∧ oq ≤ qq) ∧ Lo sb w wr ∧ Blk wr sb 28 #[.int .i64 s.mode, .int .i64 s.source, .bool s.hold, .int .i64 s.flags, .int .u64 s.epoch]) (fun s15 _ => N - (intOf s15).toNat)
  case atStart => exact ⟨0, by omega, rfl, ⟨_, oq, by rw [show nilHow 0 N = 0 from if_neg (by have := HLN.out; have := HNN.out; omega)]; exact RdAt.start Aq14.out, K14.out, Nat.le_refl _⟩, L14.out, S14.out⟩
  case round =>
    clear Aq14 K14 L14 S14 P14
    obtain ⟨i, hi, rfl, ⟨t, qq, ha, hk, hq⟩, hl, hS⟩ := hrel
    have Aq9 := Lib.hid ha
    have K9 := Lib.hid hk
    have L9 := Lib.hid hl
    have S9 := Lib.hid hS
    have QQ := Lib.hid hq
    clear ha hk hl hS hq
    have ORD41 := Lib.hid (show sb = sb ∧ sb < rr ∧ rr + 1 = g ∧ sb < pb ∧ rr < pb ∧ g < pb ∧ sb < ow ∧ rr < ow ∧ g < ow ∧ pb < ow ∧ sb < o1 ∧ rr < o1 ∧ g < o1 ∧ pb < o1 ∧ ow < o1 ∧ sb < oq ∧ rr < oq ∧ g < oq ∧ pb < oq ∧ oq ≤ qq from by have o_ := ORD13.out; have := QQ.out; omega)
    clear ORD13
    clear QQ
    by_cases hlt : i < N
    · have kd : decide ((i : Int) < long) = true := decide_eq_true (by have := HNN.out; omega)
      have HI := Lib.hid hlt
      have HTN := Lib.hid (turn_num i N hlt (by have := HLN.out; have := HNN.out; unfold maxLen; omega))
      have HIN := Lib.hid (show inW ws (1 + (i : Int)) from ⟨by omega, by rw [HWL.out]; have := HLN.out; have := HNN.out; omega⟩)
      clear hi hlt
      go_wp2_with fail
      have HA := Lib.hid (show RdAt wr oq qq 1 long (rdN 1 ws i) 0 from by have h9 := Aq9.out; rw [show nilHow i N = 0 from if_neg (by have := HI.out; omega)] at h9; exact h9)
      refine (RStep_busy g rr oq qq ws t 1 long (rdN 1 ws i) wr HA.out K9.out (by have o_ := ORD41.out; omega) HPL.out (by rw [rdN_len]; have := HI.out; have := HNN.out; omega)).mono ?_; rintro e w10 ⟨rfl, hb1, ⟨q1, ha, hq⟩, hx⟩
      have hin9 : inW ws (1 + ((rdN 1 ws i).length : Int)) := by rw [rdN_len]; exact HIN.out
      rw [rdN_next HIN.out, rdN_how HIN.out] at ha
      rw [rdN_len] at hb1
      have ha : RdAt w10 oq q1 1 long (rdN 1 ws (i + 1)) (nilHow (i + 1) N) := by
        have e : (if (i : Int) + 1 < long then (0 : Int) else 1) = nilHow (i + 1) N := by
          unfold nilHow
          have h1 := HI.out; have h2 := HNN.out
          by_cases e : i + 1 = N
          · rw [if_pos e, if_neg (by omega)]
          · rw [if_neg e, if_pos (by omega)]
        rw [← e]; exact ha
      clear HA hin9
      have ORD42 := Lib.hid (show sb = sb ∧ sb < rr ∧ rr + 1 = g ∧ sb < pb ∧ rr < pb ∧ g < pb ∧ sb < ow ∧ rr < ow ∧ g < ow ∧ pb < ow ∧ sb < o1 ∧ rr < o1 ∧ g < o1 ∧ pb < o1 ∧ ow < o1 ∧ sb < oq ∧ rr < oq ∧ g < oq ∧ pb < oq ∧ oq ≤ qq ∧ (q1 = qq ∨ q1 > oq) from by have o_ := ORD41.out; have := Aq9.out.lt; omega)
      clear ORD41
      have ee : Ex (fun k => k = g ∨ k = rr ∨ k = oq ∨ k = qq) wr w10 := hx.mono (fun k hk => by rcases hk with h | h | h | h <;> simp [h])
      have L43 := Lib.hid (L9.out.ex ee (fun k hk => by have o_ := ORD42.out; have hk : k = g ∨ k = rr ∨ k = oq ∨ k = qq := hk; omega))
      have S43 := Lib.hid (S9.out.ex ee (by have o_ := ORD42.out; omega))
      have K43 := Lib.hid (hb1)
      have Aq43 := Lib.hid (ha)
      clear ee Aq9 K9 L9 S9 hb1 ha hx hq
      go_wp2_with fail
      go_roundw
      case rel => exact ⟨i + 1, HI.out, HTN.out.1, ⟨_, q1, Aq43.out, K43.out, by have o_ := ORD42.out; omega⟩, L43.out, S43.out⟩
      case measure => exact HTN.out.2
    · obtain rfl : i = N := by omega
      have kd : decide ((i : Int) < long) = false := decide_eq_false (by have := HNN.out; omega)
      have HA := Lib.hid (show RdAt wr oq qq 1 long (rdN 1 ws i) 1 from by have h9 := Aq9.out; rw [show nilHow i i = 1 from if_pos rfl] at h9; exact h9)
      have HI64 := Lib.hid (show i ≤ 64 by have := HLN.out; have := HNN.out; omega)
      clear Aq9 hi hlt
      go_wp2_with fail
      have HG := RGot_done oq qq 1 long (rdN 1 ws i) wr HA.out (by rw [rdN_len]; exact HI64.out)
      rw [HLS.out] at HG
      refine HG.mono ?_; rintro e w11 ⟨Al, cl, rfl, ho, hb⟩
      clear HG
      obtain ⟨bl, curl, hA, hbase, hcur, hcells⟩ := own_open ho NL.out.1
      subst hA
      have HCl := Lib.hid hcells
      have hlt_sb : sb < bl := Nat.lt_of_lt_of_le S9.out.lt hbase
      have hlt_rr : rr < bl := Nat.lt_of_lt_of_le K9.out.row.lt hbase
      have hlt_g : g < bl := Nat.lt_of_lt_of_le K9.out.head.lt hbase
      have hlt_oq : oq < bl := Nat.lt_of_lt_of_le HA.out.lt hbase
      have hlt_qq : qq < bl := Nat.lt_of_lt_of_le HA.out.qlt hbase
      have ORD42 := Lib.hid (show sb = sb ∧ sb < rr ∧ rr + 1 = g ∧ sb < pb ∧ rr < pb ∧ g < pb ∧ sb < ow ∧ rr < ow ∧ g < ow ∧ pb < ow ∧ sb < o1 ∧ rr < o1 ∧ g < o1 ∧ pb < o1 ∧ ow < o1 ∧ sb < oq ∧ rr < oq ∧ g < oq ∧ pb < oq ∧ oq ≤ qq ∧ sb < bl ∧ rr < bl ∧ g < bl ∧ oq < bl ∧ qq < bl from by have o_ := ORD41.out; omega)
      clear ORD41
      have ee : Ex (fun _ => False) wr w11 := Ex.of_below hb
      have Aq43 := Lib.hid (HA.out.ex ee (fun h => h.elim (fun h => h) (fun h => h)))
      have K43 := Lib.hid (K9.out.ex ee (fun h => h) (fun h => h))
      have L43 := Lib.hid (L9.out.ex ee (fun k hk => hk.elim))
      have S43 := Lib.hid (S9.out.ex ee (fun h => h))
      have Rl43 := Lib.hid (hcur)
      clear ee HA K9 L9 S9 hb ho hbase hcur hcells hlt_sb hlt_rr hlt_g hlt_oq hlt_qq
      obtain ⟨n1, hn1⟩ : ∃ n1, Ls.length = n1 := ⟨_, rfl⟩
      obtain ⟨m, hm⟩ : ∃ m, n1 = m + 1 := ⟨n1 - 1, by have := NL.out.1; omega⟩
      have HN1 := Lib.hid (And.intro hn1 hm)
      have h64 := NL.out.2.1
      simp only [hn1]
      have kw : wrap64 ((n1 : Int) - 1) = (m : Int) := by unfold wrap64; omega
      have kn1 : decide ((n1 : Int) < 1) = false := decide_eq_false (by omega)
      have kn0 : (0 : Int) < (n1 : Int) := by omega
      have kn2 : (0 : Int) ≤ (m : Int) := by omega
      have kn3 : (m : Int) < (n1 : Int) := by omega
      have kn4 : ((n1 : Int) == (n1 : Int)) = true := by simp
      have eqs := run_neq_st s s
      rw [st_neq, decide_eq_false (show ¬ (s ≠ s) from fun h => h rfl), SV.out] at eqs
      have HLL := Lib.hid (show Ls.getD m St.zero = s by have := NL.out.2.2.1; rw [hn1, hm] at this; exact this)
      clear hn1 hm h64
      have rl0 : w11.cell? ⟨bl, m * 5, none⟩ = some (.int .i64 s.mode) := by
        have h9 := (HCl.out m (by have := HN1.out; omega)) 0 (by omega)
        rw [Rl43.out.cell]
        rw [HLL.out] at h9; exact h9
      have rl1 : w11.cell? ⟨bl, m * 5 + 1, none⟩ = some (.int .i64 s.source) := by
        have h9 := (HCl.out m (by have := HN1.out; omega)) 1 (by omega)
        rw [Rl43.out.cell]
        rw [HLL.out] at h9; exact h9
      have rl2 : w11.cell? ⟨bl, m * 5 + 2, none⟩ = some (.bool s.hold) := by
        have h9 := (HCl.out m (by have := HN1.out; omega)) 2 (by omega)
        rw [Rl43.out.cell]
        rw [HLL.out] at h9; exact h9
      have rl3 : w11.cell? ⟨bl, m * 5 + 3, none⟩ = some (.int .i64 s.flags) := by
        have h9 := (HCl.out m (by have := HN1.out; omega)) 3 (by omega)
        rw [Rl43.out.cell]
        rw [HLL.out] at h9; exact h9
      have rl4 : w11.cell? ⟨bl, m * 5 + 4, none⟩ = some (.int .u64 s.epoch) := by
        have h9 := (HCl.out m (by have := HN1.out; omega)) 4 (by omega)
        rw [Rl43.out.cell]
        rw [HLL.out] at h9; exact h9
      have Sq0 := S43.out.cell 0
      have Sq1 := S43.out.cell 1
      have Sq2 := S43.out.cell 2
      have Sq3 := S43.out.cell 3
      have Sq4 := S43.out.cell 4
      simp only [List.getElem?_toArray, List.getElem?_cons_succ, List.getElem?_cons_zero] at Sq0 Sq1 Sq2 Sq3 Sq4
      go_wp2_with fail
      go_quiet (fail)
      clear rl0 rl1 rl2 rl3 rl4 Sq0 Sq1 Sq2 Sq3 Sq4
      have ee : Ex (fun _ => False) w11 (w11.drewN nq) := (Ex.refl _ w11).drewN _
      have Aq44 := Lib.hid (Aq43.out.ex ee (fun h => h.elim (fun h => h) (fun h => h)))
      have K44 := Lib.hid (K43.out.ex ee (fun h => h) (fun h => h))
      have L44 := Lib.hid (L43.out.ex ee (fun k hk => hk.elim))
      have S44 := Lib.hid (S43.out.ex ee (fun h => h))
      have Rl44 := Lib.hid (Rl43.out.ex ee (fun h => h))
      clear ee Aq43 K43 L43 S43 Rl43
      generalize (w11.drewN nq) = w12 at *
      obtain ⟨s0, hs0⟩ : ∃ s0, Ls.getD 0 St.zero = s0 := ⟨_, rfl⟩
      have K99 := Lib.hid (show s0.mode ≠ 99 by rw [← hs0]; exact NL.out.2.2.2.1)
      have HS0 := Lib.hid hs0
      clear hs0
      have rl0 : w12.cell? ⟨bl, 0, none⟩ = some (.int .i64 s0.mode) := by
        have h9 := (HCl.out 0 (by have := HN1.out; omega)) 0 (by omega)
        rw [Rl44.out.cell]
        rw [Nat.zero_mul, Nat.zero_add, HS0.out] at h9; exact h9
      have zl0 := Rl44.out.frozen 0
      have rl1 : w12.cell? ⟨bl, 1, none⟩ = some (.int .i64 s0.source) := by
        have h9 := (HCl.out 0 (by have := HN1.out; omega)) 1 (by omega)
        rw [Rl44.out.cell]
        rw [Nat.zero_mul, Nat.zero_add, HS0.out] at h9; exact h9
      have zl1 := Rl44.out.frozen 1
      have rl2 : w12.cell? ⟨bl, 2, none⟩ = some (.bool s0.hold) := by
        have h9 := (HCl.out 0 (by have := HN1.out; omega)) 2 (by omega)
        rw [Rl44.out.cell]
        rw [Nat.zero_mul, Nat.zero_add, HS0.out] at h9; exact h9
      have zl2 := Rl44.out.frozen 2
      have rl3 : w12.cell? ⟨bl, 3, none⟩ = some (.int .i64 s0.flags) := by
        have h9 := (HCl.out 0 (by have := HN1.out; omega)) 3 (by omega)
        rw [Rl44.out.cell]
        rw [Nat.zero_mul, Nat.zero_add, HS0.out] at h9; exact h9
      have zl3 := Rl44.out.frozen 3
      have rl4 : w12.cell? ⟨bl, 4, none⟩ = some (.int .u64 s0.epoch) := by
        have h9 := (HCl.out 0 (by have := HN1.out; omega)) 4 (by omega)
        rw [Rl44.out.cell]
        rw [Nat.zero_mul, Nat.zero_add, HS0.out] at h9; exact h9
      have zl4 := Rl44.out.frozen 4
      go_wp2_with fail
      clear rl0 zl0 rl1 zl1 rl2 zl2 rl3 zl3 rl4 zl4
      have ee : Ex (fun k => k = bl) w12 (((((w12.setCell ⟨bl, 0, none⟩ (.int .i64 99)).setCell ⟨bl, 1, none⟩ (.int .i64 0)).setCell ⟨bl, 2, none⟩ (.bool false)).setCell ⟨bl, 3, none⟩ (.int .i64 0)).setCell ⟨bl, 4, none⟩ (.int .u64 0)) := ((((((Ex.refl (fun k => k = bl) w12).setCell (q := ⟨bl, 0, none⟩) (.inl rfl) (.int .i64 99)).setCell (q := ⟨bl, 1, none⟩) (.inl rfl) (.int .i64 0)).setCell (q := ⟨bl, 2, none⟩) (.inl rfl) (.bool false)).setCell (q := ⟨bl, 3, none⟩) (.inl rfl) (.int .i64 0)).setCell (q := ⟨bl, 4, none⟩) (.inl rfl) (.int .u64 0))
      have Aq45 := Lib.hid (Aq44.out.ex ee (by have o_ := ORD42.out; omega))
      have K45 := Lib.hid (K44.out.ex ee (by have o_ := ORD42.out; omega) (by have o_ := ORD42.out; omega))
      have L45 := Lib.hid (L44.out.ex ee (fun k hk => by have o_ := ORD42.out; have hk : k = bl := hk; omega))
      have S45 := Lib.hid (S44.out.ex ee (by have o_ := ORD42.out; omega))
      clear ee Aq44 K44 L44 S44 Rl44 HCl
      generalize (((((w12.setCell ⟨bl, 0, none⟩ (.int .i64 99)).setCell ⟨bl, 1, none⟩ (.int .i64 0)).setCell ⟨bl, 2, none⟩ (.bool false)).setCell ⟨bl, 3, none⟩ (.int .i64 0)).setCell ⟨bl, 4, none⟩ (.int .u64 0)) = w13 at *
      have HG := RGot_done oq qq 1 long (rdN 1 ws i) w13 Aq45.out (by rw [rdN_len]; exact HI64.out)
      rw [HLS.out] at HG
      refine HG.mono ?_; rintro e w14 ⟨Am, cm, rfl, ho, hb⟩
      clear HG
      obtain ⟨bm, curm, hA, hbase, hcur, hcells⟩ := own_open ho NL.out.1
      subst hA
      have HCm := Lib.hid hcells
      have hlt_sb : sb < bm := Nat.lt_of_lt_of_le S45.out.lt hbase
      have hlt_rr : rr < bm := Nat.lt_of_lt_of_le K45.out.row.lt hbase
      have hlt_g : g < bm := Nat.lt_of_lt_of_le K45.out.head.lt hbase
      have hlt_oq : oq < bm := Nat.lt_of_lt_of_le Aq45.out.lt hbase
      have hlt_qq : qq < bm := Nat.lt_of_lt_of_le Aq45.out.qlt hbase
      have ORD46 := Lib.hid (show sb = sb ∧ sb < rr ∧ rr + 1 = g ∧ sb < pb ∧ rr < pb ∧ g < pb ∧ sb < ow ∧ rr < ow ∧ g < ow ∧ pb < ow ∧ sb < o1 ∧ rr < o1 ∧ g < o1 ∧ pb < o1 ∧ ow < o1 ∧ sb < oq ∧ rr < oq ∧ g < oq ∧ pb < oq ∧ oq ≤ qq ∧ sb < bl ∧ rr < bl ∧ g < bl ∧ oq < bl ∧ qq < bl ∧ sb < bm ∧ rr < bm ∧ g < bm ∧ oq < bm ∧ qq < bm from by have o_ := ORD42.out; omega)
      clear ORD42
      have ee : Ex (fun _ => False) w13 w14 := Ex.of_below hb
      have Aq47 := Lib.hid (Aq45.out.ex ee (fun h => h.elim (fun h => h) (fun h => h)))
      have K47 := Lib.hid (K45.out.ex ee (fun h => h) (fun h => h))
      have L47 := Lib.hid (L45.out.ex ee (fun k hk => hk.elim))
      have S47 := Lib.hid (S45.out.ex ee (fun h => h))
      have Rm47 := Lib.hid (hcur)
      clear ee Aq45 K45 L45 S45 hb ho hbase hcur hcells hlt_sb hlt_rr hlt_g hlt_oq hlt_qq
      simp only [HN1.out.1]
      have rm0 : w14.cell? ⟨bm, 0, none⟩ = some (.int .i64 s0.mode) := by
        have h9 := (HCm.out 0 (by have := HN1.out; omega)) 0 (by omega)
        rw [Rm47.out.cell]
        rw [Nat.zero_mul, Nat.zero_add, HS0.out] at h9; exact h9
      have rm1 : w14.cell? ⟨bm, 1, none⟩ = some (.int .i64 s0.source) := by
        have h9 := (HCm.out 0 (by have := HN1.out; omega)) 1 (by omega)
        rw [Rm47.out.cell]
        rw [Nat.zero_mul, Nat.zero_add, HS0.out] at h9; exact h9
      have rm2 : w14.cell? ⟨bm, 2, none⟩ = some (.bool s0.hold) := by
        have h9 := (HCm.out 0 (by have := HN1.out; omega)) 2 (by omega)
        rw [Rm47.out.cell]
        rw [Nat.zero_mul, Nat.zero_add, HS0.out] at h9; exact h9
      have rm3 : w14.cell? ⟨bm, 3, none⟩ = some (.int .i64 s0.flags) := by
        have h9 := (HCm.out 0 (by have := HN1.out; omega)) 3 (by omega)
        rw [Rm47.out.cell]
        rw [Nat.zero_mul, Nat.zero_add, HS0.out] at h9; exact h9
      have rm4 : w14.cell? ⟨bm, 4, none⟩ = some (.int .u64 s0.epoch) := by
        have h9 := (HCm.out 0 (by have := HN1.out; omega)) 4 (by omega)
        rw [Rm47.out.cell]
        rw [Nat.zero_mul, Nat.zero_add, HS0.out] at h9; exact h9
      have k99 : (s0.mode != 99) = true := by simpa using K99.out
      go_wp2_with fail
      
      clear rm0 rm1 rm2 rm3 rm4
      refine (awake_any w14).mono ?_; rintro e wz ⟨rfl, hb⟩
      have ee : Ex (fun _ => False) w14 wz := Ex.of_below hb
      have Aq48 := Lib.hid (Aq47.out.ex ee (fun h => h.elim (fun h => h) (fun h => h)))
      have K48 := Lib.hid (K47.out.ex ee (fun h => h) (fun h => h))
      have L48 := Lib.hid (L47.out.ex ee (fun k hk => hk.elim))
      have S48 := Lib.hid (S47.out.ex ee (fun h => h))
      have Rm48 := Lib.hid (Rm47.out.ex ee (fun h => h))
      clear ee Aq47 K47 L47 S47 Rm47 hb
      go_wp2_with fail
      go_ret
      exact ⟨rfl, L48.out.low.mono HBS.out⟩
end Go.Proofs.Ythhellgaafbokaa.Lg
