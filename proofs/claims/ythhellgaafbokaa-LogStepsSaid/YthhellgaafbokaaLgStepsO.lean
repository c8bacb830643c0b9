/-
  Law 16: LogSteps, where there is nothing to do. Printed by wip/tools/mklst.py. Conditions stand at each. By an AI agent.
-/
import Derived.Test.YthhellgaafbokaaLgSt
import Derived.Deep.CutBlock
namespace Go.Proofs.Ythhellgaafbokaa.Lg
set_option linter.unusedVariables false
set_option linter.unusedSimpArgs false
open Go Go.RowKit Go.Proofs.Ythhellgaafbokaa.Base Go.Proofs.Ythhellgaafbokaa.Reg
open Go.Proofs.Ythhellgaafbokaa.Bank (BankAt inW wordF setF tickF errF New_in zeros zeros_len make_words Touches_any Peek_any Store_any wordF_in wordF_out setF_in setF_out tickF_in tickF_out errF_in errF_out wordF_range setF_len)
set_option maxRecDepth 100000 in
set_option maxHeartbeats 30000000 in
theorem Steps_out (v : Value) (n : Nat) (l : Nat → Tn) (at_ long : Int) (w : World) (h : Tns w v n l) (hp : ¬ HasP at_ long) : Calls Try.prog 7 #[.int .i64 at_, .int .i64 long, v] w fun e w' => e = .returned (.bool true) ∧ Below w.heap.size w w' := by
  obtain ⟨A0, c0, rfl, hn, hg⟩ := h.form
  have HOK := Lib.hid h.ok
  have HG := Lib.hid hg
  have HP := Lib.hid hp
  clear h hg hn hp
  go_enter Try.func7, Try.ntmps7
  go_upto_region 2 with fail
  have hP := Blk.new w 33 #[.int .i64 0, .int .i64 at_, .int .i64 long, .slice none 0 0, .int .i64 0]
  have hL : Lo w.heap.size w (w.alloc (.cells #[.int .i64 0, .int .i64 at_, .int .i64 long, .slice none 0 0, .int .i64 0] 33)) := ⟨(Below.refl _ w).alloc (Nat.le_refl _) _, by simp⟩
  obtain ⟨pb, hfb⟩ : ∃ pb, w.heap.size = pb := ⟨_, rfl⟩
  have HBS := Lib.hid (Nat.le_of_eq hfb)
  simp only [hfb] at hP hL ⊢
  generalize w.alloc (.cells #[.int .i64 0, .int .i64 at_, .int .i64 long, .slice none 0 0, .int .i64 0] 33) = w1 at *
  have P0 := Lib.hid hP
  have L0 := Lib.hid hL
  clear hP hL hfb
  have ORD1 := Lib.hid (show pb = pb from by rfl)
  go_upto_region 3 with fail
  have hn := Blk.new w1 58 #[.int .i64 at_, .int .i64 long]
  obtain ⟨kb, hnb⟩ : ∃ kb, w1.heap.size = kb := ⟨_, rfl⟩
  have hlt_pb : pb < kb := hnb ▸ P0.out.lt
  simp only [hnb] at hn ⊢
  have ORD2 := Lib.hid (show pb = pb ∧ pb < kb from by have o_ := ORD1.out; omega)
  clear ORD1
  have ee : Ex (fun _ => False) w1 (w1.alloc (.cells #[.int .i64 at_, .int .i64 long] 58)) := (Ex.refl _ w1).alloc (.cells #[.int .i64 at_, .int .i64 long] 58)
  have P3 := Lib.hid (P0.out.ex ee (fun h => h))
  have L3 := Lib.hid (L0.out.ex ee (fun k hk => hk.elim))
  have B3 := Lib.hid (hn)
  clear ee P0 L0 hn hnb hlt_pb
  generalize w1.alloc (.cells #[.int .i64 at_, .int .i64 long] 58) = w2a at *
  go_wp2_with fail
  refine (New_in 20 (by decide) (by decide) w2a).mono ?_; rintro e w2 ⟨rfl, hb, hl, hsz⟩
  have hb : BankAt w2 (w2a.heap.size + 1) w2a.heap.size (zeros 20) 0 := hb
  obtain ⟨rr, hrr⟩ : ∃ rr, w2a.heap.size = rr := ⟨_, rfl⟩
  have hlt_pb : pb < rr := hrr ▸ P3.out.lt
  have hlt_kb : kb < rr := hrr ▸ B3.out.lt
  simp only [hrr] at hb ⊢
  obtain ⟨g, hg⟩ : ∃ g, rr + 1 = g := ⟨_, rfl⟩
  simp only [hg] at hb ⊢
  have ORD4 := Lib.hid (show pb = pb ∧ pb < kb ∧ pb < rr ∧ kb < rr ∧ rr + 1 = g from by have o_ := ORD2.out; omega)
  clear ORD2
  have ee : Ex (fun _ => False) w2a w2 := Ex.of_below hl
  have P5 := Lib.hid (P3.out.ex ee (fun h => h))
  have L5 := Lib.hid (L3.out.ex ee (fun k hk => hk.elim))
  have B5 := Lib.hid (B3.out.ex ee (fun h => h))
  have K5 := Lib.hid (hb)
  clear ee P3 L3 B3 hb hl hsz hrr hg hlt_pb hlt_kb
  have Pq0 := P5.out.cell 0
  have Pq1 := P5.out.cell 1
  have Pq2 := P5.out.cell 2
  have Pq3 := P5.out.cell 3
  have Pq4 := P5.out.cell 4
  simp only [List.getElem?_toArray, List.getElem?_cons_succ, List.getElem?_cons_zero] at Pq0 Pq1 Pq2 Pq3 Pq4
  go_wp2_with fail
  clear Pq0 Pq1 Pq2 Pq3 Pq4
  refine (Read_out at_ long HP.out w2).mono ?_; rintro e w3 ⟨rfl, hb⟩
  have ee : Ex (fun _ => False) w2 w3 := Ex.of_below hb
  have P6 := Lib.hid (P5.out.ex ee (fun h => h))
  have L6 := Lib.hid (L5.out.ex ee (fun k hk => hk.elim))
  have B6 := Lib.hid (B5.out.ex ee (fun h => h))
  have K6 := Lib.hid (K5.out.ex ee (fun h => h) (fun h => h))
  clear ee P5 L5 B5 K5 hb
  have Bq0 := B6.out.cell 0
  have Bq1 := B6.out.cell 1
  simp only [List.getElem?_toArray, List.getElem?_cons_succ, List.getElem?_cons_zero] at Bq0 Bq1
  go_wp2_with fail
  clear Bq0 Bq1
  have HH := RHas_any at_ long w3
  rw [decide_eq_false HP.out] at HH
  refine HH.mono ?_; rintro e w4 ⟨rfl, hb⟩
  clear HH
  have ee : Ex (fun _ => False) w3 w4 := Ex.of_below hb
  have P7 := Lib.hid (P6.out.ex ee (fun h => h))
  have L7 := Lib.hid (L6.out.ex ee (fun k hk => hk.elim))
  have B7 := Lib.hid (B6.out.ex ee (fun h => h))
  have K7 := Lib.hid (K6.out.ex ee (fun h => h) (fun h => h))
  clear ee P6 L6 B6 K6 hb
  have Pq0 := P7.out.cell 0
  have Pq1 := P7.out.cell 1
  have Pq2 := P7.out.cell 2
  have Pq3 := P7.out.cell 3
  have Pq4 := P7.out.cell 4
  simp only [List.getElem?_toArray, List.getElem?_cons_succ, List.getElem?_cons_zero] at Pq0 Pq1 Pq2 Pq3 Pq4
  go_wp2_with fail
  clear Pq0 Pq1 Pq2 Pq3 Pq4
  have HW := Write_no at_ long St.zero ⟨by decide, by decide, by decide, by decide⟩ (by decide) HP.out w4
  rw [show St.zero.val = .agg #[.int .i64 0, .int .i64 0, .bool false, .int .i64 0, .int .u64 0] from rfl] at HW
  refine HW.mono ?_; rintro e w5 ⟨rfl, hb⟩
  clear HW
  have ee : Ex (fun _ => False) w4 w5 := Ex.of_below hb
  have P8 := Lib.hid (P7.out.ex ee (fun h => h))
  have L8 := Lib.hid (L7.out.ex ee (fun k hk => hk.elim))
  have B8 := Lib.hid (B7.out.ex ee (fun h => h))
  have K8 := Lib.hid (K7.out.ex ee (fun h => h) (fun h => h))
  clear ee P7 L7 B7 K7 hb
  go_wp2_with fail
  refine (awake_any w5).mono ?_; rintro e wz ⟨rfl, hb⟩
  have ee : Ex (fun _ => False) w5 wz := Ex.of_below hb
  have P9 := Lib.hid (P8.out.ex ee (fun h => h))
  have L9 := Lib.hid (L8.out.ex ee (fun k hk => hk.elim))
  have B9 := Lib.hid (B8.out.ex ee (fun h => h))
  have K9 := Lib.hid (K8.out.ex ee (fun h => h) (fun h => h))
  clear ee P8 L8 B8 K8 hb
  go_wp2_with fail
  go_ret
  exact ⟨rfl, L9.out.low.mono HBS.out⟩
set_option maxRecDepth 100000 in
set_option maxHeartbeats 30000000 in
theorem Steps_long (v : Value) (n : Nat) (l : Nat → Tn) (at_ long : Int) (w : World) (h : Tns w v n l) (hp : HasP at_ long) (h100 : ¬ n ≤ 100) : Calls Try.prog 7 #[.int .i64 at_, .int .i64 long, v] w fun e w' => e = .returned (.bool true) ∧ Below w.heap.size w w' := by
  obtain ⟨A0, c0, rfl, hn, hg⟩ := h.form
  have HOK := Lib.hid h.ok
  have HG := Lib.hid hg
  have HP := Lib.hid hp
  have kl : decide ((n : Int) > 100) = true := decide_eq_true (by omega)
  clear h hg hn hp h100
  go_enter Try.func7, Try.ntmps7
  go_upto_region 2 with fail
  have hP := Blk.new w 33 #[.int .i64 0, .int .i64 at_, .int .i64 long, .slice none 0 0, .int .i64 0]
  have hL : Lo w.heap.size w (w.alloc (.cells #[.int .i64 0, .int .i64 at_, .int .i64 long, .slice none 0 0, .int .i64 0] 33)) := ⟨(Below.refl _ w).alloc (Nat.le_refl _) _, by simp⟩
  obtain ⟨pb, hfb⟩ : ∃ pb, w.heap.size = pb := ⟨_, rfl⟩
  have HBS := Lib.hid (Nat.le_of_eq hfb)
  simp only [hfb] at hP hL ⊢
  generalize w.alloc (.cells #[.int .i64 0, .int .i64 at_, .int .i64 long, .slice none 0 0, .int .i64 0] 33) = w1 at *
  have P0 := Lib.hid hP
  have L0 := Lib.hid hL
  clear hP hL hfb
  have ORD1 := Lib.hid (show pb = pb from by rfl)
  go_upto_region 3 with fail
  have hn := Blk.new w1 58 #[.int .i64 at_, .int .i64 long]
  obtain ⟨kb, hnb⟩ : ∃ kb, w1.heap.size = kb := ⟨_, rfl⟩
  have hlt_pb : pb < kb := hnb ▸ P0.out.lt
  simp only [hnb] at hn ⊢
  have ORD2 := Lib.hid (show pb = pb ∧ pb < kb from by have o_ := ORD1.out; omega)
  clear ORD1
  have ee : Ex (fun _ => False) w1 (w1.alloc (.cells #[.int .i64 at_, .int .i64 long] 58)) := (Ex.refl _ w1).alloc (.cells #[.int .i64 at_, .int .i64 long] 58)
  have P3 := Lib.hid (P0.out.ex ee (fun h => h))
  have L3 := Lib.hid (L0.out.ex ee (fun k hk => hk.elim))
  have B3 := Lib.hid (hn)
  clear ee P0 L0 hn hnb hlt_pb
  generalize w1.alloc (.cells #[.int .i64 at_, .int .i64 long] 58) = w2a at *
  go_wp2_with fail
  refine (New_in 20 (by decide) (by decide) w2a).mono ?_; rintro e w2 ⟨rfl, hb, hl, hsz⟩
  have hb : BankAt w2 (w2a.heap.size + 1) w2a.heap.size (zeros 20) 0 := hb
  obtain ⟨rr, hrr⟩ : ∃ rr, w2a.heap.size = rr := ⟨_, rfl⟩
  have hlt_pb : pb < rr := hrr ▸ P3.out.lt
  have hlt_kb : kb < rr := hrr ▸ B3.out.lt
  simp only [hrr] at hb ⊢
  obtain ⟨g, hg⟩ : ∃ g, rr + 1 = g := ⟨_, rfl⟩
  simp only [hg] at hb ⊢
  have ORD4 := Lib.hid (show pb = pb ∧ pb < kb ∧ pb < rr ∧ kb < rr ∧ rr + 1 = g from by have o_ := ORD2.out; omega)
  clear ORD2
  have ee : Ex (fun _ => False) w2a w2 := Ex.of_below hl
  have P5 := Lib.hid (P3.out.ex ee (fun h => h))
  have L5 := Lib.hid (L3.out.ex ee (fun k hk => hk.elim))
  have B5 := Lib.hid (B3.out.ex ee (fun h => h))
  have K5 := Lib.hid (hb)
  clear ee P3 L3 B3 hb hl hsz hrr hg hlt_pb hlt_kb
  have Pq0 := P5.out.cell 0
  have Pq1 := P5.out.cell 1
  have Pq2 := P5.out.cell 2
  have Pq3 := P5.out.cell 3
  have Pq4 := P5.out.cell 4
  simp only [List.getElem?_toArray, List.getElem?_cons_succ, List.getElem?_cons_zero] at Pq0 Pq1 Pq2 Pq3 Pq4
  go_wp2_with fail
  clear Pq0 Pq1 Pq2 Pq3 Pq4
  refine (Read_in at_ long HP.out w2).mono ?_; rintro e w3 ⟨oq, rfl, ha, hs, hb⟩
  have hlt_pb : pb < oq := Nat.lt_of_lt_of_le P5.out.lt hs
  have hlt_kb : kb < oq := Nat.lt_of_lt_of_le B5.out.lt hs
  have hlt_rr : rr < oq := Nat.lt_of_lt_of_le K5.out.row.lt hs
  have hlt_g : g < oq := Nat.lt_of_lt_of_le K5.out.head.lt hs
  have ORD6 := Lib.hid (show pb = pb ∧ pb < kb ∧ pb < rr ∧ kb < rr ∧ rr + 1 = g ∧ pb < oq ∧ kb < oq ∧ rr < oq ∧ g < oq from by have o_ := ORD4.out; omega)
  clear ORD4
  have ee : Ex (fun _ => False) w2 w3 := Ex.of_below hb
  have P7 := Lib.hid (P5.out.ex ee (fun h => h))
  have L7 := Lib.hid (L5.out.ex ee (fun k hk => hk.elim))
  have B7 := Lib.hid (B5.out.ex ee (fun h => h))
  have K7 := Lib.hid (K5.out.ex ee (fun h => h) (fun h => h))
  have Aq7 := Lib.hid (ha)
  clear ee P5 L5 B5 K5 ha hs hb hlt_pb hlt_kb hlt_rr hlt_g
  have Bq0 := B7.out.cell 0
  have Bq1 := B7.out.cell 1
  simp only [List.getElem?_toArray, List.getElem?_cons_succ, List.getElem?_cons_zero] at Bq0 Bq1
  go_wp2_with fail
  clear Bq0 Bq1
  have HH := RHas_any at_ long w3
  rw [decide_eq_true HP.out] at HH
  refine HH.mono ?_; rintro e w4 ⟨rfl, hb⟩
  clear HH
  have ee : Ex (fun _ => False) w3 w4 := Ex.of_below hb
  have P8 := Lib.hid (P7.out.ex ee (fun h => h))
  have L8 := Lib.hid (L7.out.ex ee (fun k hk => hk.elim))
  have B8 := Lib.hid (B7.out.ex ee (fun h => h))
  have K8 := Lib.hid (K7.out.ex ee (fun h => h) (fun h => h))
  have Aq8 := Lib.hid (Aq7.out.ex ee (fun h => h.elim (fun h => h) (fun h => h)))
  clear ee P7 L7 B7 K7 Aq7 hb
  go_wp2_with fail
  refine (awake_any w4).mono ?_; rintro e wz ⟨rfl, hb⟩
  have ee : Ex (fun _ => False) w4 wz := Ex.of_below hb
  have P9 := Lib.hid (P8.out.ex ee (fun h => h))
  have L9 := Lib.hid (L8.out.ex ee (fun k hk => hk.elim))
  have B9 := Lib.hid (B8.out.ex ee (fun h => h))
  have K9 := Lib.hid (K8.out.ex ee (fun h => h) (fun h => h))
  have Aq9 := Lib.hid (Aq8.out.ex ee (fun h => h.elim (fun h => h) (fun h => h)))
  clear ee P8 L8 B8 K8 Aq8 hb
  go_wp2_with fail
  go_ret
  exact ⟨rfl, L9.out.low.mono HBS.out⟩
end Go.Proofs.Ythhellgaafbokaa.Lg
