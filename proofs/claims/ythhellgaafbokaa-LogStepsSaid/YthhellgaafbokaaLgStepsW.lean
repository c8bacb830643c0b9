/-
  Law 16: LogSteps' walk. Printed by wip/tools/mklst.py. Conditions stand at each. By an AI agent.
-/
import Derived.Test.YthhellgaafbokaaLgStepsO
import Derived.Deep.CutBlock
namespace Go.Proofs.Ythhellgaafbokaa.Lg
set_option linter.unusedVariables false
set_option linter.unusedSimpArgs false
open Go Go.RowKit Go.Proofs.Ythhellgaafbokaa.Base Go.Proofs.Ythhellgaafbokaa.Reg
open Go.Proofs.Ythhellgaafbokaa.Bank (BankAt inW wordF setF tickF errF New_in zeros zeros_len make_words Touches_any Peek_any Store_any wordF_in wordF_out setF_in setF_out tickF_in tickF_out errF_in errF_out wordF_range setF_len)
set_option maxRecDepth 100000 in
set_option maxHeartbeats 30000000 in
theorem Steps_in (v : Value) (n : Nat) (l : Nat → Tn) (at_ long : Int) (w : World) (h : Tns w v n l) (hp : HasP at_ long) (h100 : n ≤ 100) : Calls Try.prog 7 #[.int .i64 at_, .int .i64 long, v] w fun e w' => e = .returned (.bool true) ∧ Below w.heap.size w w' := by
  obtain ⟨A0, c0, rfl, hn, hg⟩ := h.form
  have HOK := Lib.hid h.ok
  have HG := Lib.hid hg
  have HP := Lib.hid hp
  have HC := Lib.hid h100
  have kl : decide ((n : Int) > 100) = false := decide_eq_false (by omega)
  clear h hg hn hp h100
  go_enter Try.func7, Try.ntmps7
  go_upto_region 2 with fail
  have hP := Blk.new w 33 #[.int .i64 0, .int .i64 at_, .int .i64 long, .slice none 0 0, .int .i64 0]
  have hL : Lo w.heap.size w (w.alloc (.cells #[.int .i64 0, .int .i64 at_, .int .i64 long, .slice none 0 0, .int .i64 0] 33)) := ⟨(Below.refl _ w).alloc (Nat.le_refl _) _, by simp⟩
  obtain ⟨pb, hfb⟩ : ∃ pb, w.heap.size = pb := ⟨_, rfl⟩
  have HBS := Lib.hid (Nat.le_of_eq hfb)
  simp only [hfb] at hP hL ⊢
  generalize w.alloc (.cells #[.int .i64 0, .int .i64 at_, .int .i64 long, .slice none 0 0, .int .i64 0] 33) = w1 at *
  have P0 := Lib.hid hP
  have L0 := Lib.hid hL
  clear hP hL hfb
  have ORD1 := Lib.hid (show pb = pb from by rfl)
  go_upto_region 3 with fail
  have hn := Blk.new w1 58 #[.int .i64 at_, .int .i64 long]
  obtain ⟨kb, hnb⟩ : ∃ kb, w1.heap.size = kb := ⟨_, rfl⟩
  have hlt_pb : pb < kb := hnb ▸ P0.out.lt
  simp only [hnb] at hn ⊢
  have ORD2 := Lib.hid (show pb = pb ∧ pb < kb from by have o_ := ORD1.out; omega)
  clear ORD1
  have ee : Ex (fun _ => False) w1 (w1.alloc (.cells #[.int .i64 at_, .int .i64 long] 58)) := (Ex.refl _ w1).alloc (.cells #[.int .i64 at_, .int .i64 long] 58)
  have P3 := Lib.hid (P0.out.ex ee (fun h => h))
  have L3 := Lib.hid (L0.out.ex ee (fun k hk => hk.elim))
  have B3 := Lib.hid (hn)
  clear ee P0 L0 hn hnb hlt_pb
  generalize w1.alloc (.cells #[.int .i64 at_, .int .i64 long] 58) = w2a at *
  go_wp2_with fail
  refine (New_in 20 (by decide) (by decide) w2a).mono ?_; rintro e w2 ⟨rfl, hb, hl, hsz⟩
  have hb : BankAt w2 (w2a.heap.size + 1) w2a.heap.size (zeros 20) 0 := hb
  obtain ⟨rr, hrr⟩ : ∃ rr, w2a.heap.size = rr := ⟨_, rfl⟩
  have hlt_pb : pb < rr := hrr ▸ P3.out.lt
  have hlt_kb : kb < rr := hrr ▸ B3.out.lt
  simp only [hrr] at hb ⊢
  obtain ⟨g, hg⟩ : ∃ g, rr + 1 = g := ⟨_, rfl⟩
  simp only [hg] at hb ⊢
  have ORD4 := Lib.hid (show pb = pb ∧ pb < kb ∧ pb < rr ∧ kb < rr ∧ rr + 1 = g from by have o_ := ORD2.out; omega)
  clear ORD2
  have ee : Ex (fun _ => False) w2a w2 := Ex.of_below hl
  have P5 := Lib.hid (P3.out.ex ee (fun h => h))
  have L5 := Lib.hid (L3.out.ex ee (fun k hk => hk.elim))
  have B5 := Lib.hid (B3.out.ex ee (fun h => h))
  have K5 := Lib.hid (hb)
  clear ee P3 L3 B3 hb hl hsz hrr hg hlt_pb hlt_kb
  have Pq0 := P5.out.cell 0
  have Pq1 := P5.out.cell 1
  have Pq2 := P5.out.cell 2
  have Pq3 := P5.out.cell 3
  have Pq4 := P5.out.cell 4
  simp only [List.getElem?_toArray, List.getElem?_cons_succ, List.getElem?_cons_zero] at Pq0 Pq1 Pq2 Pq3 Pq4
  go_wp2_with fail
  clear Pq0 Pq1 Pq2 Pq3 Pq4
  refine (Read_in at_ long HP.out w2).mono ?_; rintro e w3 ⟨oq, rfl, ha, hs, hb⟩
  have hlt_pb : pb < oq := Nat.lt_of_lt_of_le P5.out.lt hs
  have hlt_kb : kb < oq := Nat.lt_of_lt_of_le B5.out.lt hs
  have hlt_rr : rr < oq := Nat.lt_of_lt_of_le K5.out.row.lt hs
  have hlt_g : g < oq := Nat.lt_of_lt_of_le K5.out.head.lt hs
  have ORD6 := Lib.hid (show pb = pb ∧ pb < kb ∧ pb < rr ∧ kb < rr ∧ rr + 1 = g ∧ pb < oq ∧ kb < oq ∧ rr < oq ∧ g < oq from by have o_ := ORD4.out; omega)
  clear ORD4
  have ee : Ex (fun _ => False) w2 w3 := Ex.of_below hb
  have P7 := Lib.hid (P5.out.ex ee (fun h => h))
  have L7 := Lib.hid (L5.out.ex ee (fun k hk => hk.elim))
  have B7 := Lib.hid (B5.out.ex ee (fun h => h))
  have K7 := Lib.hid (K5.out.ex ee (fun h => h) (fun h => h))
  have Aq7 := Lib.hid (ha)
  clear ee P5 L5 B5 K5 ha hs hb hlt_pb hlt_kb hlt_rr hlt_g
  have Bq0 := B7.out.cell 0
  have Bq1 := B7.out.cell 1
  simp only [List.getElem?_toArray, List.getElem?_cons_succ, List.getElem?_cons_zero] at Bq0 Bq1
  go_wp2_with fail
  clear Bq0 Bq1
  have HH := RHas_any at_ long w3
  rw [decide_eq_true HP.out] at HH
  refine HH.mono ?_; rintro e w4 ⟨rfl, hb⟩
  clear HH
  have ee : Ex (fun _ => False) w3 w4 := Ex.of_below hb
  have P8 := Lib.hid (P7.out.ex ee (fun h => h))
  have L8 := Lib.hid (L7.out.ex ee (fun k hk => hk.elim))
  have B8 := Lib.hid (B7.out.ex ee (fun h => h))
  have K8 := Lib.hid (K7.out.ex ee (fun h => h) (fun h => h))
  have Aq8 := Lib.hid (Aq7.out.ex ee (fun h => h.elim (fun h => h) (fun h => h)))
  clear ee P7 L7 B7 K7 Aq7 hb
  have hmk : (Instr.makeSlice 41 (.int .i64 20) (.int .i64 20)).run Try.prog w4 = .ok (.slice (some ⟨w4.heap.size, 0, none⟩) 20 20) (w4.alloc (.cells ((zeros 20).map (Value.int .u64)).toArray 25)) := make_words 20 (by decide) w4
  go_upto_region 15 with fail
  clear hmk
  have hn := Blk.new w4 25 ((zeros 20).map (Value.int .u64)).toArray
  obtain ⟨wb, hnb⟩ : ∃ wb, w4.heap.size = wb := ⟨_, rfl⟩
  have hlt_pb : pb < wb := hnb ▸ P8.out.lt
  have hlt_kb : kb < wb := hnb ▸ B8.out.lt
  have hlt_rr : rr < wb := hnb ▸ K8.out.row.lt
  have hlt_g : g < wb := hnb ▸ K8.out.head.lt
  have hlt_oq : oq < wb := hnb ▸ Aq8.out.lt
  simp only [hnb] at hn ⊢
  have ORD9 := Lib.hid (show pb = pb ∧ pb < kb ∧ pb < rr ∧ kb < rr ∧ rr + 1 = g ∧ pb < oq ∧ kb < oq ∧ rr < oq ∧ g < oq ∧ pb < wb ∧ kb < wb ∧ rr < wb ∧ g < wb ∧ oq < wb from by have o_ := ORD6.out; omega)
  clear ORD6
  have ee : Ex (fun _ => False) w4 (w4.alloc (.cells ((zeros 20).map (Value.int .u64)).toArray 25)) := (Ex.refl _ w4).alloc (.cells ((zeros 20).map (Value.int .u64)).toArray 25)
  have P10 := Lib.hid (P8.out.ex ee (fun h => h))
  have L10 := Lib.hid (L8.out.ex ee (fun k hk => hk.elim))
  have B10 := Lib.hid (B8.out.ex ee (fun h => h))
  have K10 := Lib.hid (K8.out.ex ee (fun h => h) (fun h => h))
  have Aq10 := Lib.hid (Aq8.out.ex ee (fun h => h.elim (fun h => h) (fun h => h)))
  have Wd10 := Lib.hid (hn)
  clear ee P8 L8 B8 K8 Aq8 hn hnb hlt_pb hlt_kb hlt_rr hlt_g hlt_oq
  generalize w4.alloc (.cells ((zeros 20).map (Value.int .u64)).toArray 25) = w5 at *
  go_upto_region 16 with fail
  have hn := RowAt.new w5
  obtain ⟨rq, hnb⟩ : ∃ rq, w5.heap.size = rq := ⟨_, rfl⟩
  have hlt_pb : pb < rq := hnb ▸ P10.out.lt
  have hlt_kb : kb < rq := hnb ▸ B10.out.lt
  have hlt_rr : rr < rq := hnb ▸ K10.out.row.lt
  have hlt_g : g < rq := hnb ▸ K10.out.head.lt
  have hlt_oq : oq < rq := hnb ▸ Aq10.out.lt
  have hlt_wb : wb < rq := hnb ▸ Wd10.out.lt
  simp only [hnb] at hn ⊢
  have ORD11 := Lib.hid (show pb = pb ∧ pb < kb ∧ pb < rr ∧ kb < rr ∧ rr + 1 = g ∧ pb < oq ∧ kb < oq ∧ rr < oq ∧ g < oq ∧ pb < wb ∧ kb < wb ∧ rr < wb ∧ g < wb ∧ oq < wb ∧ pb < rq ∧ kb < rq ∧ rr < rq ∧ g < rq ∧ oq < rq ∧ wb < rq from by have o_ := ORD9.out; omega)
  clear ORD9
  have ee : Ex (fun _ => False) w5 (w5.alloc (.cells #[] 25)) := (Ex.refl _ w5).alloc (.cells #[] 25)
  have P12 := Lib.hid (P10.out.ex ee (fun h => h))
  have L12 := Lib.hid (L10.out.ex ee (fun k hk => hk.elim))
  have B12 := Lib.hid (B10.out.ex ee (fun h => h))
  have K12 := Lib.hid (K10.out.ex ee (fun h => h) (fun h => h))
  have Aq12 := Lib.hid (Aq10.out.ex ee (fun h => h.elim (fun h => h) (fun h => h)))
  have Wd12 := Lib.hid (Wd10.out.ex ee (fun h => h))
  have R12 := Lib.hid (hn)
  clear ee P10 L10 B10 K10 Aq10 Wd10 hn hnb hlt_pb hlt_kb hlt_rr hlt_g hlt_oq hlt_wb
  generalize w5.alloc (.cells #[] 25) = w6 at *
  go_wp2_with fail
  go_loopw [16, 17, 18, 19, 20, 21, 22, 23, 24, 25, 26, 27, 28, 29, 30, 31, 32] (fun s16 s17 s18 s19 s20 s21 s22 s23 s24 s25 s26 s27 s28 s29 s30 s31 s32 wr => ∃ (i : Nat) (rd : List Int) (nr : Nat) (A : Option Addr) (c : Nat) (hw : Int) (d : Nat), i ≤ n ∧ s19 = .int .i64 i ∧ s16 = .slice A nr c ∧ s17 = .int .i64 hw ∧ s18 = .int .i64 (d : Int) ∧ rd.length = nr ∧ d ≤ i ∧ LsI w wr pb kb g rr oq wb at_ long hw d rd (.slice A nr c)) (fun s16 s17 s18 s19 s20 s21 s22 s23 s24 s25 s26 s27 s28 s29 s30 s31 s32 _ => n - (intOf s19).toNat)
  case atStart => exact ⟨0, [], 0, _, _, 0, 0, by omega, rfl, rfl, rfl, rfl, rfl, by omega, ⟨P12.out, B12.out, L12.out, ⟨_, K12.out, zeros_len 20, Wd12.out⟩, ⟨oq, rq, RdAt.start Aq12.out, R12.out, Nat.le_refl _, by have o_ := ORD11.out; omega, by have o_ := ORD11.out; omega, by have o_ := ORD11.out; omega⟩, by have := HP.out.1; simp; omega, fun _ h => by simp at h, .inl ⟨rfl, by have := HP.out.1; simp; omega⟩⟩⟩
  case round =>
    clear P12 L12 B12 K12 Aq12 Wd12 R12
    obtain ⟨i, rd, nr, A, c, hw, d, hi, rfl, rfl, rfl, rfl, hnr, hd, hS⟩ := hrel
    obtain ⟨hP, hB, hL, ⟨ws, hK, hwl, hWd⟩, ⟨qq, rq1, hA, hR, hq1, hq2, hq3, hq4⟩, hle, hfi, hhw⟩ := hS
    have P9 := Lib.hid hP
    have B9 := Lib.hid hB
    have L9 := Lib.hid hL
    have K9 := Lib.hid hK
    have W9 := Lib.hid hWd
    have Aq9 := Lib.hid hA
    have R9 := Lib.hid hR
    have HNR := Lib.hid hnr
    have HWL := Lib.hid hwl
    have HLE := Lib.hid hle
    have HFI := Lib.hid hfi
    have HHW := Lib.hid hhw
    have HD := Lib.hid hd
    have QQ := Lib.hid (And.intro hq1 (And.intro hq2 (And.intro hq3 hq4)))
    have H64 := Lib.hid (show nr ≤ 64 by have := HP.out.1; omega)
    clear hP hB hL hK hA hR hnr hwl hle hfi hq1 hq2 hq3 hq4 hWd hhw hd
    have ORD41 := Lib.hid (show pb = pb ∧ pb < kb ∧ pb < rr ∧ kb < rr ∧ rr + 1 = g ∧ pb < oq ∧ kb < oq ∧ rr < oq ∧ g < oq ∧ pb < wb ∧ kb < wb ∧ rr < wb ∧ g < wb ∧ oq < wb ∧ pb < rq ∧ kb < rq ∧ rr < rq ∧ g < rq ∧ oq < rq ∧ wb < rq ∧ oq ≤ qq ∧ wb < rq1 ∧ rq1 ≠ qq ∧ wb ≠ qq from by have o_ := ORD11.out; have := QQ.out; omega)
    clear ORD11
    clear QQ
    by_cases hlt : i < n
    · have kd : decide ((i : Int) < (n : Int)) = true := decide_eq_true (by omega)
      have ki0 : (0 : Int) ≤ (i : Int) := by omega
      have ki1 : (i : Int) < (n : Int) := by omega
      have HI := Lib.hid hlt
      have HTN := Lib.hid (turn_num i n hlt (by have := HC.out; unfold maxLen; omega))
      obtain ⟨b, o, rfl, hb, hcell⟩ := HG.out (by omega)
      have TOK := Lib.hid (HOK.out i hlt)
      obtain ⟨tn, htn⟩ : ∃ tn, l i = tn := ⟨_, rfl⟩
      have hci := hcell i hlt
      rw [htn] at hci TOK
      have HCI := Lib.hid hci
      have HBP := Lib.hid (show b < pb from Nat.lt_of_lt_of_le hb HBS.out)
      clear hb hcell htn hci hi hlt
      have x0 := (L9.out.low.cell (p := ⟨b, o + i * 8, none⟩) HBP.out).trans HCI.out.1
      have x1 := (L9.out.low.cell (p := ⟨b, o + i * 8 + 1, none⟩) HBP.out).trans HCI.out.2.1
      have x2 := (L9.out.low.cell (p := ⟨b, o + i * 8 + 2, none⟩) HBP.out).trans HCI.out.2.2.1
      have x3 := (L9.out.low.cell (p := ⟨b, o + i * 8 + 3, none⟩) HBP.out).trans HCI.out.2.2.2.1
      have x4 := (L9.out.low.cell (p := ⟨b, o + i * 8 + 4, none⟩) HBP.out).trans HCI.out.2.2.2.2.1
      have x5 := (L9.out.low.cell (p := ⟨b, o + i * 8 + 5, none⟩) HBP.out).trans HCI.out.2.2.2.2.2.1
      have x6 := (L9.out.low.cell (p := ⟨b, o + i * 8 + 6, none⟩) HBP.out).trans HCI.out.2.2.2.2.2.2.1
      have x7 := (L9.out.low.cell (p := ⟨b, o + i * 8 + 7, none⟩) HBP.out).trans HCI.out.2.2.2.2.2.2.2
      go_upto_region 22 with fail
      clear x0 x1 x2 x3 x4 x5 x6 x7
      have hn := Blk.new wr 43 #[.int .i64 tn.act, .int .i64 tn.s.mode, .int .i64 tn.s.source, .bool tn.s.hold, .int .i64 tn.s.flags, .int .u64 tn.s.epoch, .int .i64 tn.at_, .int .u64 tn.x]
      obtain ⟨tb, hnb⟩ : ∃ tb, wr.heap.size = tb := ⟨_, rfl⟩
      have hlt_pb : pb < tb := hnb ▸ P9.out.lt
      have hlt_kb : kb < tb := hnb ▸ B9.out.lt
      have hlt_rr : rr < tb := hnb ▸ K9.out.row.lt
      have hlt_g : g < tb := hnb ▸ K9.out.head.lt
      have hlt_oq : oq < tb := hnb ▸ Aq9.out.lt
      have hlt_wb : wb < tb := hnb ▸ W9.out.lt
      have hlt_qq : qq < tb := hnb ▸ Aq9.out.qlt
      have hlt_rq1 : rq1 < tb := hnb ▸ R9.out.lt
      simp only [hnb] at hn ⊢
      have ORD42 := Lib.hid (show pb = pb ∧ pb < kb ∧ pb < rr ∧ kb < rr ∧ rr + 1 = g ∧ pb < oq ∧ kb < oq ∧ rr < oq ∧ g < oq ∧ pb < wb ∧ kb < wb ∧ rr < wb ∧ g < wb ∧ oq < wb ∧ pb < rq ∧ kb < rq ∧ rr < rq ∧ g < rq ∧ oq < rq ∧ wb < rq ∧ oq ≤ qq ∧ wb < rq1 ∧ rq1 ≠ qq ∧ wb ≠ qq ∧ pb < tb ∧ kb < tb ∧ rr < tb ∧ g < tb ∧ oq < tb ∧ wb < tb ∧ qq < tb ∧ rq1 < tb from by have o_ := ORD41.out; omega)
      clear ORD41
      have ee : Ex (fun _ => False) wr (wr.alloc (.cells #[.int .i64 tn.act, .int .i64 tn.s.mode, .int .i64 tn.s.source, .bool tn.s.hold, .int .i64 tn.s.flags, .int .u64 tn.s.epoch, .int .i64 tn.at_, .int .u64 tn.x] 43)) := (Ex.refl _ wr).alloc (.cells #[.int .i64 tn.act, .int .i64 tn.s.mode, .int .i64 tn.s.source, .bool tn.s.hold, .int .i64 tn.s.flags, .int .u64 tn.s.epoch, .int .i64 tn.at_, .int .u64 tn.x] 43)
      have P43 := Lib.hid (P9.out.ex ee (fun h => h))
      have B43 := Lib.hid (B9.out.ex ee (fun h => h))
      have L43 := Lib.hid (L9.out.ex ee (fun k hk => hk.elim))
      have K43 := Lib.hid (K9.out.ex ee (fun h => h) (fun h => h))
      have Wd43 := Lib.hid (W9.out.ex ee (fun h => h))
      have Aq43 := Lib.hid (Aq9.out.ex ee (fun h => h.elim (fun h => h) (fun h => h)))
      have R43 := Lib.hid (R9.out.ex ee (fun h => h))
      have T43 := Lib.hid (hn)
      clear ee P9 B9 L9 K9 W9 Aq9 R9 hn hnb hlt_pb hlt_kb hlt_rr hlt_g hlt_oq hlt_wb hlt_qq hlt_rq1
      generalize wr.alloc (.cells #[.int .i64 tn.act, .int .i64 tn.s.mode, .int .i64 tn.s.source, .bool tn.s.hold, .int .i64 tn.s.flags, .int .u64 tn.s.epoch, .int .i64 tn.at_, .int .u64 tn.x] 43) = w7 at *
      have Tq0 := T43.out.cell 0
      have Tq1 := T43.out.cell 1
      have Tq2 := T43.out.cell 2
      have Tq3 := T43.out.cell 3
      have Tq4 := T43.out.cell 4
      have Tq5 := T43.out.cell 5
      have Tq6 := T43.out.cell 6
      have Tq7 := T43.out.cell 7
      simp only [List.getElem?_toArray, List.getElem?_cons_succ, List.getElem?_cons_zero] at Tq0 Tq1 Tq2 Tq3 Tq4 Tq5 Tq6 Tq7
      go_upto_block 2 with fail
      go_cut [16, 17, 18, 21, 22, 23, 24, 25, 26, 27, 28, 29, 30] from 96 to 207 (fun s16 s17 s18 s21 s22 s23 s24 s25 s26 s27 s28 s29 s30 wx => ∃ (rd' : List Int) (nr' : Nat) (A' : Option Addr) (c' : Nat) (hw' : Int) (d' : Nat), s16 = .slice A' nr' c' ∧ s17 = .int .i64 hw' ∧ s18 = .int .i64 (d' : Int) ∧ rd'.length = nr' ∧ d' ≤ i + 1 ∧ LsI w wx pb kb g rr oq wb at_ long hw' d' rd' (.slice A' nr' c'))
      case first =>
        have KD := Lib.hid (show Value.int .i64 (wrap64 ((d : Int) + 1)) = .int .i64 ((d + 1 : Nat) : Int) from by rw [wrap64_in _ (by have := HD.out; have := HI.out; have := HC.out; omega)]; rfl)
        have HDT := Lib.hid (show d ≤ 100000 by have := HD.out; have := HI.out; have := HC.out; omega)
        by_cases h0 : tn.act = 0
        · have ka : (tn.act == 0) = true := by simpa using h0
          clear h0
          by_cases hw0 : hw = 0
          · subst hw0
            have HNL := Lib.hid (show (nr : Int) < long by have := HHW.out; have := HNR.out; rcases this with h | h; rcases HHW.out with h2 | h2 | h2 <;> omega)
            obtain ⟨nx, hnx⟩ : ∃ nx : Nat, at_ + (nr : Int) = nx := ⟨(at_ + (nr : Int)).toNat, by have := HP.out.2; omega⟩
            have kwa : wrap64 (at_ + (nr : Int)) = (nx : Int) := by rw [wrap64_in _ (by have := HP.out.1; have := HP.out.2; have := HNL.out; omega), hnx]
            have HNX := Lib.hid hnx
            have HA := Lib.hid (show RdAt w7 oq qq at_ long rd 0 from Aq43.out)
            have hstep := RStep_busy g rr oq qq ws d at_ long rd w7 HA.out K43.out (by have o_ := ORD42.out; omega) HP.out (by have := HNL.out; have := HNR.out; omega)
            clear hnx hstep
            by_cases hin : nx < 20
            · have kin : decide ((nx : Int) < 20) = true := decide_eq_true (by omega)
              have kb0 : (0 : Int) ≤ (nx : Int) := by omega
              have kb1 : (nx : Int) < ((20 : Nat) : Int) := by omega
              have kb2 : (nx : Int) < 20 := by omega
              have HIN := Lib.hid (show inW ws (at_ + (nr : Int)) from by rw [HNX.out]; exact ⟨by omega, by rw [HWL.out]; omega⟩)
              have hcw := wcell Wd43.out (k := nx) (by rw [HWL.out]; exact hin)
              obtain ⟨vv, hvv⟩ : ∃ vv, nth ws nx = vv := ⟨_, rfl⟩
              have HVV := Lib.hid (show wordF ws (at_ + (nr : Int)) = vv from by rw [wordF_in HIN.out, HNX.out, Int.toNat_natCast]; exact hvv)
              have HV := Lib.hid (show 0 ≤ vv ∧ vv ≤ 18446744073709551615 from by rw [← HVV.out]; exact wordF_range K43.out _)
              rw [hvv] at hcw
              clear hvv hin
              by_cases hmm : (nr : Int) + 1 < long
              · have k1 : ((nr : Int) + 1 == long) = false := by first | exact beq_eq_false_iff_ne.2 (by omega) | exact beq_iff_eq.2 (by have := HNL.out; omega)
                have k2 : (((nr + 1 : Nat) : Int) == long) = false := by first | exact beq_eq_false_iff_ne.2 (by omega) | exact beq_iff_eq.2 (by have := HNL.out; omega)
                have HMM := Lib.hid hmm
                clear hmm
                go_upto_region 43 with fail
                obtain ⟨i0, hi0, hz0, hz1, hz2⟩ := info_parts word64_info
                go_wp2_with (at_builtin; refine wpList_append_own_at _ rfl _ _ 41 rfl 0 25 i0 (.int .u64 0) 1 8 Try.underlying41 hi0 hz0 hz1 hz2 rfl (by decide) _ _ _ rfl (World.ownsRow.alloc (R43.out.rowN HNR.out) _) ⟨w7.heap.size, 0, none⟩ 1 1 [.int .u64 (vv)] rfl rfl (one_new w7 vv) (one_oc vv) (len_ok H64.out).1 (len_ok H64.out).2 (Nat.zero_le _) ?_)
                intro v' w8 hown' hgrow _ hat
                obtain ⟨A2, c2, rq2, rfl, hR, hrq, hx⟩ := row_push R43.out HNR.out.symm hown' hgrow hat
                clear hown' hgrow hat i0 hi0 hz0 hz1 hz2
                have ORD44 := Lib.hid (show pb = pb ∧ pb < kb ∧ pb < rr ∧ kb < rr ∧ rr + 1 = g ∧ pb < oq ∧ kb < oq ∧ rr < oq ∧ g < oq ∧ pb < wb ∧ kb < wb ∧ rr < wb ∧ g < wb ∧ oq < wb ∧ pb < rq ∧ kb < rq ∧ rr < rq ∧ g < rq ∧ oq < rq ∧ wb < rq ∧ oq ≤ qq ∧ wb < rq1 ∧ rq1 ≠ qq ∧ wb ≠ qq ∧ pb < tb ∧ kb < tb ∧ rr < tb ∧ g < tb ∧ oq < tb ∧ wb < tb ∧ qq < tb ∧ rq1 < tb ∧ (rq2 = rq1 ∨ (rq2 > oq ∧ rq2 ≠ qq ∧ rq2 > wb ∧ rq2 > pb)) from by have o_ := ORD42.out; have h1 := Aq43.out.lt; have h2 := Aq43.out.qlt; have h3 := Wd43.out.lt; have h4 := P43.out.lt; omega)
                clear ORD42
                have ee : Ex (fun k => k = rq1) w7 w8 := hx
                have P45 := Lib.hid (P43.out.ex ee (by have o_ := ORD44.out; omega))
                have B45 := Lib.hid (B43.out.ex ee (by have o_ := ORD44.out; omega))
                have L45 := Lib.hid (L43.out.ex ee (fun k hk => by have o_ := ORD44.out; have hk : k = rq1 := hk; omega))
                have K45 := Lib.hid (K43.out.ex ee (by have o_ := ORD44.out; omega) (by have o_ := ORD44.out; omega))
                have Wd45 := Lib.hid (Wd43.out.ex ee (by have o_ := ORD44.out; omega))
                have Aq45 := Lib.hid (Aq43.out.ex ee (by have o_ := ORD44.out; omega))
                have T45 := Lib.hid (T43.out.ex ee (by have o_ := ORD44.out; omega))
                have R45 := Lib.hid (hR)
                clear ee P43 B43 L43 K43 Wd43 Aq43 R43 T43 hR hx hrq
                clear hcw
                clear Tq0 Tq1 Tq2 Tq3 Tq4 Tq5 Tq6 Tq7
                go_wp2_with fail
                refine (RStep_busy g rr oq qq ws d at_ long rd w8 Aq45.out K45.out (by have o_ := ORD44.out; omega) HP.out (by have := HNL.out; have := HNR.out; omega)).mono ?_; rintro e w9 ⟨rfl, hb1, ⟨q1, ha, hq⟩, hx⟩
                have hlen9 : ((rd.length : Nat) : Int) = (nr : Int) := by rw [HNR.out]
                have hh : rdHow ws at_ long rd = 0 := by unfold rdHow; rw [hlen9, if_pos HIN.out, if_pos HMM.out]
                rw [show rdNext ws at_ rd = rd ++ [vv] from by unfold rdNext; rw [hlen9, if_pos HIN.out, HVV.out], hh] at ha
                rw [hh]
                rw [hlen9, tickF_in HIN.out, i64_tick HDT.out] at hb1
                clear hlen9 hh
                have ORD46 := Lib.hid (show pb = pb ∧ pb < kb ∧ pb < rr ∧ kb < rr ∧ rr + 1 = g ∧ pb < oq ∧ kb < oq ∧ rr < oq ∧ g < oq ∧ pb < wb ∧ kb < wb ∧ rr < wb ∧ g < wb ∧ oq < wb ∧ pb < rq ∧ kb < rq ∧ rr < rq ∧ g < rq ∧ oq < rq ∧ wb < rq ∧ oq ≤ qq ∧ wb < rq1 ∧ rq1 ≠ qq ∧ wb ≠ qq ∧ pb < tb ∧ kb < tb ∧ rr < tb ∧ g < tb ∧ oq < tb ∧ wb < tb ∧ qq < tb ∧ rq1 < tb ∧ (rq2 = rq1 ∨ (rq2 > oq ∧ rq2 ≠ qq ∧ rq2 > wb ∧ rq2 > pb)) ∧ (q1 = qq ∨ (q1 > oq ∧ q1 ≠ rq2 ∧ q1 > wb)) from by have o_ := ORD44.out; have h1 := Aq45.out.lt; have h2 := R45.out.lt; have h3 := Wd45.out.lt; omega)
                clear ORD44
                have ee : Ex (fun k => k = g ∨ k = rr ∨ k = oq ∨ k = qq) w8 w9 := hx.mono (fun k hk => by rcases hk with h | h | h | h <;> simp [h])
                have P47 := Lib.hid (P45.out.ex ee (by have o_ := ORD46.out; omega))
                have B47 := Lib.hid (B45.out.ex ee (by have o_ := ORD46.out; omega))
                have L47 := Lib.hid (L45.out.ex ee (fun k hk => by have o_ := ORD46.out; have hk : k = g ∨ k = rr ∨ k = oq ∨ k = qq := hk; omega))
                have Wd47 := Lib.hid (Wd45.out.ex ee (by have o_ := ORD46.out; omega))
                have R47 := Lib.hid (R45.out.ex ee (by have o_ := ORD46.out; omega))
                have T47 := Lib.hid (T45.out.ex ee (by have o_ := ORD46.out; omega))
                have K47 := Lib.hid (hb1)
                have Aq47 := Lib.hid (ha)
                clear ee P45 B45 L45 K45 Wd45 Aq45 R45 T45 hb1 ha hx hq
                have HNR2 := Lib.hid (show (rd ++ [vv]).length = nr + 1 by rw [List.length_append, HNR.out]; rfl)
                go_wp2_with fail
                go_meet
                exact ⟨rd ++ [vv], nr + 1, A2, c2, 0, d + 1, rfl, rfl, KD.out, HNR2.out, by have := HD.out; omega, ⟨P47.out, B47.out, L47.out, ⟨ws, K47.out, HWL.out, Wd47.out⟩, ⟨q1, rq2, Aq47.out, R47.out, by have o_ := ORD46.out; omega, by have o_ := ORD46.out; omega, by have o_ := ORD46.out; omega, by have o_ := ORD46.out; omega⟩, by rw [HNR2.out]; have := HNL.out; omega, fun x hx => by
                  rcases List.mem_append.1 hx with h | h
                  · exact HFI.out x h
                  · simp at h; subst h; exact HV.out, .inl ⟨rfl, by rw [HNR2.out]; have := HMM.out; omega⟩⟩⟩
              · have k1 : ((nr : Int) + 1 == long) = true := by first | exact beq_eq_false_iff_ne.2 (by omega) | exact beq_iff_eq.2 (by have := HNL.out; omega)
                have k2 : (((nr + 1 : Nat) : Int) == long) = true := by first | exact beq_eq_false_iff_ne.2 (by omega) | exact beq_iff_eq.2 (by have := HNL.out; omega)
                have HMM := Lib.hid hmm
                clear hmm
                go_upto_region 43 with fail
                obtain ⟨i0, hi0, hz0, hz1, hz2⟩ := info_parts word64_info
                go_wp2_with (at_builtin; refine wpList_append_own_at _ rfl _ _ 41 rfl 0 25 i0 (.int .u64 0) 1 8 Try.underlying41 hi0 hz0 hz1 hz2 rfl (by decide) _ _ _ rfl (World.ownsRow.alloc (R43.out.rowN HNR.out) _) ⟨w7.heap.size, 0, none⟩ 1 1 [.int .u64 (vv)] rfl rfl (one_new w7 vv) (one_oc vv) (len_ok H64.out).1 (len_ok H64.out).2 (Nat.zero_le _) ?_)
                intro v' w8 hown' hgrow _ hat
                obtain ⟨A2, c2, rq2, rfl, hR, hrq, hx⟩ := row_push R43.out HNR.out.symm hown' hgrow hat
                clear hown' hgrow hat i0 hi0 hz0 hz1 hz2
                have ORD44 := Lib.hid (show pb = pb ∧ pb < kb ∧ pb < rr ∧ kb < rr ∧ rr + 1 = g ∧ pb < oq ∧ kb < oq ∧ rr < oq ∧ g < oq ∧ pb < wb ∧ kb < wb ∧ rr < wb ∧ g < wb ∧ oq < wb ∧ pb < rq ∧ kb < rq ∧ rr < rq ∧ g < rq ∧ oq < rq ∧ wb < rq ∧ oq ≤ qq ∧ wb < rq1 ∧ rq1 ≠ qq ∧ wb ≠ qq ∧ pb < tb ∧ kb < tb ∧ rr < tb ∧ g < tb ∧ oq < tb ∧ wb < tb ∧ qq < tb ∧ rq1 < tb ∧ (rq2 = rq1 ∨ (rq2 > oq ∧ rq2 ≠ qq ∧ rq2 > wb ∧ rq2 > pb)) from by have o_ := ORD42.out; have h1 := Aq43.out.lt; have h2 := Aq43.out.qlt; have h3 := Wd43.out.lt; have h4 := P43.out.lt; omega)
                clear ORD42
                have ee : Ex (fun k => k = rq1) w7 w8 := hx
                have P45 := Lib.hid (P43.out.ex ee (by have o_ := ORD44.out; omega))
                have B45 := Lib.hid (B43.out.ex ee (by have o_ := ORD44.out; omega))
                have L45 := Lib.hid (L43.out.ex ee (fun k hk => by have o_ := ORD44.out; have hk : k = rq1 := hk; omega))
                have K45 := Lib.hid (K43.out.ex ee (by have o_ := ORD44.out; omega) (by have o_ := ORD44.out; omega))
                have Wd45 := Lib.hid (Wd43.out.ex ee (by have o_ := ORD44.out; omega))
                have Aq45 := Lib.hid (Aq43.out.ex ee (by have o_ := ORD44.out; omega))
                have T45 := Lib.hid (T43.out.ex ee (by have o_ := ORD44.out; omega))
                have R45 := Lib.hid (hR)
                clear ee P43 B43 L43 K43 Wd43 Aq43 R43 T43 hR hx hrq
                clear hcw
                clear Tq0 Tq1 Tq2 Tq3 Tq4 Tq5 Tq6 Tq7
                go_wp2_with fail
                refine (RStep_busy g rr oq qq ws d at_ long rd w8 Aq45.out K45.out (by have o_ := ORD44.out; omega) HP.out (by have := HNL.out; have := HNR.out; omega)).mono ?_; rintro e w9 ⟨rfl, hb1, ⟨q1, ha, hq⟩, hx⟩
                have hlen9 : ((rd.length : Nat) : Int) = (nr : Int) := by rw [HNR.out]
                have hh : rdHow ws at_ long rd = 1 := by unfold rdHow; rw [hlen9, if_pos HIN.out, if_neg (show ¬ (nr : Int) + 1 < long by have := HMM.out; omega)]
                rw [show rdNext ws at_ rd = rd ++ [vv] from by unfold rdNext; rw [hlen9, if_pos HIN.out, HVV.out], hh] at ha
                rw [hh]
                rw [hlen9, tickF_in HIN.out, i64_tick HDT.out] at hb1
                clear hlen9 hh
                have ORD46 := Lib.hid (show pb = pb ∧ pb < kb ∧ pb < rr ∧ kb < rr ∧ rr + 1 = g ∧ pb < oq ∧ kb < oq ∧ rr < oq ∧ g < oq ∧ pb < wb ∧ kb < wb ∧ rr < wb ∧ g < wb ∧ oq < wb ∧ pb < rq ∧ kb < rq ∧ rr < rq ∧ g < rq ∧ oq < rq ∧ wb < rq ∧ oq ≤ qq ∧ wb < rq1 ∧ rq1 ≠ qq ∧ wb ≠ qq ∧ pb < tb ∧ kb < tb ∧ rr < tb ∧ g < tb ∧ oq < tb ∧ wb < tb ∧ qq < tb ∧ rq1 < tb ∧ (rq2 = rq1 ∨ (rq2 > oq ∧ rq2 ≠ qq ∧ rq2 > wb ∧ rq2 > pb)) ∧ (q1 = qq ∨ (q1 > oq ∧ q1 ≠ rq2 ∧ q1 > wb)) from by have o_ := ORD44.out; have h1 := Aq45.out.lt; have h2 := R45.out.lt; have h3 := Wd45.out.lt; omega)
                clear ORD44
                have ee : Ex (fun k => k = g ∨ k = rr ∨ k = oq ∨ k = qq) w8 w9 := hx.mono (fun k hk => by rcases hk with h | h | h | h <;> simp [h])
                have P47 := Lib.hid (P45.out.ex ee (by have o_ := ORD46.out; omega))
                have B47 := Lib.hid (B45.out.ex ee (by have o_ := ORD46.out; omega))
                have L47 := Lib.hid (L45.out.ex ee (fun k hk => by have o_ := ORD46.out; have hk : k = g ∨ k = rr ∨ k = oq ∨ k = qq := hk; omega))
                have Wd47 := Lib.hid (Wd45.out.ex ee (by have o_ := ORD46.out; omega))
                have R47 := Lib.hid (R45.out.ex ee (by have o_ := ORD46.out; omega))
                have T47 := Lib.hid (T45.out.ex ee (by have o_ := ORD46.out; omega))
                have K47 := Lib.hid (hb1)
                have Aq47 := Lib.hid (ha)
                clear ee P45 B45 L45 K45 Wd45 Aq45 R45 T45 hb1 ha hx hq
                have HNR2 := Lib.hid (show (rd ++ [vv]).length = nr + 1 by rw [List.length_append, HNR.out]; rfl)
                go_wp2_with fail
                go_meet
                exact ⟨rd ++ [vv], nr + 1, A2, c2, 1, d + 1, rfl, rfl, KD.out, HNR2.out, by have := HD.out; omega, ⟨P47.out, B47.out, L47.out, ⟨ws, K47.out, HWL.out, Wd47.out⟩, ⟨q1, rq2, Aq47.out, R47.out, by have o_ := ORD46.out; omega, by have o_ := ORD46.out; omega, by have o_ := ORD46.out; omega, by have o_ := ORD46.out; omega⟩, by rw [HNR2.out]; have := HNL.out; omega, fun x hx => by
                  rcases List.mem_append.1 hx with h | h
                  · exact HFI.out x h
                  · simp at h; subst h; exact HV.out, .inr (.inl rfl)⟩⟩
            · have kin : decide ((nx : Int) < 20) = false := decide_eq_false (by omega)
              have HIN := Lib.hid (show ¬ inW ws (at_ + (nr : Int)) from fun h => by have := h.2; rw [HNX.out, HWL.out] at this; omega)
              clear hin
              go_wp2_with fail
              refine (RStep_busy g rr oq qq ws d at_ long rd w7 Aq43.out K43.out (by have o_ := ORD42.out; omega) HP.out (by have := HNL.out; have := HNR.out; omega)).mono ?_; rintro e w9 ⟨rfl, hb1, ⟨q1, ha, hq⟩, hx⟩
              have hlen9 : ((rd.length : Nat) : Int) = (nr : Int) := by rw [HNR.out]
              have hh : rdHow ws at_ long rd = 3 := by unfold rdHow; rw [hlen9, if_neg HIN.out]
              rw [show rdNext ws at_ rd = rd from by unfold rdNext; rw [hlen9, if_neg HIN.out], hh] at ha
              rw [hh]
              rw [hlen9, tickF_out HIN.out] at hb1
              clear hlen9 hh
              have ORD44 := Lib.hid (show pb = pb ∧ pb < kb ∧ pb < rr ∧ kb < rr ∧ rr + 1 = g ∧ pb < oq ∧ kb < oq ∧ rr < oq ∧ g < oq ∧ pb < wb ∧ kb < wb ∧ rr < wb ∧ g < wb ∧ oq < wb ∧ pb < rq ∧ kb < rq ∧ rr < rq ∧ g < rq ∧ oq < rq ∧ wb < rq ∧ oq ≤ qq ∧ wb < rq1 ∧ rq1 ≠ qq ∧ wb ≠ qq ∧ pb < tb ∧ kb < tb ∧ rr < tb ∧ g < tb ∧ oq < tb ∧ wb < tb ∧ qq < tb ∧ rq1 < tb ∧ (q1 = qq ∨ (q1 > oq ∧ q1 ≠ rq1 ∧ q1 > wb)) from by have o_ := ORD42.out; have h1 := Aq43.out.lt; have h2 := R43.out.lt; have h3 := Wd43.out.lt; omega)
              clear ORD42
              have ee : Ex (fun k => k = g ∨ k = rr ∨ k = oq ∨ k = qq) w7 w9 := hx.mono (fun k hk => by rcases hk with h | h | h | h <;> simp [h])
              have P45 := Lib.hid (P43.out.ex ee (by have o_ := ORD44.out; omega))
              have B45 := Lib.hid (B43.out.ex ee (by have o_ := ORD44.out; omega))
              have L45 := Lib.hid (L43.out.ex ee (fun k hk => by have o_ := ORD44.out; have hk : k = g ∨ k = rr ∨ k = oq ∨ k = qq := hk; omega))
              have Wd45 := Lib.hid (Wd43.out.ex ee (by have o_ := ORD44.out; omega))
              have R45 := Lib.hid (R43.out.ex ee (by have o_ := ORD44.out; omega))
              have T45 := Lib.hid (T43.out.ex ee (by have o_ := ORD44.out; omega))
              have K45 := Lib.hid (hb1)
              have Aq45 := Lib.hid (ha)
              clear ee P43 B43 L43 K43 Wd43 Aq43 R43 T43 hb1 ha hx hq
              go_wp2_with fail
              clear Tq0 Tq1 Tq2 Tq3 Tq4 Tq5 Tq6 Tq7
              go_meet
              exact ⟨rd, nr, A, c, 3, d, rfl, rfl, rfl, HNR.out, by have := HD.out; omega, ⟨P45.out, B45.out, L45.out, ⟨ws, K45.out, HWL.out, Wd45.out⟩, ⟨q1, rq1, Aq45.out, R45.out, by have o_ := ORD44.out; omega, by have o_ := ORD44.out; omega, by have o_ := ORD44.out; omega, by have o_ := ORD44.out; omega⟩, HLE.out, HFI.out, .inr (.inr rfl)⟩⟩
          · have kh0 : (hw == 0) = false := by simpa using hw0
            have kne : (hw != hw) = false := by simp
            have HW0 := Lib.hid hw0
            clear hw0
            go_wp2_with fail
            refine (RStep_done oq qq at_ long rd hw w7 Aq43.out HW0.out _).mono ?_; rintro e w_ ⟨rfl, rfl⟩
            go_wp2_with fail
            clear Tq0 Tq1 Tq2 Tq3 Tq4 Tq5 Tq6 Tq7
            go_meet
            exact ⟨rd, nr, A, c, hw, d, rfl, rfl, rfl, HNR.out, by have := HD.out; omega, ⟨P43.out, B43.out, L43.out, ⟨ws, K43.out, HWL.out, Wd43.out⟩, ⟨qq, rq1, Aq43.out, R43.out, by have o_ := ORD42.out; omega, by have o_ := ORD42.out; omega, by have o_ := ORD42.out; omega, by have o_ := ORD42.out; omega⟩, HLE.out, HFI.out, HHW.out⟩⟩
        · have ka : (tn.act == 0) = false := by simpa using h0
          clear h0
          by_cases h2 : tn.act = 2
          · have kact : (tn.act == 2) = true := by simpa using h2
            clear h2
            have hix := ix_range tn.at_ 20 (by decide)
            obtain ⟨kx, hkx⟩ : ∃ kx : Nat, (wrap64 (tn.at_.tmod 20 + 20)).tmod 20 = (kx : Int) := ⟨((wrap64 (tn.at_.tmod 20 + 20)).tmod 20).toNat, by omega⟩
            rw [hkx] at hix
            have HIX := Lib.hid (show kx < 20 by omega)
            have kb0 : (0 : Int) ≤ (kx : Int) := by omega
            have kb1 : (kx : Int) < ((20 : Nat) : Int) := by omega
            have kb2 : (kx : Int) < 20 := by omega
            clear hix
            have HIN := Lib.hid (show inW ws (kx : Int) from ⟨by omega, by rw [HWL.out]; omega⟩)
            go_wp2_with fail
            try simp only [hkx]
            refine (Store_any g rr ws d (kx : Int) tn.x w7 K43.out TOK.out.x).mono ?_; rintro e w8 ⟨rfl, hb1, hx⟩
            rw [errF_in HIN.out]
            rw [setF_in HIN.out, Int.toNat_natCast, tickF_in HIN.out, i64_tick HDT.out] at hb1
            clear Tq0 Tq1 Tq2 Tq3 Tq4 Tq5 Tq6 Tq7
            have ee : Ex (fun k => k = g ∨ k = rr) w7 w8 := Ex.of_ex2 (T := fun k => k = g ∨ k = rr) hx (.inl rfl) (.inr rfl)
            have P44 := Lib.hid (P43.out.ex ee (by have o_ := ORD42.out; omega))
            have B44 := Lib.hid (B43.out.ex ee (by have o_ := ORD42.out; omega))
            have L44 := Lib.hid (L43.out.ex ee (fun k hk => by have o_ := ORD42.out; have hk : k = g ∨ k = rr := hk; omega))
            have Wd44 := Lib.hid (Wd43.out.ex ee (by have o_ := ORD42.out; omega))
            have Aq44 := Lib.hid (Aq43.out.ex ee (by have o_ := ORD42.out; omega))
            have R44 := Lib.hid (R43.out.ex ee (by have o_ := ORD42.out; omega))
            have T44 := Lib.hid (T43.out.ex ee (by have o_ := ORD42.out; omega))
            have K44 := Lib.hid (hb1)
            clear ee P43 B43 L43 K43 Wd43 Aq43 R43 T43 hb1 hx
            have wc := wcell Wd44.out (k := kx) (by rw [HWL.out]; exact HIX.out)
            have wf := Wd44.out.frozen kx
            have Tq0 := T44.out.cell 0
            have Tq1 := T44.out.cell 1
            have Tq2 := T44.out.cell 2
            have Tq3 := T44.out.cell 3
            have Tq4 := T44.out.cell 4
            have Tq5 := T44.out.cell 5
            have Tq6 := T44.out.cell 6
            have Tq7 := T44.out.cell 7
            simp only [List.getElem?_toArray, List.getElem?_cons_succ, List.getElem?_cons_zero] at Tq0 Tq1 Tq2 Tq3 Tq4 Tq5 Tq6 Tq7
            go_wp2_with fail
            clear wc wf
            clear Tq0 Tq1 Tq2 Tq3 Tq4 Tq5 Tq6 Tq7
            have hws := Wd44.out.set_ kx (.int .u64 (tn.x))
            rw [map_set] at hws
            have ee : Ex (fun k => k = wb) w8 (w8.setCell ⟨wb, kx, none⟩ (.int .u64 (tn.x))) := ((Ex.refl (fun k => k = wb) w8).setCell (q := ⟨wb, kx, none⟩) (.inl rfl) (.int .u64 (tn.x)))
            have P45 := Lib.hid (P44.out.ex ee (by have o_ := ORD42.out; omega))
            have B45 := Lib.hid (B44.out.ex ee (by have o_ := ORD42.out; omega))
            have L45 := Lib.hid (L44.out.ex ee (fun k hk => by have o_ := ORD42.out; have hk : k = wb := hk; omega))
            have K45 := Lib.hid (K44.out.ex ee (by have o_ := ORD42.out; omega) (by have o_ := ORD42.out; omega))
            have Aq45 := Lib.hid (Aq44.out.ex ee (by have o_ := ORD42.out; omega))
            have R45 := Lib.hid (R44.out.ex ee (by have o_ := ORD42.out; omega))
            have T45 := Lib.hid (T44.out.ex ee (by have o_ := ORD42.out; omega))
            have Wd45 := Lib.hid (hws)
            clear ee P44 B44 L44 K44 Wd44 Aq44 R44 T44 hws
            generalize (w8.setCell ⟨wb, kx, none⟩ (.int .u64 (tn.x))) = w9 at *
            go_meet
            exact ⟨rd, nr, A, c, hw, d + 1, rfl, rfl, KD.out, HNR.out, by have := HD.out; omega, ⟨P45.out, B45.out, L45.out, ⟨_, K45.out, by rw [List.length_set]; exact HWL.out, Wd45.out⟩, ⟨qq, rq1, Aq45.out, R45.out, by have o_ := ORD42.out; omega, by have o_ := ORD42.out; omega, by have o_ := ORD42.out; omega, by have o_ := ORD42.out; omega⟩, HLE.out, HFI.out, HHW.out⟩⟩
          · have kact : (tn.act == 2) = false := by simpa using h2
            clear h2
            have SV := Lib.hid (show tn.s.val = .agg #[.int .i64 tn.s.mode, .int .i64 tn.s.source, .bool tn.s.hold, .int .i64 tn.s.flags, .int .u64 tn.s.epoch] from rfl)
            by_cases hmay : mayE tn.s = 0
            · have MY := Lib.hid hmay
              have krb : rightB tn.s = true := decide_eq_true hmay
              clear hmay
              have Pq0 := P43.out.cell 0
              have Pq1 := P43.out.cell 1
              have Pq2 := P43.out.cell 2
              have Pq3 := P43.out.cell 3
              have Pq4 := P43.out.cell 4
              simp only [List.getElem?_toArray, List.getElem?_cons_succ, List.getElem?_cons_zero] at Pq0 Pq1 Pq2 Pq3 Pq4
              go_wp2_with fail
              have HW := Lib.hid (Write_in at_ long tn.s TOK.out.s MY.out HP.out w7)
              rw [SV.out] at HW
              refine HW.out.mono ?_; rintro e w8 ⟨ow, rfl, ha, hs, hb⟩
              clear HW
              clear Tq0 Tq1 Tq2 Tq3 Tq4 Tq5 Tq6 Tq7 Pq0 Pq1 Pq2 Pq3 Pq4
              have hlt_pb : pb < ow := Nat.lt_of_lt_of_le P43.out.lt hs
              have hlt_kb : kb < ow := Nat.lt_of_lt_of_le B43.out.lt hs
              have hlt_rr : rr < ow := Nat.lt_of_lt_of_le K43.out.row.lt hs
              have hlt_g : g < ow := Nat.lt_of_lt_of_le K43.out.head.lt hs
              have hlt_oq : oq < ow := Nat.lt_of_lt_of_le Aq43.out.lt hs
              have hlt_wb : wb < ow := Nat.lt_of_lt_of_le Wd43.out.lt hs
              have hlt_qq : qq < ow := Nat.lt_of_lt_of_le Aq43.out.qlt hs
              have hlt_rq1 : rq1 < ow := Nat.lt_of_lt_of_le R43.out.lt hs
              have hlt_tb : tb < ow := Nat.lt_of_lt_of_le T43.out.lt hs
              have ORD44 := Lib.hid (show pb = pb ∧ pb < kb ∧ pb < rr ∧ kb < rr ∧ rr + 1 = g ∧ pb < oq ∧ kb < oq ∧ rr < oq ∧ g < oq ∧ pb < wb ∧ kb < wb ∧ rr < wb ∧ g < wb ∧ oq < wb ∧ pb < rq ∧ kb < rq ∧ rr < rq ∧ g < rq ∧ oq < rq ∧ wb < rq ∧ oq ≤ qq ∧ wb < rq1 ∧ rq1 ≠ qq ∧ wb ≠ qq ∧ pb < tb ∧ kb < tb ∧ rr < tb ∧ g < tb ∧ oq < tb ∧ wb < tb ∧ qq < tb ∧ rq1 < tb ∧ pb < ow ∧ kb < ow ∧ rr < ow ∧ g < ow ∧ oq < ow ∧ wb < ow ∧ qq < ow ∧ rq1 < ow ∧ tb < ow from by have o_ := ORD42.out; omega)
              clear ORD42
              have ee : Ex (fun _ => False) w7 w8 := Ex.of_below hb
              have P45 := Lib.hid (P43.out.ex ee (fun h => h))
              have B45 := Lib.hid (B43.out.ex ee (fun h => h))
              have L45 := Lib.hid (L43.out.ex ee (fun k hk => hk.elim))
              have K45 := Lib.hid (K43.out.ex ee (fun h => h) (fun h => h))
              have Wd45 := Lib.hid (Wd43.out.ex ee (fun h => h))
              have Aq45 := Lib.hid (Aq43.out.ex ee (fun h => h.elim (fun h => h) (fun h => h)))
              have R45 := Lib.hid (R43.out.ex ee (fun h => h))
              have T45 := Lib.hid (T43.out.ex ee (fun h => h))
              have Aw45 := Lib.hid (ha)
              clear ee P43 B43 L43 K43 Wd43 Aq43 R43 T43 ha hs hb hlt_pb hlt_kb hlt_rr hlt_g hlt_oq hlt_wb hlt_qq hlt_rq1 hlt_tb
              have Tq0 := T45.out.cell 0
              have Tq1 := T45.out.cell 1
              have Tq2 := T45.out.cell 2
              have Tq3 := T45.out.cell 3
              have Tq4 := T45.out.cell 4
              have Tq5 := T45.out.cell 5
              have Tq6 := T45.out.cell 6
              have Tq7 := T45.out.cell 7
              simp only [List.getElem?_toArray, List.getElem?_cons_succ, List.getElem?_cons_zero] at Tq0 Tq1 Tq2 Tq3 Tq4 Tq5 Tq6 Tq7
              go_wp2_with fail
              have HK := Lib.hid (Pack_ok tn.s TOK.out.s MY.out w8)
              rw [SV.out] at HK
              refine HK.out.mono ?_; rintro e w9 ⟨rfl, hb⟩
              clear HK
              clear Tq0 Tq1 Tq2 Tq3 Tq4 Tq5 Tq6 Tq7
              have ee : Ex (fun _ => False) w8 w9 := Ex.of_below hb
              have P46 := Lib.hid (P45.out.ex ee (fun h => h))
              have B46 := Lib.hid (B45.out.ex ee (fun h => h))
              have L46 := Lib.hid (L45.out.ex ee (fun k hk => hk.elim))
              have K46 := Lib.hid (K45.out.ex ee (fun h => h) (fun h => h))
              have Wd46 := Lib.hid (Wd45.out.ex ee (fun h => h))
              have Aq46 := Lib.hid (Aq45.out.ex ee (fun h => h.elim (fun h => h) (fun h => h)))
              have R46 := Lib.hid (R45.out.ex ee (fun h => h))
              have T46 := Lib.hid (T45.out.ex ee (fun h => h))
              have Aw46 := Lib.hid (Aw45.out.ex ee (fun h => h.elim (fun h => h) (fun h => h)))
              clear ee P45 B45 L45 K45 Wd45 Aq45 R45 T45 Aw45 hb
              have Tq0 := T46.out.cell 0
              have Tq1 := T46.out.cell 1
              have Tq2 := T46.out.cell 2
              have Tq3 := T46.out.cell 3
              have Tq4 := T46.out.cell 4
              have Tq5 := T46.out.cell 5
              have Tq6 := T46.out.cell 6
              have Tq7 := T46.out.cell 7
              simp only [List.getElem?_toArray, List.getElem?_cons_succ, List.getElem?_cons_zero] at Tq0 Tq1 Tq2 Tq3 Tq4 Tq5 Tq6 Tq7
              go_wp2_with fail
              have HK := Lib.hid (Right_any tn.s TOK.out.s w9)
              rw [SV.out] at HK
              rw [krb] at HK
              refine HK.out.mono ?_; rintro e w10 ⟨rfl, hb⟩
              clear HK
              clear Tq0 Tq1 Tq2 Tq3 Tq4 Tq5 Tq6 Tq7
              have ee : Ex (fun _ => False) w9 w10 := Ex.of_below hb
              have P47 := Lib.hid (P46.out.ex ee (fun h => h))
              have B47 := Lib.hid (B46.out.ex ee (fun h => h))
              have L47 := Lib.hid (L46.out.ex ee (fun k hk => hk.elim))
              have K47 := Lib.hid (K46.out.ex ee (fun h => h) (fun h => h))
              have Wd47 := Lib.hid (Wd46.out.ex ee (fun h => h))
              have Aq47 := Lib.hid (Aq46.out.ex ee (fun h => h.elim (fun h => h) (fun h => h)))
              have R47 := Lib.hid (R46.out.ex ee (fun h => h))
              have T47 := Lib.hid (T46.out.ex ee (fun h => h))
              have Aw47 := Lib.hid (Aw46.out.ex ee (fun h => h.elim (fun h => h) (fun h => h)))
              clear ee P46 B46 L46 K46 Wd46 Aq46 R46 T46 Aw46 hb
              have Tq0 := T47.out.cell 0
              have Tq1 := T47.out.cell 1
              have Tq2 := T47.out.cell 2
              have Tq3 := T47.out.cell 3
              have Tq4 := T47.out.cell 4
              have Tq5 := T47.out.cell 5
              have Tq6 := T47.out.cell 6
              have Tq7 := T47.out.cell 7
              simp only [List.getElem?_toArray, List.getElem?_cons_succ, List.getElem?_cons_zero] at Tq0 Tq1 Tq2 Tq3 Tq4 Tq5 Tq6 Tq7
              have Bq0 := B47.out.cell 0
              have Bq1 := B47.out.cell 1
              simp only [List.getElem?_toArray, List.getElem?_cons_succ, List.getElem?_cons_zero] at Bq0 Bq1
              go_wp2_with fail
              obtain ⟨en, hen⟩ : ∃ en : Nat, entF at_ long tn.s.epoch = (en : Int) := ⟨(entF at_ long tn.s.epoch).toNat, by have := (entF_range (e := tn.s.epoch) HP.out).1; have := HP.out.2; omega⟩
              have HEN := Lib.hid hen
              have HE := REntry_any at_ long tn.s.epoch w10 TOK.out.s.epoch HP.out
              rw [hen] at HE
              clear hen
              refine HE.mono ?_; rintro e w11 ⟨rfl, hb⟩
              clear HE
              clear Tq0 Tq1 Tq2 Tq3 Tq4 Tq5 Tq6 Tq7 Bq0 Bq1
              have ee : Ex (fun _ => False) w10 w11 := Ex.of_below hb
              have P48 := Lib.hid (P47.out.ex ee (fun h => h))
              have B48 := Lib.hid (B47.out.ex ee (fun h => h))
              have L48 := Lib.hid (L47.out.ex ee (fun k hk => hk.elim))
              have K48 := Lib.hid (K47.out.ex ee (fun h => h) (fun h => h))
              have Wd48 := Lib.hid (Wd47.out.ex ee (fun h => h))
              have Aq48 := Lib.hid (Aq47.out.ex ee (fun h => h.elim (fun h => h) (fun h => h)))
              have R48 := Lib.hid (R47.out.ex ee (fun h => h))
              have T48 := Lib.hid (T47.out.ex ee (fun h => h))
              have Aw48 := Lib.hid (Aw47.out.ex ee (fun h => h.elim (fun h => h) (fun h => h)))
              clear ee P47 B47 L47 K47 Wd47 Aq47 R47 T47 Aw47 hb
              by_cases hin : en < 20
              · have kin : decide ((en : Int) < 20) = true := decide_eq_true (by omega)
                have kb0 : (0 : Int) ≤ (en : Int) := by omega
                have kb1 : (en : Int) < ((20 : Nat) : Int) := by omega
                have kb2 : (en : Int) < 20 := by omega
                have HIX := Lib.hid hin
                have HIN := Lib.hid (show inW ws (entF at_ long tn.s.epoch) from by rw [HEN.out]; exact ⟨by omega, by rw [HWL.out]; omega⟩)
                clear hin
                have Tq0 := T48.out.cell 0
                have Tq1 := T48.out.cell 1
                have Tq2 := T48.out.cell 2
                have Tq3 := T48.out.cell 3
                have Tq4 := T48.out.cell 4
                have Tq5 := T48.out.cell 5
                have Tq6 := T48.out.cell 6
                have Tq7 := T48.out.cell 7
                simp only [List.getElem?_toArray, List.getElem?_cons_succ, List.getElem?_cons_zero] at Tq0 Tq1 Tq2 Tq3 Tq4 Tq5 Tq6 Tq7
                go_wp2_with fail
                have HK := Lib.hid (Word_any tn.s TOK.out.s (mayE_zero.1 MY.out).1 w11)
                rw [SV.out] at HK
                refine HK.out.mono ?_; rintro e w12 ⟨rfl, hb⟩
                clear HK
                clear Tq0 Tq1 Tq2 Tq3 Tq4 Tq5 Tq6 Tq7
                have ee : Ex (fun _ => False) w11 w12 := Ex.of_below hb
                have P49 := Lib.hid (P48.out.ex ee (fun h => h))
                have B49 := Lib.hid (B48.out.ex ee (fun h => h))
                have L49 := Lib.hid (L48.out.ex ee (fun k hk => hk.elim))
                have K49 := Lib.hid (K48.out.ex ee (fun h => h) (fun h => h))
                have Wd49 := Lib.hid (Wd48.out.ex ee (fun h => h))
                have Aq49 := Lib.hid (Aq48.out.ex ee (fun h => h.elim (fun h => h) (fun h => h)))
                have R49 := Lib.hid (R48.out.ex ee (fun h => h))
                have T49 := Lib.hid (T48.out.ex ee (fun h => h))
                have Aw49 := Lib.hid (Aw48.out.ex ee (fun h => h.elim (fun h => h) (fun h => h)))
                clear ee P48 B48 L48 K48 Wd48 Aq48 R48 T48 Aw48 hb
                have wc := wcell Wd49.out (k := en) (by rw [HWL.out]; exact HIX.out)
                have wf := Wd49.out.frozen en
                go_wp2_with fail
                clear wc wf
                have hws := Wd49.out.set_ en (.int .u64 (wordI tn.s))
                rw [map_set] at hws
                have ee : Ex (fun k => k = wb) w12 (w12.setCell ⟨wb, en, none⟩ (.int .u64 (wordI tn.s))) := ((Ex.refl (fun k => k = wb) w12).setCell (q := ⟨wb, en, none⟩) (.inl rfl) (.int .u64 (wordI tn.s)))
                have P50 := Lib.hid (P49.out.ex ee (by have o_ := ORD44.out; omega))
                have B50 := Lib.hid (B49.out.ex ee (by have o_ := ORD44.out; omega))
                have L50 := Lib.hid (L49.out.ex ee (fun k hk => by have o_ := ORD44.out; have hk : k = wb := hk; omega))
                have K50 := Lib.hid (K49.out.ex ee (by have o_ := ORD44.out; omega) (by have o_ := ORD44.out; omega))
                have Aq50 := Lib.hid (Aq49.out.ex ee (by have o_ := ORD44.out; omega))
                have R50 := Lib.hid (R49.out.ex ee (by have o_ := ORD44.out; omega))
                have T50 := Lib.hid (T49.out.ex ee (by have o_ := ORD44.out; omega))
                have Aw50 := Lib.hid (Aw49.out.ex ee (by have o_ := ORD44.out; omega))
                have Wd50 := Lib.hid (hws)
                clear ee P49 B49 L49 K49 Wd49 Aq49 R49 T49 Aw49 hws
                generalize (w12.setCell ⟨wb, en, none⟩ (.int .u64 (wordI tn.s))) = w13 at *
                refine (S_win g rr ow ow ws d at_ long 0 (wordI tn.s) tn.s [] w13 Aw50.out K50.out (by have o_ := ORD44.out; omega) TOK.out.s (wordI_range (mayE_zero.1 MY.out).1 TOK.out.s) HIN.out).mono ?_; rintro e w14 ⟨rfl, hb1, ha, hx⟩
                rw [setF_in HIN.out, tickF_in HIN.out, i64_tick HDT.out, HEN.out, Int.toNat_natCast] at hb1
                have ee : Ex (fun k => k = g ∨ k = rr ∨ k = ow) w13 w14 := hx.mono (fun k hk => by rcases hk with h | h | h | h <;> simp [h])
                have P51 := Lib.hid (P50.out.ex ee (by have o_ := ORD44.out; omega))
                have B51 := Lib.hid (B50.out.ex ee (by have o_ := ORD44.out; omega))
                have L51 := Lib.hid (L50.out.ex ee (fun k hk => by have o_ := ORD44.out; have hk : k = g ∨ k = rr ∨ k = ow := hk; omega))
                have Wd51 := Lib.hid (Wd50.out.ex ee (by have o_ := ORD44.out; omega))
                have Aq51 := Lib.hid (Aq50.out.ex ee (by have o_ := ORD44.out; omega))
                have R51 := Lib.hid (R50.out.ex ee (by have o_ := ORD44.out; omega))
                have T51 := Lib.hid (T50.out.ex ee (by have o_ := ORD44.out; omega))
                have K51 := Lib.hid (hb1)
                have Aw51 := Lib.hid (ha)
                clear ee P50 B50 L50 K50 Wd50 Aq50 R50 T50 Aw50 hb1 ha hx
                go_wp2_with fail
                refine (S_done ow ow at_ long _ _ w14 Aw51.out (show (1 : Int) ≠ 0 by decide) _).mono ?_; rintro e w_ ⟨rfl, rfl⟩
                go_wp2_with fail
                refine (G_done ow ow at_ long _ [] w14 Aw51.out rfl (by decide)).mono ?_; rintro e w15 ⟨vg, rfl, ho, hb⟩
                obtain ⟨Ag, cg, rfl⟩ := own_form ho
                clear ho
                have ee : Ex (fun _ => False) w14 w15 := Ex.of_below hb
                have P52 := Lib.hid (P51.out.ex ee (fun h => h))
                have B52 := Lib.hid (B51.out.ex ee (fun h => h))
                have L52 := Lib.hid (L51.out.ex ee (fun k hk => hk.elim))
                have K52 := Lib.hid (K51.out.ex ee (fun h => h) (fun h => h))
                have Wd52 := Lib.hid (Wd51.out.ex ee (fun h => h))
                have Aq52 := Lib.hid (Aq51.out.ex ee (fun h => h.elim (fun h => h) (fun h => h)))
                have R52 := Lib.hid (R51.out.ex ee (fun h => h))
                have T52 := Lib.hid (T51.out.ex ee (fun h => h))
                have Aw52 := Lib.hid (Aw51.out.ex ee (fun h => h.elim (fun h => h) (fun h => h)))
                clear ee P51 B51 L51 K51 Wd51 Aq51 R51 T51 Aw51 hb
                go_wp2_with fail
                go_meet
                exact ⟨rd, nr, A, c, hw, d + 1, rfl, rfl, KD.out, HNR.out, by have := HD.out; omega, ⟨P52.out, B52.out, L52.out, ⟨_, K52.out, by rw [List.length_set]; exact HWL.out, Wd52.out⟩, ⟨qq, rq1, Aq52.out, R52.out, by have o_ := ORD44.out; omega, by have o_ := ORD44.out; omega, by have o_ := ORD44.out; omega, by have o_ := ORD44.out; omega⟩, HLE.out, HFI.out, HHW.out⟩⟩
              · have kin : decide ((en : Int) < 20) = false := decide_eq_false (by omega)
                have HIN := Lib.hid (show ¬ inW ws (entF at_ long tn.s.epoch) from fun h => by have := h.2; rw [HEN.out, HWL.out] at this; omega)
                clear hin
                go_wp2_with fail
                refine (S_wout g rr ow ow ws d at_ long 0 (wordI tn.s) tn.s [] w11 Aw48.out K48.out (by have o_ := ORD44.out; omega) TOK.out.s (wordI_range (mayE_zero.1 MY.out).1 TOK.out.s) HIN.out).mono ?_; rintro e w14 ⟨rfl, hb1, ha, hx⟩
                rw [setF_out HIN.out, tickF_out HIN.out] at hb1
                have ee : Ex (fun k => k = g ∨ k = rr ∨ k = ow) w11 w14 := hx.mono (fun k hk => by rcases hk with h | h | h | h <;> simp [h])
                have P49 := Lib.hid (P48.out.ex ee (by have o_ := ORD44.out; omega))
                have B49 := Lib.hid (B48.out.ex ee (by have o_ := ORD44.out; omega))
                have L49 := Lib.hid (L48.out.ex ee (fun k hk => by have o_ := ORD44.out; have hk : k = g ∨ k = rr ∨ k = ow := hk; omega))
                have Wd49 := Lib.hid (Wd48.out.ex ee (by have o_ := ORD44.out; omega))
                have Aq49 := Lib.hid (Aq48.out.ex ee (by have o_ := ORD44.out; omega))
                have R49 := Lib.hid (R48.out.ex ee (by have o_ := ORD44.out; omega))
                have T49 := Lib.hid (T48.out.ex ee (by have o_ := ORD44.out; omega))
                have K49 := Lib.hid (hb1)
                have Aw49 := Lib.hid (ha)
                clear ee P48 B48 L48 K48 Wd48 Aq48 R48 T48 Aw48 hb1 ha hx
                go_wp2_with fail
                refine (S_done ow ow at_ long _ _ w14 Aw49.out (show (3 : Int) ≠ 0 by decide) _).mono ?_; rintro e w_ ⟨rfl, rfl⟩
                go_wp2_with fail
                refine (G_busy ow ow at_ long _ _ w14 Aw49.out (show (3 : Int) ≠ 1 by decide)).mono ?_; rintro e w_ ⟨rfl, rfl⟩
                go_wp2_with fail
                go_meet
                exact ⟨rd, nr, A, c, hw, d, rfl, rfl, rfl, HNR.out, by have := HD.out; omega, ⟨P49.out, B49.out, L49.out, ⟨ws, K49.out, HWL.out, Wd49.out⟩, ⟨qq, rq1, Aq49.out, R49.out, by have o_ := ORD44.out; omega, by have o_ := ORD44.out; omega, by have o_ := ORD44.out; omega, by have o_ := ORD44.out; omega⟩, HLE.out, HFI.out, HHW.out⟩⟩
            · have krb : rightB tn.s = false := decide_eq_false hmay
              obtain ⟨me, hme⟩ : ∃ me, mayE tn.s = me := ⟨_, rfl⟩
              have MY := Lib.hid hmay
              have HME := Lib.hid hme
              have km : (me == 0) = false := by rw [← hme]; simpa using hmay
              have km2 : (me != me) = false := by simp
              clear hmay hme
              have Pq0 := P43.out.cell 0
              have Pq1 := P43.out.cell 1
              have Pq2 := P43.out.cell 2
              have Pq3 := P43.out.cell 3
              have Pq4 := P43.out.cell 4
              simp only [List.getElem?_toArray, List.getElem?_cons_succ, List.getElem?_cons_zero] at Pq0 Pq1 Pq2 Pq3 Pq4
              go_wp2_with fail
              have HW := Lib.hid (Write_bad at_ long tn.s TOK.out.s MY.out w7)
              rw [SV.out, HME.out] at HW
              refine HW.out.mono ?_; rintro e w8 ⟨rfl, hb⟩
              clear HW
              clear Tq0 Tq1 Tq2 Tq3 Tq4 Tq5 Tq6 Tq7 Pq0 Pq1 Pq2 Pq3 Pq4
              have ee : Ex (fun _ => False) w7 w8 := Ex.of_below hb
              have P44 := Lib.hid (P43.out.ex ee (fun h => h))
              have B44 := Lib.hid (B43.out.ex ee (fun h => h))
              have L44 := Lib.hid (L43.out.ex ee (fun k hk => hk.elim))
              have K44 := Lib.hid (K43.out.ex ee (fun h => h) (fun h => h))
              have Wd44 := Lib.hid (Wd43.out.ex ee (fun h => h))
              have Aq44 := Lib.hid (Aq43.out.ex ee (fun h => h.elim (fun h => h) (fun h => h)))
              have R44 := Lib.hid (R43.out.ex ee (fun h => h))
              have T44 := Lib.hid (T43.out.ex ee (fun h => h))
              clear ee P43 B43 L43 K43 Wd43 Aq43 R43 T43 hb
              have Tq0 := T44.out.cell 0
              have Tq1 := T44.out.cell 1
              have Tq2 := T44.out.cell 2
              have Tq3 := T44.out.cell 3
              have Tq4 := T44.out.cell 4
              have Tq5 := T44.out.cell 5
              have Tq6 := T44.out.cell 6
              have Tq7 := T44.out.cell 7
              simp only [List.getElem?_toArray, List.getElem?_cons_succ, List.getElem?_cons_zero] at Tq0 Tq1 Tq2 Tq3 Tq4 Tq5 Tq6 Tq7
              go_wp2_with fail
              have HK := Lib.hid (Pack_bad tn.s TOK.out.s MY.out w8)
              rw [SV.out, HME.out] at HK
              refine HK.out.mono ?_; rintro e w9 ⟨rfl, hb⟩
              clear HK
              clear Tq0 Tq1 Tq2 Tq3 Tq4 Tq5 Tq6 Tq7
              have ee : Ex (fun _ => False) w8 w9 := Ex.of_below hb
              have P45 := Lib.hid (P44.out.ex ee (fun h => h))
              have B45 := Lib.hid (B44.out.ex ee (fun h => h))
              have L45 := Lib.hid (L44.out.ex ee (fun k hk => hk.elim))
              have K45 := Lib.hid (K44.out.ex ee (fun h => h) (fun h => h))
              have Wd45 := Lib.hid (Wd44.out.ex ee (fun h => h))
              have Aq45 := Lib.hid (Aq44.out.ex ee (fun h => h.elim (fun h => h) (fun h => h)))
              have R45 := Lib.hid (R44.out.ex ee (fun h => h))
              have T45 := Lib.hid (T44.out.ex ee (fun h => h))
              clear ee P44 B44 L44 K44 Wd44 Aq44 R44 T44 hb
              have Tq0 := T45.out.cell 0
              have Tq1 := T45.out.cell 1
              have Tq2 := T45.out.cell 2
              have Tq3 := T45.out.cell 3
              have Tq4 := T45.out.cell 4
              have Tq5 := T45.out.cell 5
              have Tq6 := T45.out.cell 6
              have Tq7 := T45.out.cell 7
              simp only [List.getElem?_toArray, List.getElem?_cons_succ, List.getElem?_cons_zero] at Tq0 Tq1 Tq2 Tq3 Tq4 Tq5 Tq6 Tq7
              go_wp2_with fail
              have HK := Lib.hid (Right_any tn.s TOK.out.s w9)
              rw [SV.out] at HK
              rw [krb] at HK
              refine HK.out.mono ?_; rintro e w10 ⟨rfl, hb⟩
              clear HK
              clear Tq0 Tq1 Tq2 Tq3 Tq4 Tq5 Tq6 Tq7
              have ee : Ex (fun _ => False) w9 w10 := Ex.of_below hb
              have P46 := Lib.hid (P45.out.ex ee (fun h => h))
              have B46 := Lib.hid (B45.out.ex ee (fun h => h))
              have L46 := Lib.hid (L45.out.ex ee (fun k hk => hk.elim))
              have K46 := Lib.hid (K45.out.ex ee (fun h => h) (fun h => h))
              have Wd46 := Lib.hid (Wd45.out.ex ee (fun h => h))
              have Aq46 := Lib.hid (Aq45.out.ex ee (fun h => h.elim (fun h => h) (fun h => h)))
              have R46 := Lib.hid (R45.out.ex ee (fun h => h))
              have T46 := Lib.hid (T45.out.ex ee (fun h => h))
              clear ee P45 B45 L45 K45 Wd45 Aq45 R45 T45 hb
              go_wp2_with fail
              go_meet
              exact ⟨rd, nr, A, c, hw, d, rfl, rfl, rfl, HNR.out, by have := HD.out; omega, ⟨P46.out, B46.out, L46.out, ⟨ws, K46.out, HWL.out, Wd46.out⟩, ⟨qq, rq1, Aq46.out, R46.out, by have o_ := ORD42.out; omega, by have o_ := ORD42.out; omega, by have o_ := ORD42.out; omega, by have o_ := ORD42.out; omega⟩, HLE.out, HFI.out, HHW.out⟩⟩
      case rest =>
        clear P43 B43 L43 K43 Wd43 Aq43 R43 T43 HNR HWL HLE HFI HHW HD H64
        obtain ⟨rd2, nr2, A2, c2, hw2, d2, rfl, rfl, rfl, hnr, hd, hS⟩ := hcut
        obtain ⟨hP, hB, hL, ⟨ws2, hK, hwl, hWd⟩, ⟨qq2, rq2, hA, hR, hq1, hq2, hq3, hq4⟩, hle, hfi, hhw⟩ := hS
        have P9 := Lib.hid hP
        have B9 := Lib.hid hB
        have L9 := Lib.hid hL
        have K9 := Lib.hid hK
        have W9 := Lib.hid hWd
        have Aq9 := Lib.hid hA
        have R9 := Lib.hid hR
        have HNR := Lib.hid hnr
        have HWL := Lib.hid hwl
        have HLE := Lib.hid hle
        have HFI := Lib.hid hfi
        have HHW := Lib.hid hhw
        have HD := Lib.hid hd
        have QQ := Lib.hid (And.intro hq1 (And.intro hq2 (And.intro hq3 hq4)))
        have H64 := Lib.hid (show nr2 ≤ 64 by have := HP.out.1; omega)
        have kdd : ((d2 : Int) != (d2 : Int)) = false := by simp
        clear hP hB hL hK hA hR hnr hwl hle hfi hq1 hq2 hq3 hq4 hWd hhw hd
        have ORD301 := Lib.hid (show pb = pb ∧ pb < kb ∧ pb < rr ∧ kb < rr ∧ rr + 1 = g ∧ pb < oq ∧ kb < oq ∧ rr < oq ∧ g < oq ∧ pb < wb ∧ kb < wb ∧ rr < wb ∧ g < wb ∧ oq < wb ∧ pb < rq ∧ kb < rq ∧ rr < rq ∧ g < rq ∧ oq < rq ∧ wb < rq ∧ oq ≤ qq ∧ wb < rq1 ∧ rq1 ≠ qq ∧ wb ≠ qq ∧ pb < tb ∧ kb < tb ∧ rr < tb ∧ g < tb ∧ oq < tb ∧ wb < tb ∧ qq < tb ∧ rq1 < tb ∧ oq ≤ qq2 ∧ wb < rq2 ∧ rq2 ≠ qq2 ∧ wb ≠ qq2 from by have o_ := ORD42.out; have := QQ.out; omega)
        clear ORD42
        clear QQ
        by_cases hw1 : hw2 = 1
        · as_aux_lemma =>
            subst hw1
            obtain ⟨Ls, hLs⟩ : ∃ Ls, sortS (keepL at_ long 0 rd2) = Ls := ⟨_, rfl⟩
            have HOKL := Lib.hid (show ∀ s ∈ Ls, s.Ok from by rw [← hLs]; exact heldL_ok (how := 1) HFI.out)
            have HLL := Lib.hid (show Ls.length ≤ 64 from by rw [← hLs]; have := heldL_len (log := at_) (long := long) (how := 1) (rd := rd2); have h2 := H64.out; have h3 := HNR.out; exact Nat.le_trans this (by omega))
            have HLS := Lib.hid hLs
            clear hLs
            go_wp2_with fail
            have HGT := RGot_done oq qq2 at_ long rd2 wc Aq9.out (by have := H64.out; have := HNR.out; omega)
            rw [HLS.out] at HGT
            refine HGT.mono ?_; rintro e w20 ⟨Ax, cx, rfl, ho, hb⟩
            clear HGT
            have hsx := sts_of_own ho (by have := HLL.out; unfold maxLen; omega) HOKL.out
            obtain ⟨f, hf⟩ : ∃ f : Nat → St, (fun i => Ls.getD i St.zero) = f := ⟨_, rfl⟩
            obtain ⟨n1, hn1⟩ : ∃ n1, Ls.length = n1 := ⟨_, rfl⟩
            rw [hf] at hsx
            simp only [hn1] at hsx ⊢
            have HSx := Lib.hid hsx
            have HF := Lib.hid hf
            have HN1 := Lib.hid hn1
            clear ho hsx hf hn1
            have ee : Ex (fun _ => False) wc w20 := Ex.of_below hb
            have P302 := Lib.hid (P9.out.ex ee (fun h => h))
            have B302 := Lib.hid (B9.out.ex ee (fun h => h))
            have L302 := Lib.hid (L9.out.ex ee (fun k hk => hk.elim))
            have K302 := Lib.hid (K9.out.ex ee (fun h => h) (fun h => h))
            have Wd302 := Lib.hid (W9.out.ex ee (fun h => h))
            have Aq302 := Lib.hid (Aq9.out.ex ee (fun h => h.elim (fun h => h) (fun h => h)))
            have R302 := Lib.hid (R9.out.ex ee (fun h => h))
            clear ee P9 B9 L9 K9 W9 Aq9 R9 hb
            have Bq0 := B302.out.cell 0
            have Bq1 := B302.out.cell 1
            simp only [List.getElem?_toArray, List.getElem?_cons_succ, List.getElem?_cons_zero] at Bq0 Bq1
            go_wp2_with fail
            clear Bq0 Bq1
            have HTD := Told_any at_ long HP.out A2 nr2 c2 rq2 rd2 w20 R302.out HNR.out H64.out HFI.out
            rw [HLS.out] at HTD
            refine HTD.mono ?_; rintro e w21 ⟨rt, ct, nt, rfl, hnt, ⟨hrt, _⟩, hb⟩
            clear HTD
            have hnn : nt = n1 := hnt.symm.trans HN1.out
            subst hnn
            have hst := hrt.sts hnt (by have := HLL.out; unfold maxLen; omega) HOKL.out
            rw [HF.out] at hst
            have HST := Lib.hid hst
            have HSx2 := Lib.hid (HSx.out.below hb)
            clear hrt HSx hst
            have ee : Ex (fun _ => False) w20 w21 := Ex.of_below hb
            have P303 := Lib.hid (P302.out.ex ee (fun h => h))
            have B303 := Lib.hid (B302.out.ex ee (fun h => h))
            have L303 := Lib.hid (L302.out.ex ee (fun k hk => hk.elim))
            have K303 := Lib.hid (K302.out.ex ee (fun h => h) (fun h => h))
            have Wd303 := Lib.hid (Wd302.out.ex ee (fun h => h))
            have Aq303 := Lib.hid (Aq302.out.ex ee (fun h => h.elim (fun h => h) (fun h => h)))
            have R303 := Lib.hid (R302.out.ex ee (fun h => h))
            clear ee P302 B302 L302 K302 Wd302 Aq302 R302 hb
            go_wp2_with fail
            have hsm := same_any _ _ nt nt f f w21 HSx2.out HST.out
            rw [decide_eq_true (show SameF nt nt f f from ⟨rfl, fun _ _ => rfl⟩)] at hsm
            refine hsm.mono ?_; rintro e w22 ⟨rfl, hb⟩
            clear hsm HSx2 HST hnt
            have ee : Ex (fun _ => False) w21 w22 := Ex.of_below hb
            have P304 := Lib.hid (P303.out.ex ee (fun h => h))
            have B304 := Lib.hid (B303.out.ex ee (fun h => h))
            have L304 := Lib.hid (L303.out.ex ee (fun k hk => hk.elim))
            have K304 := Lib.hid (K303.out.ex ee (fun h => h) (fun h => h))
            have Wd304 := Lib.hid (Wd303.out.ex ee (fun h => h))
            have Aq304 := Lib.hid (Aq303.out.ex ee (fun h => h.elim (fun h => h) (fun h => h)))
            have R304 := Lib.hid (R303.out.ex ee (fun h => h))
            clear ee P303 B303 L303 K303 Wd303 Aq303 R303 hb
            go_wp2_with fail
            refine (Touches_any g rr ws2 _ w22 K304.out).mono ?_; rintro e w_ ⟨rfl, rfl⟩
            go_wp2_with fail
            go_loopw [32] (fun s32 wr2 => ∃ k : Nat, k ≤ 20 ∧ s32 = .int .i64 k ∧ Below w22.heap.size w22 wr2) (fun s32 _ => 20 - (intOf s32).toNat)
            case atStart => exact ⟨0, by omega, rfl, Below.refl _ _⟩
            case round =>
              obtain ⟨k, hk, rfl, hbl⟩ := hrel
              have B2 := Lib.hid hbl
              clear hbl
              by_cases hkl : k < 20
              · have kd2 : decide ((k : Int) < 20) = true := decide_eq_true (by omega)
                have kk0 : (0 : Int) ≤ (k : Int) := by omega
                have kk1 : (k : Int) < ((20 : Nat) : Int) := by omega
                have kk2 : (k : Int) < 20 := by omega
                have HK := Lib.hid hkl
                have HTK := Lib.hid (turn20 hkl)
                have hcw := wcell Wd304.out (k := k) (by rw [HWL.out]; exact hkl)
                have hwf : wordF ws2 (k : Int) = nth ws2 k := by rw [wordF_in ⟨by omega, by rw [HWL.out]; omega⟩, Int.toNat_natCast]
                obtain ⟨vv, hvv⟩ : ∃ vv, nth ws2 k = vv := ⟨_, rfl⟩
                rw [hvv] at hcw hwf
                have HCW := Lib.hid hcw
                have HWF := Lib.hid hwf
                have kvv : (vv != vv) = false := by simp
                clear hcw hwf hvv hk hkl
                go_upto_region 62 with fail
                have hne : Nonempty (Held (Below wr.heap.size wr)) := ⟨⟨wr, Below.refl _ _⟩⟩
                have pw : ∀ y : Held (Below wr.heap.size wr), y.w.cell? ⟨wb, k, none⟩ = some (.int .u64 vv) := fun y => ((bl B2.out y.ok).cell (p := ⟨wb, k, none⟩) Wd304.out.lt).trans HCW.out
                refine drawn_bars (S := Below wr.heap.size wr) [([0, 1, 3, 4, 5, 6], 2)] [7] (by kernel_rfl) (by kernel_rfl) (by kernel_rfl) rfl (Below.refl _ _).drew ?_
                refine Phased.go ?_
                simp only [pick, List.map_cons, List.map_nil, List.getElem?_cons_zero, List.getElem?_cons_succ, Option.getD_some]
                repeat (go_big_quiet_step (fail))
                refine wpQuiet_nil ?_
                go_wp2_with fail
                refine (Peek_any g rr ws2 _ (k : Int) wr.drew (K304.out.ex (T := fun _ => False) (Ex.of_below (bl B2.out (Below.refl wr.heap.size wr).drew)) (fun h => h) (fun h => h))).mono ?_; rintro e w31 ⟨rfl, hb⟩
                rw [HWF.out]
                have hb2 := bl (Below.refl wr.heap.size wr).drew hb
                go_wp2_with fail
                refine behind_normal ⟨_, fun W h => h, hb2, ?_⟩
                refine Phased.end_ ?_
                clear hne pw hb
                have hne5 : Nonempty (Held (fun W => W = w31)) := ⟨⟨_, rfl⟩⟩
                simp only [pick, List.map_cons, List.map_nil, List.getElem?_cons_zero, List.getElem?_cons_succ, Option.getD_some]
                repeat (go_big_quiet_step (fail))
                refine wpQuiet_nil ?_
                go_wp2_with fail
                go_roundw
                case rel => exact ⟨k + 1, HK.out, rfl, bl B2.out hb2⟩
                case measure => exact HTK.out
              · obtain rfl : k = 20 := by omega
                have kd2 : decide (((20 : Nat) : Int) < 20) = false := by decide
                have kd3 : decide ((20 : Int) < 20) = false := by decide
                clear hk hkl
                have ee : Ex (fun _ => False) _ wr := Ex.of_below B2.out
                have P401 := Lib.hid (P304.out.ex ee (fun h => h))
                have B401 := Lib.hid (B304.out.ex ee (fun h => h))
                have L401 := Lib.hid (L304.out.ex ee (fun k hk => hk.elim))
                have K401 := Lib.hid (K304.out.ex ee (fun h => h) (fun h => h))
                have Wd401 := Lib.hid (Wd304.out.ex ee (fun h => h))
                have Aq401 := Lib.hid (Aq304.out.ex ee (fun h => h.elim (fun h => h) (fun h => h)))
                have R401 := Lib.hid (R304.out.ex ee (fun h => h))
                clear ee P304 B304 L304 K304 Wd304 Aq304 R304
                go_wp2_with fail
                go_roundw
                case rel => exact ⟨i + 1, rd2, nr2, A2, c2, 1, d2, HI.out, HTN.out.1, rfl, rfl, rfl, HNR.out, HD.out, ⟨P401.out, B401.out, L401.out, ⟨ws2, K401.out, HWL.out, Wd401.out⟩, ⟨qq2, rq2, Aq401.out, R401.out, by have o_ := ORD301.out; omega, by have o_ := ORD301.out; omega, by have o_ := ORD301.out; omega, by have o_ := ORD301.out; omega⟩, HLE.out, HFI.out, .inr (.inl rfl)⟩⟩
                case measure => exact HTN.out.2
        · as_aux_lemma =>
            have kh1 : (hw2 != 1) = true := by simpa using hw1
            have kh2 : (hw2 == 1) = false := by simpa using hw1
            have HW1 := Lib.hid hw1
            clear hw1
            go_wp2_with fail
            refine (RGot_busy oq qq2 at_ long rd2 hw2 wc Aq9.out HW1.out).mono ?_; rintro e w_ ⟨rfl, rfl⟩
            go_wp2_with fail
            refine (Touches_any g rr ws2 _ wc K9.out).mono ?_; rintro e w_ ⟨rfl, rfl⟩
            go_wp2_with fail
            go_loopw [32] (fun s32 wr2 => ∃ k : Nat, k ≤ 20 ∧ s32 = .int .i64 k ∧ Below wc.heap.size wc wr2) (fun s32 _ => 20 - (intOf s32).toNat)
            case atStart => exact ⟨0, by omega, rfl, Below.refl _ _⟩
            case round =>
              obtain ⟨k, hk, rfl, hbl⟩ := hrel
              have B2 := Lib.hid hbl
              clear hbl
              by_cases hkl : k < 20
              · have kd2 : decide ((k : Int) < 20) = true := decide_eq_true (by omega)
                have kk0 : (0 : Int) ≤ (k : Int) := by omega
                have kk1 : (k : Int) < ((20 : Nat) : Int) := by omega
                have kk2 : (k : Int) < 20 := by omega
                have HK := Lib.hid hkl
                have HTK := Lib.hid (turn20 hkl)
                have hcw := wcell W9.out (k := k) (by rw [HWL.out]; exact hkl)
                have hwf : wordF ws2 (k : Int) = nth ws2 k := by rw [wordF_in ⟨by omega, by rw [HWL.out]; omega⟩, Int.toNat_natCast]
                obtain ⟨vv, hvv⟩ : ∃ vv, nth ws2 k = vv := ⟨_, rfl⟩
                rw [hvv] at hcw hwf
                have HCW := Lib.hid hcw
                have HWF := Lib.hid hwf
                have kvv : (vv != vv) = false := by simp
                clear hcw hwf hvv hk hkl
                go_upto_region 62 with fail
                have hne : Nonempty (Held (Below wr.heap.size wr)) := ⟨⟨wr, Below.refl _ _⟩⟩
                have pw : ∀ y : Held (Below wr.heap.size wr), y.w.cell? ⟨wb, k, none⟩ = some (.int .u64 vv) := fun y => ((bl B2.out y.ok).cell (p := ⟨wb, k, none⟩) W9.out.lt).trans HCW.out
                refine drawn_bars (S := Below wr.heap.size wr) [([0, 1, 3, 4, 5, 6], 2)] [7] (by kernel_rfl) (by kernel_rfl) (by kernel_rfl) rfl (Below.refl _ _).drew ?_
                refine Phased.go ?_
                simp only [pick, List.map_cons, List.map_nil, List.getElem?_cons_zero, List.getElem?_cons_succ, Option.getD_some]
                repeat (go_big_quiet_step (fail))
                refine wpQuiet_nil ?_
                go_wp2_with fail
                refine (Peek_any g rr ws2 _ (k : Int) wr.drew (K9.out.ex (T := fun _ => False) (Ex.of_below (bl B2.out (Below.refl wr.heap.size wr).drew)) (fun h => h) (fun h => h))).mono ?_; rintro e w31 ⟨rfl, hb⟩
                rw [HWF.out]
                have hb2 := bl (Below.refl wr.heap.size wr).drew hb
                go_wp2_with fail
                refine behind_normal ⟨_, fun W h => h, hb2, ?_⟩
                refine Phased.end_ ?_
                clear hne pw hb
                have hne5 : Nonempty (Held (fun W => W = w31)) := ⟨⟨_, rfl⟩⟩
                simp only [pick, List.map_cons, List.map_nil, List.getElem?_cons_zero, List.getElem?_cons_succ, Option.getD_some]
                repeat (go_big_quiet_step (fail))
                refine wpQuiet_nil ?_
                go_wp2_with fail
                go_roundw
                case rel => exact ⟨k + 1, HK.out, rfl, bl B2.out hb2⟩
                case measure => exact HTK.out
              · obtain rfl : k = 20 := by omega
                have kd2 : decide (((20 : Nat) : Int) < 20) = false := by decide
                have kd3 : decide ((20 : Int) < 20) = false := by decide
                clear hk hkl
                have ee : Ex (fun _ => False) _ wr := Ex.of_below B2.out
                have P401 := Lib.hid (P9.out.ex ee (fun h => h))
                have B401 := Lib.hid (B9.out.ex ee (fun h => h))
                have L401 := Lib.hid (L9.out.ex ee (fun k hk => hk.elim))
                have K401 := Lib.hid (K9.out.ex ee (fun h => h) (fun h => h))
                have Wd401 := Lib.hid (W9.out.ex ee (fun h => h))
                have Aq401 := Lib.hid (Aq9.out.ex ee (fun h => h.elim (fun h => h) (fun h => h)))
                have R401 := Lib.hid (R9.out.ex ee (fun h => h))
                clear ee P9 B9 L9 K9 W9 Aq9 R9
                go_wp2_with fail
                go_roundw
                case rel => exact ⟨i + 1, rd2, nr2, A2, c2, hw2, d2, HI.out, HTN.out.1, rfl, rfl, rfl, HNR.out, HD.out, ⟨P401.out, B401.out, L401.out, ⟨ws2, K401.out, HWL.out, Wd401.out⟩, ⟨qq2, rq2, Aq401.out, R401.out, by have o_ := ORD301.out; omega, by have o_ := ORD301.out; omega, by have o_ := ORD301.out; omega, by have o_ := ORD301.out; omega⟩, HLE.out, HFI.out, HHW.out⟩⟩
                case measure => exact HTN.out.2
    · obtain rfl : i = n := by omega
      have kd : decide ((i : Int) < (i : Int)) = false := decide_eq_false (by omega)
      go_wp2_with fail
      refine (awake_any wr).mono ?_; rintro e wz ⟨rfl, hb⟩
      have ee : Ex (fun _ => False) wr wz := Ex.of_below hb
      have P42 := Lib.hid (P9.out.ex ee (fun h => h))
      have B42 := Lib.hid (B9.out.ex ee (fun h => h))
      have L42 := Lib.hid (L9.out.ex ee (fun k hk => hk.elim))
      have K42 := Lib.hid (K9.out.ex ee (fun h => h) (fun h => h))
      have Wd42 := Lib.hid (W9.out.ex ee (fun h => h))
      have Aq42 := Lib.hid (Aq9.out.ex ee (fun h => h.elim (fun h => h) (fun h => h)))
      have R42 := Lib.hid (R9.out.ex ee (fun h => h))
      clear ee P9 B9 L9 K9 W9 Aq9 R9 hb
      go_wp2_with fail
      go_ret
      exact ⟨rfl, L42.out.low.mono HBS.out⟩
end Go.Proofs.Ythhellgaafbokaa.Lg
