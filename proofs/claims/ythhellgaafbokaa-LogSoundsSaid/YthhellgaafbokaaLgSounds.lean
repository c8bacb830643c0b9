/-
  Law 16: LogSounds' walk. Printed by wip/tools/mklgu.py. Conditions stand at each. By an AI agent.
-/
import Derived.Test.YthhellgaafbokaaLgI
namespace Go.Proofs.Ythhellgaafbokaa.Lg
set_option linter.unusedVariables false
set_option linter.unusedSimpArgs false
open Go Go.RowKit Go.Proofs.Ythhellgaafbokaa.Base Go.Proofs.Ythhellgaafbokaa.Reg
open Go.Proofs.Ythhellgaafbokaa.Bank (BankAt inW wordF setF tickF errF New_in zeros zeros_len Touches_any Peek_any Store_any wordF_in wordF_out setF_in setF_out wordF_range setF_len)
theorem RowAt.rowN {w : World} {r n c : Nat} {A : Option Addr} {xs : List Int} (h : RowAt w r (.slice A n c) xs) (hn : xs.length = n) : w.ownsRow 0 25 1 (.slice A n c) n (xs.map (Value.int .u64)) := by
  subst hn; exact h.row
set_option maxRecDepth 100000 in
set_option maxHeartbeats 8000000 in
theorem Sounds_in (v : Value) (n : Nat) (l : Nat → Tn) (at_ long : Int) (w : World) (h : Tns w v n l) (hc : 0 ≤ at_ ∧ at_ ≤ 16 ∧ 1 ≤ long ∧ long ≤ 64 ∧ n ≤ 200) : Calls Try.prog 5 #[.int .i64 at_, .int .i64 long, v] w fun e w' => e = .returned (.bool true) ∧ Below w.heap.size w w' := by
  obtain ⟨A0, c0, rfl, hn, hg⟩ := h.form
  have HOK := Lib.hid h.ok
  have HG := Lib.hid hg
  have HC := Lib.hid hc
  have kl0 : decide (at_ < 0) = false := decide_eq_false (by omega)
  have kl1 : decide (at_ > 16) = false := decide_eq_false (by omega)
  have kl2 : decide (long < 1) = false := decide_eq_false (by omega)
  have kl3 : decide (long > 64) = false := decide_eq_false (by omega)
  have kl4 : decide ((n : Int) > 200) = false := decide_eq_false (by omega)
  have HP := Lib.hid (show HasP at_ long from ⟨by omega, by omega⟩)
  clear h hg hn hc
  go_enter Try.func5, Try.ntmps5
  go_wp2_with fail
  have hP := Blk.new w 33 #[.int .i64 0, .int .i64 at_, .int .i64 long, .slice none 0 0, .int .i64 0]
  have hL : Lo w.heap.size w (w.alloc (.cells #[.int .i64 0, .int .i64 at_, .int .i64 long, .slice none 0 0, .int .i64 0] 33)) := ⟨(Below.refl _ w).alloc (Nat.le_refl _) _, by simp⟩
  obtain ⟨pb, hfb⟩ : ∃ pb, w.heap.size = pb := ⟨_, rfl⟩
  have HBS := Lib.hid (Nat.le_of_eq hfb)
  simp only [hfb] at hP hL ⊢
  generalize w.alloc (.cells #[.int .i64 0, .int .i64 at_, .int .i64 long, .slice none 0 0, .int .i64 0] 33) = w1 at *
  have P0 := Lib.hid hP
  have L0 := Lib.hid hL
  clear hP hL hfb
  have ORD1 := Lib.hid (show pb = pb from by rfl)
  refine (New_in 80 (by decide) (by decide) w1).mono ?_; rintro e w2 ⟨rfl, hb, hl, hsz⟩
  have hb : BankAt w2 (w1.heap.size + 1) w1.heap.size (zeros 80) 0 := hb
  obtain ⟨rr, hrr⟩ : ∃ rr, w1.heap.size = rr := ⟨_, rfl⟩
  have hlt_pb : pb < rr := hrr ▸ P0.out.lt
  simp only [hrr] at hb ⊢
  obtain ⟨g, hg⟩ : ∃ g, rr + 1 = g := ⟨_, rfl⟩
  simp only [hg] at hb ⊢
  have ORD2 := Lib.hid (show pb = pb ∧ pb < rr ∧ rr + 1 = g from by have o_ := ORD1.out; omega)
  clear ORD1
  have ee : Ex (fun _ => False) w1 w2 := Ex.of_below hl
  have P3 := Lib.hid (P0.out.ex ee (fun h => h))
  have L3 := Lib.hid (L0.out.ex ee (fun k hk => hk.elim))
  have K3 := Lib.hid (hb)
  clear ee P0 L0 hb hl hsz hrr hg hlt_pb
  have Pq0 := P3.out.cell 0
  have Pq1 := P3.out.cell 1
  have Pq2 := P3.out.cell 2
  have Pq3 := P3.out.cell 3
  have Pq4 := P3.out.cell 4
  simp only [List.getElem?_toArray, List.getElem?_cons_succ, List.getElem?_cons_zero] at Pq0 Pq1 Pq2 Pq3 Pq4
  go_wp2_with fail
  clear Pq0 Pq1 Pq2 Pq3 Pq4
  refine (Read_in at_ long HP.out w2).mono ?_; rintro e w3 ⟨oq, rfl, ha, hs, hb⟩
  have hlt_pb : pb < oq := Nat.lt_of_lt_of_le P3.out.lt hs
  have hlt_rr : rr < oq := Nat.lt_of_lt_of_le K3.out.row.lt hs
  have hlt_g : g < oq := Nat.lt_of_lt_of_le K3.out.head.lt hs
  have ORD4 := Lib.hid (show pb = pb ∧ pb < rr ∧ rr + 1 = g ∧ pb < oq ∧ rr < oq ∧ g < oq from by have o_ := ORD2.out; omega)
  clear ORD2
  have ee : Ex (fun _ => False) w2 w3 := Ex.of_below hb
  have P5 := Lib.hid (P3.out.ex ee (fun h => h))
  have L5 := Lib.hid (L3.out.ex ee (fun k hk => hk.elim))
  have K5 := Lib.hid (K3.out.ex ee (fun h => h) (fun h => h))
  have Aq5 := Lib.hid (ha)
  clear ee P3 L3 K3 ha hs hb hlt_pb hlt_rr hlt_g
  go_upto_region 9 with fail
  have hn := RowAt.new w3
  obtain ⟨rq, hnb⟩ : ∃ rq, w3.heap.size = rq := ⟨_, rfl⟩
  have hlt_pb : pb < rq := hnb ▸ P5.out.lt
  have hlt_rr : rr < rq := hnb ▸ K5.out.row.lt
  have hlt_g : g < rq := hnb ▸ K5.out.head.lt
  have hlt_oq : oq < rq := hnb ▸ Aq5.out.lt
  simp only [hnb] at hn ⊢
  have ORD6 := Lib.hid (show pb = pb ∧ pb < rr ∧ rr + 1 = g ∧ pb < oq ∧ rr < oq ∧ g < oq ∧ pb < rq ∧ rr < rq ∧ g < rq ∧ oq < rq from by have o_ := ORD4.out; omega)
  clear ORD4
  have ee : Ex (fun _ => False) w3 (w3.alloc (.cells #[] 25)) := (Ex.refl _ w3).alloc (.cells #[] 25)
  have P7 := Lib.hid (P5.out.ex ee (fun h => h))
  have L7 := Lib.hid (L5.out.ex ee (fun k hk => hk.elim))
  have K7 := Lib.hid (K5.out.ex ee (fun h => h) (fun h => h))
  have Aq7 := Lib.hid (Aq5.out.ex ee (fun h => h.elim (fun h => h) (fun h => h)))
  have R7 := Lib.hid (hn)
  clear ee P5 L5 K5 Aq5 hn hnb hlt_pb hlt_rr hlt_g hlt_oq
  generalize w3.alloc (.cells #[] 25) = w4 at *
  go_wp2_with fail
  go_loopw [12, 13, 14, 15, 16, 17] (fun s12 s13 s14 s15 s16 s17 wr => ∃ (i : Nat) (rd : List Int) (nr : Nat) (A : Option Addr) (c : Nat), i ≤ n ∧ s13 = .int .i64 i ∧ s12 = .slice A nr c ∧ rd.length = nr ∧ SnI w wr pb g rr oq at_ long 80 rd (.slice A nr c)) (fun s12 s13 s14 s15 s16 s17 _ => n - (intOf s13).toNat)
  case atStart => exact ⟨0, [], 0, _, _, by omega, rfl, rfl, rfl, ⟨P7.out, L7.out, ⟨_, _, K7.out, zeros_len 80⟩, ⟨oq, rq, by rw [show rdDone [] long = 0 from if_neg (by have := HC.out; simp; omega)]; exact RdAt.start Aq7.out, R7.out, Nat.le_refl _, by have o_ := ORD6.out; omega, by have o_ := ORD6.out; omega⟩, by have := HC.out; simp; omega, fun _ h => by simp at h⟩⟩
  case round =>
    clear P7 L7 K7 Aq7 R7
    obtain ⟨i, rd, nr, A, c, hi, rfl, rfl, hnr, hS⟩ := hrel
    obtain ⟨hP, hL, ⟨ws, t, hK, hwl⟩, ⟨qq, rq1, hA, hR, hq1, hq2, hq3⟩, hle, hfi⟩ := hS
    have P9 := Lib.hid hP
    have L9 := Lib.hid hL
    have K9 := Lib.hid hK
    have Aq9 := Lib.hid hA
    have R9 := Lib.hid hR
    have HNR := Lib.hid hnr
    have HWL := Lib.hid hwl
    have HLE := Lib.hid hle
    have HFI := Lib.hid hfi
    have QQ := Lib.hid (And.intro hq1 (And.intro hq2 hq3))
    have H64 := Lib.hid (show nr ≤ 64 by have := HC.out; omega)
    clear hP hL hK hA hR hnr hwl hle hfi hq1 hq2 hq3
    have ORD41 := Lib.hid (show pb = pb ∧ pb < rr ∧ rr + 1 = g ∧ pb < oq ∧ rr < oq ∧ g < oq ∧ pb < rq ∧ rr < rq ∧ g < rq ∧ oq < rq ∧ oq ≤ qq ∧ oq < rq1 ∧ rq1 ≠ qq from by have o_ := ORD6.out; have := QQ.out; omega)
    clear ORD6
    clear QQ
    by_cases hlt : i < n
    · have kd : decide ((i : Int) < (n : Int)) = true := decide_eq_true (by omega)
      have ki0 : (0 : Int) ≤ (i : Int) := by omega
      have ki1 : (i : Int) < (n : Int) := by omega
      have HI := Lib.hid hlt
      have HTN := Lib.hid (turn_num i n hlt (by have := HC.out; unfold maxLen; omega))
      obtain ⟨b, o, rfl, hb, hcell⟩ := HG.out (by omega)
      have TOK := Lib.hid (HOK.out i hlt)
      obtain ⟨tn, htn⟩ : ∃ tn, l i = tn := ⟨_, rfl⟩
      have hci := hcell i hlt
      rw [htn] at hci TOK
      have HCI := Lib.hid hci
      have HBP := Lib.hid (show b < pb from Nat.lt_of_lt_of_le hb HBS.out)
      clear hb hcell htn hci hi hlt
      have x0 := (L9.out.low.cell (p := ⟨b, o + i * 8, none⟩) HBP.out).trans HCI.out.1
      have x1 := (L9.out.low.cell (p := ⟨b, o + i * 8 + 1, none⟩) HBP.out).trans HCI.out.2.1
      have x2 := (L9.out.low.cell (p := ⟨b, o + i * 8 + 2, none⟩) HBP.out).trans HCI.out.2.2.1
      have x3 := (L9.out.low.cell (p := ⟨b, o + i * 8 + 3, none⟩) HBP.out).trans HCI.out.2.2.2.1
      have x4 := (L9.out.low.cell (p := ⟨b, o + i * 8 + 4, none⟩) HBP.out).trans HCI.out.2.2.2.2.1
      have x5 := (L9.out.low.cell (p := ⟨b, o + i * 8 + 5, none⟩) HBP.out).trans HCI.out.2.2.2.2.2.1
      have x6 := (L9.out.low.cell (p := ⟨b, o + i * 8 + 6, none⟩) HBP.out).trans HCI.out.2.2.2.2.2.2.1
      have x7 := (L9.out.low.cell (p := ⟨b, o + i * 8 + 7, none⟩) HBP.out).trans HCI.out.2.2.2.2.2.2.2
      go_upto_region 13 with fail
      clear x0 x1 x2 x3 x4 x5 x6 x7
      have hn := Blk.new wr 43 #[.int .i64 tn.act, .int .i64 tn.s.mode, .int .i64 tn.s.source, .bool tn.s.hold, .int .i64 tn.s.flags, .int .u64 tn.s.epoch, .int .i64 tn.at_, .int .u64 tn.x]
      obtain ⟨tb, hnb⟩ : ∃ tb, wr.heap.size = tb := ⟨_, rfl⟩
      have hlt_pb : pb < tb := hnb ▸ P9.out.lt
      have hlt_rr : rr < tb := hnb ▸ K9.out.row.lt
      have hlt_g : g < tb := hnb ▸ K9.out.head.lt
      have hlt_oq : oq < tb := hnb ▸ Aq9.out.lt
      have hlt_qq : qq < tb := hnb ▸ Aq9.out.qlt
      have hlt_rq1 : rq1 < tb := hnb ▸ R9.out.lt
      simp only [hnb] at hn ⊢
      have ORD42 := Lib.hid (show pb = pb ∧ pb < rr ∧ rr + 1 = g ∧ pb < oq ∧ rr < oq ∧ g < oq ∧ pb < rq ∧ rr < rq ∧ g < rq ∧ oq < rq ∧ oq ≤ qq ∧ oq < rq1 ∧ rq1 ≠ qq ∧ pb < tb ∧ rr < tb ∧ g < tb ∧ oq < tb ∧ qq < tb ∧ rq1 < tb from by have o_ := ORD41.out; omega)
      clear ORD41
      have ee : Ex (fun _ => False) wr (wr.alloc (.cells #[.int .i64 tn.act, .int .i64 tn.s.mode, .int .i64 tn.s.source, .bool tn.s.hold, .int .i64 tn.s.flags, .int .u64 tn.s.epoch, .int .i64 tn.at_, .int .u64 tn.x] 43)) := (Ex.refl _ wr).alloc (.cells #[.int .i64 tn.act, .int .i64 tn.s.mode, .int .i64 tn.s.source, .bool tn.s.hold, .int .i64 tn.s.flags, .int .u64 tn.s.epoch, .int .i64 tn.at_, .int .u64 tn.x] 43)
      have P43 := Lib.hid (P9.out.ex ee (fun h => h))
      have L43 := Lib.hid (L9.out.ex ee (fun k hk => hk.elim))
      have K43 := Lib.hid (K9.out.ex ee (fun h => h) (fun h => h))
      have Aq43 := Lib.hid (Aq9.out.ex ee (fun h => h.elim (fun h => h) (fun h => h)))
      have R43 := Lib.hid (R9.out.ex ee (fun h => h))
      have T43 := Lib.hid (hn)
      clear ee P9 L9 K9 Aq9 R9 hn hnb hlt_pb hlt_rr hlt_g hlt_oq hlt_qq hlt_rq1
      generalize wr.alloc (.cells #[.int .i64 tn.act, .int .i64 tn.s.mode, .int .i64 tn.s.source, .bool tn.s.hold, .int .i64 tn.s.flags, .int .u64 tn.s.epoch, .int .i64 tn.at_, .int .u64 tn.x] 43) = w5 at *
      have Tq0 := T43.out.cell 0
      have Tq1 := T43.out.cell 1
      have Tq2 := T43.out.cell 2
      have Tq3 := T43.out.cell 3
      have Tq4 := T43.out.cell 4
      have Tq5 := T43.out.cell 5
      have Tq6 := T43.out.cell 6
      have Tq7 := T43.out.cell 7
      simp only [List.getElem?_toArray, List.getElem?_cons_succ, List.getElem?_cons_zero] at Tq0 Tq1 Tq2 Tq3 Tq4 Tq5 Tq6 Tq7
      by_cases h0 : tn.act = 0
      · have ka : (tn.act == 0) = true := by simpa using h0
        clear h0
        by_cases hm : (nr : Int) < long
        · have kr : decide ((nr : Int) < long) = true := decide_eq_true hm
          have kwa : wrap64 (at_ + (nr : Int)) = at_ + (nr : Int) := wrap64_in _ (by have := HC.out; omega)
          have HIN := Lib.hid (show inW ws (at_ + (nr : Int)) from ⟨by have := HC.out; omega, by rw [HWL.out]; have := HC.out; omega⟩)
          have HM := Lib.hid hm
          clear hm
          go_wp2_with fail
          try simp only [kwa]
          refine (Peek_any g rr ws t (at_ + (nr : Int)) w5 K43.out).mono ?_; rintro e w6 ⟨rfl, hb⟩
          have HV := Lib.hid (wordF_range K43.out (at_ + (nr : Int)))
          obtain ⟨vv, hvv⟩ : ∃ vv, wordF ws (at_ + (nr : Int)) = vv := ⟨_, rfl⟩
          simp only [hvv] at HV ⊢
          have HVV := Lib.hid hvv
          clear hvv
          clear Tq0 Tq1 Tq2 Tq3 Tq4 Tq5 Tq6 Tq7
          have ee : Ex (fun _ => False) w5 w6 := Ex.of_below hb
          have P44 := Lib.hid (P43.out.ex ee (fun h => h))
          have L44 := Lib.hid (L43.out.ex ee (fun k hk => hk.elim))
          have K44 := Lib.hid (K43.out.ex ee (fun h => h) (fun h => h))
          have Aq44 := Lib.hid (Aq43.out.ex ee (fun h => h.elim (fun h => h) (fun h => h)))
          have R44 := Lib.hid (R43.out.ex ee (fun h => h))
          have T44 := Lib.hid (T43.out.ex ee (fun h => h))
          clear ee P43 L43 K43 Aq43 R43 T43 hb
          obtain ⟨i0, hi0, hz0, hz1, hz2⟩ := info_parts word64_info
          go_wp2_with (at_builtin; refine wpList_append_own_at _ rfl _ _ 41 rfl 0 25 i0 (.int .u64 0) 1 8 Try.underlying41 hi0 hz0 hz1 hz2 rfl (by decide) _ _ _ rfl (World.ownsRow.alloc (R44.out.rowN HNR.out) _) ⟨w6.heap.size, 0, none⟩ 1 1 [.int .u64 (vv)] rfl rfl ?c1 ?c2 ?c3 ?c4 ?c5 ?_)
          case c1 =>
            have hbn := Blk.new w6 25 #[.int .u64 (vv)]
            intro j u hj
            match j, hj with
            | 0, hj => simp at hj; subst hj; exact hbn.cell 0
          case c2 =>
            intro u hu
            simp only [List.mem_cons, List.not_mem_nil, or_false] at hu
            subst hu; rfl
          case c3 => have h1 := H64.out; unfold maxLen; omega
          case c4 => have h1 := H64.out; omega
          case c5 => exact Nat.zero_le _
          intro v' w7 hown' hgrow _ hat
          obtain ⟨A2, c2, rq2, rfl, hR, hrq, hx⟩ := row_push R44.out HNR.out.symm hown' hgrow hat
          clear hown' hgrow hat i0 hi0 hz0 hz1 hz2
          have ORD45 := Lib.hid (show pb = pb ∧ pb < rr ∧ rr + 1 = g ∧ pb < oq ∧ rr < oq ∧ g < oq ∧ pb < rq ∧ rr < rq ∧ g < rq ∧ oq < rq ∧ oq ≤ qq ∧ oq < rq1 ∧ rq1 ≠ qq ∧ pb < tb ∧ rr < tb ∧ g < tb ∧ oq < tb ∧ qq < tb ∧ rq1 < tb ∧ (rq2 = rq1 ∨ (rq2 > oq ∧ rq2 ≠ qq)) from by have o_ := ORD42.out; have h1 := Aq44.out.lt; have h2 := Aq44.out.qlt; omega)
          clear ORD42
          have ee : Ex (fun k => k = rq1) w6 w7 := hx
          have P46 := Lib.hid (P44.out.ex ee (by have o_ := ORD45.out; omega))
          have L46 := Lib.hid (L44.out.ex ee (fun k hk => by have o_ := ORD45.out; have hk : k = rq1 := hk; omega))
          have K46 := Lib.hid (K44.out.ex ee (by have o_ := ORD45.out; omega) (by have o_ := ORD45.out; omega))
          have Aq46 := Lib.hid (Aq44.out.ex ee (by have o_ := ORD45.out; omega))
          have T46 := Lib.hid (T44.out.ex ee (by have o_ := ORD45.out; omega))
          have R46 := Lib.hid (hR)
          clear ee P44 L44 K44 Aq44 R44 T44 hR hx hrq
          go_wp2_with fail
          have HA := Lib.hid (show RdAt w7 oq qq at_ long rd 0 from by have h9 := Aq46.out; rw [show rdDone rd long = 0 from if_neg (by have := HM.out; have := HNR.out; omega)] at h9; exact h9)
          refine (RStep_busy g rr oq qq ws t at_ long rd w7 HA.out K46.out (by have o_ := ORD45.out; omega) HP.out (by have := HM.out; have := HNR.out; omega)).mono ?_; rintro e w8 ⟨rfl, hb1, ⟨q1, ha, hq⟩, hx⟩
          have hlen9 : ((rd.length : Nat) : Int) = (nr : Int) := by rw [HNR.out]
          rw [show rdNext ws at_ rd = rd ++ [vv] from by unfold rdNext; rw [hlen9, if_pos HIN.out, HVV.out]] at ha
          have hh : rdHow ws at_ long rd = if (nr : Int) + 1 < long then 0 else 1 := by unfold rdHow; rw [hlen9, if_pos HIN.out]
          rw [hh] at ha ⊢
          have ha : RdAt w8 oq q1 at_ long (rd ++ [vv]) (rdDone (rd ++ [vv]) long) := by
            have e : rdDone (rd ++ [vv]) long = if (nr : Int) + 1 < long then 0 else 1 := by
              unfold rdDone
              rw [List.length_append, HNR.out]
              have := HM.out
              simp only [List.length_cons, List.length_nil]
              by_cases e : (nr : Int) + 1 < long
              · rw [if_pos e, if_neg (by omega)]
              · rw [if_neg e, if_pos (by omega)]
            rw [e]; exact ha
          clear HA hlen9 hh
          have ORD47 := Lib.hid (show pb = pb ∧ pb < rr ∧ rr + 1 = g ∧ pb < oq ∧ rr < oq ∧ g < oq ∧ pb < rq ∧ rr < rq ∧ g < rq ∧ oq < rq ∧ oq ≤ qq ∧ oq < rq1 ∧ rq1 ≠ qq ∧ pb < tb ∧ rr < tb ∧ g < tb ∧ oq < tb ∧ qq < tb ∧ rq1 < tb ∧ (rq2 = rq1 ∨ (rq2 > oq ∧ rq2 ≠ qq)) ∧ (q1 = qq ∨ (q1 > oq ∧ q1 ≠ rq2)) from by have o_ := ORD45.out; have h1 := Aq46.out.lt; have h2 := R46.out.lt; omega)
          clear ORD45
          have ee : Ex (fun k => k = g ∨ k = rr ∨ k = oq ∨ k = qq) w7 w8 := hx.mono (fun k hk => by rcases hk with h | h | h | h <;> simp [h])
          have P48 := Lib.hid (P46.out.ex ee (by have o_ := ORD47.out; omega))
          have L48 := Lib.hid (L46.out.ex ee (fun k hk => by have o_ := ORD47.out; have hk : k = g ∨ k = rr ∨ k = oq ∨ k = qq := hk; omega))
          have R48 := Lib.hid (R46.out.ex ee (by have o_ := ORD47.out; omega))
          have T48 := Lib.hid (T46.out.ex ee (by have o_ := ORD47.out; omega))
          have K48 := Lib.hid (hb1)
          have Aq48 := Lib.hid (ha)
          clear ee P46 L46 K46 Aq46 R46 T46 hb1 ha hx hq
          have RDN := Lib.hid Aq48.out
          have HWL2 := HWL
          have HNR2 := Lib.hid (show (rd ++ [vv]).length = nr + 1 by rw [List.length_append, HNR.out]; rfl)
          have HLE2 := Lib.hid (show (((rd ++ [vv]).length : Nat) : Int) ≤ long by rw [HNR2.out]; have := HM.out; omega)
          have HFI2 := Lib.hid (show ∀ x ∈ rd ++ [vv], 0 ≤ x ∧ x ≤ 18446744073709551615 from fun x hx => by
            rcases List.mem_append.1 hx with h | h
            · exact HFI.out x h
            · simp at h; subst h; exact HV.out)
          clear HLE HFI HWL
          have HLE := HLE2
          have HFI := HFI2
          clear HLE2 HFI2
          by_cases hmm : (nr : Int) + 1 < long
          · rw [if_pos hmm]
            have k1 : ((nr : Int) + 1 == long) = false := by first | exact beq_eq_false_iff_ne.2 (by omega) | exact beq_iff_eq.2 (by have := HM.out; omega)
            have k2 : (((nr + 1 : Nat) : Int) == long) = false := by first | exact beq_eq_false_iff_ne.2 (by omega) | exact beq_iff_eq.2 (by have := HM.out; omega)
            clear hmm
            go_wp2_with fail
            go_roundw
            case rel => exact ⟨i + 1, rd ++ [vv], nr + 1, A2, c2, HI.out, HTN.out.1, rfl, HNR2.out, ⟨P48.out, L48.out, ⟨_, _, K48.out, HWL2.out⟩, ⟨q1, rq2, RDN.out, R48.out, by have o_ := ORD47.out; omega, by have o_ := ORD47.out; omega, by have o_ := ORD47.out; omega⟩, HLE.out, HFI.out⟩⟩
            case measure => exact HTN.out.2
          · rw [if_neg hmm]
            have k1 : ((nr : Int) + 1 == long) = true := by first | exact beq_eq_false_iff_ne.2 (by omega) | exact beq_iff_eq.2 (by have := HM.out; omega)
            have k2 : (((nr + 1 : Nat) : Int) == long) = true := by first | exact beq_eq_false_iff_ne.2 (by omega) | exact beq_iff_eq.2 (by have := HM.out; omega)
            clear hmm
            go_wp2_with fail
            go_roundw
            case rel => exact ⟨i + 1, rd ++ [vv], nr + 1, A2, c2, HI.out, HTN.out.1, rfl, HNR2.out, ⟨P48.out, L48.out, ⟨_, _, K48.out, HWL2.out⟩, ⟨q1, rq2, RDN.out, R48.out, by have o_ := ORD47.out; omega, by have o_ := ORD47.out; omega, by have o_ := ORD47.out; omega⟩, HLE.out, HFI.out⟩⟩
            case measure => exact HTN.out.2
        · have kr : decide ((nr : Int) < long) = false := decide_eq_false hm
          have HM := Lib.hid (show (nr : Int) = long by have := HLE.out; have := HNR.out; omega)
          have k1 : ((nr : Int) == long) = true := beq_iff_eq.2 HM.out
          clear hm
          go_wp2_with fail
          have HA := Lib.hid (show RdAt w5 oq qq at_ long rd 1 from by have h9 := Aq43.out; rw [show rdDone rd long = 1 from if_pos (by have := HM.out; have := HNR.out; omega)] at h9; exact h9)
          refine (RStep_done oq qq at_ long rd 1 w5 HA.out (by decide) _).mono ?_; rintro e w_ ⟨rfl, rfl⟩
          clear HA
          go_wp2_with fail
          clear Tq0 Tq1 Tq2 Tq3 Tq4 Tq5 Tq6 Tq7
          have RDN := Lib.hid Aq43.out
          have HWL2 := HWL
          go_roundw
          case rel => exact ⟨i + 1, rd, nr, A, c, HI.out, HTN.out.1, rfl, HNR.out, ⟨P43.out, L43.out, ⟨_, _, K43.out, HWL2.out⟩, ⟨qq, rq1, RDN.out, R43.out, by have o_ := ORD42.out; omega, by have o_ := ORD42.out; omega, by have o_ := ORD42.out; omega⟩, HLE.out, HFI.out⟩⟩
          case measure => exact HTN.out.2
      · have ka : (tn.act == 0) = false := by simpa using h0
        clear h0
        by_cases h2 : tn.act = 2
        · have kb : (tn.act == 2) = true := by simpa using h2
          clear h2
          have hix := ix_range tn.at_ 80 (by decide)
          obtain ⟨ix, hixe⟩ : ∃ ix, (wrap64 (tn.at_.tmod 80 + 80)).tmod 80 = ix := ⟨_, rfl⟩
          rw [hixe] at hix
          have HIX := Lib.hid hix
          clear hix
          go_wp2_with fail
          try simp only [hixe]
          refine (Store_any g rr ws t ix tn.x w5 K43.out TOK.out.x).mono ?_; rintro e w6 ⟨rfl, hb1, hx⟩
          have HWL2 := Lib.hid (show (setF ws ix tn.x).length = 80 by rw [setF_len]; exact HWL.out)
          clear Tq0 Tq1 Tq2 Tq3 Tq4 Tq5 Tq6 Tq7
          have ee : Ex (fun k => k = g ∨ k = rr) w5 w6 := Ex.of_ex2 (T := fun k => k = g ∨ k = rr) hx (.inl rfl) (.inr rfl)
          have P44 := Lib.hid (P43.out.ex ee (by have o_ := ORD42.out; omega))
          have L44 := Lib.hid (L43.out.ex ee (fun k hk => by have o_ := ORD42.out; have hk : k = g ∨ k = rr := hk; omega))
          have Aq44 := Lib.hid (Aq43.out.ex ee (by have o_ := ORD42.out; omega))
          have R44 := Lib.hid (R43.out.ex ee (by have o_ := ORD42.out; omega))
          have T44 := Lib.hid (T43.out.ex ee (by have o_ := ORD42.out; omega))
          have K44 := Lib.hid (hb1)
          clear ee P43 L43 K43 Aq43 R43 T43 hb1 hx
          go_wp2_with fail
          have RDN := Lib.hid Aq44.out
          go_roundw
          case rel => exact ⟨i + 1, rd, nr, A, c, HI.out, HTN.out.1, rfl, HNR.out, ⟨P44.out, L44.out, ⟨_, _, K44.out, HWL2.out⟩, ⟨qq, rq1, RDN.out, R44.out, by have o_ := ORD42.out; omega, by have o_ := ORD42.out; omega, by have o_ := ORD42.out; omega⟩, HLE.out, HFI.out⟩⟩
          case measure => exact HTN.out.2
        · have kb : (tn.act == 2) = false := by simpa using h2
          clear h2
          have SV := Lib.hid (show tn.s.val = .agg #[.int .i64 tn.s.mode, .int .i64 tn.s.source, .bool tn.s.hold, .int .i64 tn.s.flags, .int .u64 tn.s.epoch] from rfl)
          by_cases hmay : mayE tn.s = 0
          · have MY := Lib.hid hmay
            clear hmay
            have Pq0 := P43.out.cell 0
            have Pq1 := P43.out.cell 1
            have Pq2 := P43.out.cell 2
            have Pq3 := P43.out.cell 3
            have Pq4 := P43.out.cell 4
            simp only [List.getElem?_toArray, List.getElem?_cons_succ, List.getElem?_cons_zero] at Pq0 Pq1 Pq2 Pq3 Pq4
            go_wp2_with fail
            have HW := Lib.hid (Write_in at_ long tn.s TOK.out.s MY.out HP.out w5)
            rw [SV.out] at HW
            refine HW.out.mono ?_; rintro e w6 ⟨ow, rfl, ha, hs, hb⟩
            clear HW
            clear Tq0 Tq1 Tq2 Tq3 Tq4 Tq5 Tq6 Tq7 Pq0 Pq1 Pq2 Pq3 Pq4
            have hlt_pb : pb < ow := Nat.lt_of_lt_of_le P43.out.lt hs
            have hlt_rr : rr < ow := Nat.lt_of_lt_of_le K43.out.row.lt hs
            have hlt_g : g < ow := Nat.lt_of_lt_of_le K43.out.head.lt hs
            have hlt_oq : oq < ow := Nat.lt_of_lt_of_le Aq43.out.lt hs
            have hlt_qq : qq < ow := Nat.lt_of_lt_of_le Aq43.out.qlt hs
            have hlt_rq1 : rq1 < ow := Nat.lt_of_lt_of_le R43.out.lt hs
            have hlt_tb : tb < ow := Nat.lt_of_lt_of_le T43.out.lt hs
            have ORD44 := Lib.hid (show pb = pb ∧ pb < rr ∧ rr + 1 = g ∧ pb < oq ∧ rr < oq ∧ g < oq ∧ pb < rq ∧ rr < rq ∧ g < rq ∧ oq < rq ∧ oq ≤ qq ∧ oq < rq1 ∧ rq1 ≠ qq ∧ pb < tb ∧ rr < tb ∧ g < tb ∧ oq < tb ∧ qq < tb ∧ rq1 < tb ∧ pb < ow ∧ rr < ow ∧ g < ow ∧ oq < ow ∧ qq < ow ∧ rq1 < ow ∧ tb < ow from by have o_ := ORD42.out; omega)
            clear ORD42
            have ee : Ex (fun _ => False) w5 w6 := Ex.of_below hb
            have P45 := Lib.hid (P43.out.ex ee (fun h => h))
            have L45 := Lib.hid (L43.out.ex ee (fun k hk => hk.elim))
            have K45 := Lib.hid (K43.out.ex ee (fun h => h) (fun h => h))
            have Aq45 := Lib.hid (Aq43.out.ex ee (fun h => h.elim (fun h => h) (fun h => h)))
            have R45 := Lib.hid (R43.out.ex ee (fun h => h))
            have T45 := Lib.hid (T43.out.ex ee (fun h => h))
            have Aw45 := Lib.hid (ha)
            clear ee P43 L43 K43 Aq43 R43 T43 ha hs hb hlt_pb hlt_rr hlt_g hlt_oq hlt_qq hlt_rq1 hlt_tb
            go_wp2_with fail
            have EI := Lib.hid (entF_range (e := tn.s.epoch) HP.out)
            have HIN := Lib.hid (show inW ws (entF at_ long tn.s.epoch) from ⟨by have := EI.out; have := HC.out; omega, by rw [HWL.out]; have := EI.out; have := HC.out; omega⟩)
            refine (S_win g rr ow ow ws t at_ long 0 (wordI tn.s) tn.s [] w6 Aw45.out K45.out (by have o_ := ORD44.out; omega) TOK.out.s (wordI_range (mayE_zero.1 MY.out).1 TOK.out.s) HIN.out).mono ?_; rintro e w7 ⟨rfl, hb1, _, hx⟩
            have HWL2 := Lib.hid (show (setF ws (entF at_ long tn.s.epoch) (wordI tn.s)).length = 80 by rw [setF_len]; exact HWL.out)
            have ee : Ex (fun k => k = g ∨ k = rr ∨ k = ow) w6 w7 := hx.mono (fun k hk => by rcases hk with h | h | h | h <;> simp [h])
            have P46 := Lib.hid (P45.out.ex ee (by have o_ := ORD44.out; omega))
            have L46 := Lib.hid (L45.out.ex ee (fun k hk => by have o_ := ORD44.out; have hk : k = g ∨ k = rr ∨ k = ow := hk; omega))
            have Aq46 := Lib.hid (Aq45.out.ex ee (by have o_ := ORD44.out; omega))
            have R46 := Lib.hid (R45.out.ex ee (by have o_ := ORD44.out; omega))
            have T46 := Lib.hid (T45.out.ex ee (by have o_ := ORD44.out; omega))
            have K46 := Lib.hid (hb1)
            clear ee P45 L45 K45 Aq45 R45 T45 hb1 hx Aw45
            go_wp2_with fail
            have RDN := Lib.hid Aq46.out
            go_roundw
            case rel => exact ⟨i + 1, rd, nr, A, c, HI.out, HTN.out.1, rfl, HNR.out, ⟨P46.out, L46.out, ⟨_, _, K46.out, HWL2.out⟩, ⟨qq, rq1, RDN.out, R46.out, by have o_ := ORD44.out; omega, by have o_ := ORD44.out; omega, by have o_ := ORD44.out; omega⟩, HLE.out, HFI.out⟩⟩
            case measure => exact HTN.out.2
          · have km : (mayE tn.s == 0) = false := by simpa using hmay
            obtain ⟨me, hme⟩ : ∃ me, mayE tn.s = me := ⟨_, rfl⟩
            have MY := Lib.hid hmay
            have HME := Lib.hid hme
            rw [hme] at km
            clear hmay hme
            have Pq0 := P43.out.cell 0
            have Pq1 := P43.out.cell 1
            have Pq2 := P43.out.cell 2
            have Pq3 := P43.out.cell 3
            have Pq4 := P43.out.cell 4
            simp only [List.getElem?_toArray, List.getElem?_cons_succ, List.getElem?_cons_zero] at Pq0 Pq1 Pq2 Pq3 Pq4
            go_wp2_with fail
            have HW := Lib.hid (Write_bad at_ long tn.s TOK.out.s MY.out w5)
            rw [SV.out, HME.out] at HW
            refine HW.out.mono ?_; rintro e w6 ⟨rfl, hb⟩
            clear HW
            clear Tq0 Tq1 Tq2 Tq3 Tq4 Tq5 Tq6 Tq7 Pq0 Pq1 Pq2 Pq3 Pq4
            have ee : Ex (fun _ => False) w5 w6 := Ex.of_below hb
            have P44 := Lib.hid (P43.out.ex ee (fun h => h))
            have L44 := Lib.hid (L43.out.ex ee (fun k hk => hk.elim))
            have K44 := Lib.hid (K43.out.ex ee (fun h => h) (fun h => h))
            have Aq44 := Lib.hid (Aq43.out.ex ee (fun h => h.elim (fun h => h) (fun h => h)))
            have R44 := Lib.hid (R43.out.ex ee (fun h => h))
            have T44 := Lib.hid (T43.out.ex ee (fun h => h))
            clear ee P43 L43 K43 Aq43 R43 T43 hb
            go_wp2_with fail
            have HWL2 := HWL
            have RDN := Lib.hid Aq44.out
            go_roundw
            case rel => exact ⟨i + 1, rd, nr, A, c, HI.out, HTN.out.1, rfl, HNR.out, ⟨P44.out, L44.out, ⟨_, _, K44.out, HWL2.out⟩, ⟨qq, rq1, RDN.out, R44.out, by have o_ := ORD42.out; omega, by have o_ := ORD42.out; omega, by have o_ := ORD42.out; omega⟩, HLE.out, HFI.out⟩⟩
            case measure => exact HTN.out.2
    · obtain rfl : i = n := by omega
      have kd : decide ((i : Int) < (i : Int)) = false := decide_eq_false (by omega)
      by_cases hm : (nr : Int) < long
      · have kr : decide ((nr : Int) < long) = true := decide_eq_true hm
        have HM := Lib.hid hm
        clear hm
        go_wp2_with fail
        have HA := Lib.hid (show RdAt wr oq qq at_ long rd 0 from by have h9 := Aq9.out; rw [show rdDone rd long = 0 from if_neg (by have := HM.out; have := HNR.out; omega)] at h9; exact h9)
        refine (RGot_busy oq qq at_ long rd 0 wr HA.out (by decide)).mono ?_; rintro e w_ ⟨rfl, rfl⟩
        clear HA
        go_wp2_with fail
        refine (awake_any wr).mono ?_; rintro e wz ⟨rfl, hb⟩
        have ee : Ex (fun _ => False) wr wz := Ex.of_below hb
        have P42 := Lib.hid (P9.out.ex ee (fun h => h))
        have L42 := Lib.hid (L9.out.ex ee (fun k hk => hk.elim))
        have K42 := Lib.hid (K9.out.ex ee (fun h => h) (fun h => h))
        have Aq42 := Lib.hid (Aq9.out.ex ee (fun h => h.elim (fun h => h) (fun h => h)))
        have R42 := Lib.hid (R9.out.ex ee (fun h => h))
        clear ee P9 L9 K9 Aq9 R9 hb
        go_wp2_with fail
        go_ret
        exact ⟨rfl, L42.out.low.mono HBS.out⟩
      · have kr : decide ((nr : Int) < long) = false := decide_eq_false hm
        have HM := Lib.hid (show (nr : Int) = long by have := HLE.out; have := HNR.out; omega)
        clear hm
        go_wp2_with fail
        have HA := Lib.hid (show RdAt wr oq qq at_ long rd 1 from by have h9 := Aq9.out; rw [show rdDone rd long = 1 from if_pos (by have := HM.out; have := HNR.out; omega)] at h9; exact h9)
        have HGT := RGot_done oq qq at_ long rd wr HA.out (by have := H64.out; have := HNR.out; omega)
        obtain ⟨Ls, hLs⟩ : ∃ Ls, sortS (keepL at_ long 0 rd) = Ls := ⟨_, rfl⟩
        rw [hLs] at HGT
        have HF := Lib.hid (held_facts hLs HFI.out)
        refine HGT.mono ?_; rintro e w5 ⟨A3, c3, rfl, ho, hb⟩
        clear HGT HA hLs
        have HST := Lib.hid (sts_of_own ho (by have := HF.out.2.1; have := HNR.out; have := H64.out; unfold maxLen; omega) HF.out.2.2.1)
        obtain ⟨n1, hn1⟩ : ∃ n1, Ls.length = n1 := ⟨_, rfl⟩
        simp only [hn1] at HST HF ⊢
        obtain ⟨f, hf⟩ : ∃ f : Nat → St, (fun i => Ls.getD i St.zero) = f := ⟨_, rfl⟩
        have HF2 := Lib.hid (show SoundF n1 f ∧ n1 ≤ nr ∧ (∀ i, i < n1 → (f i).Ok) ∧ (keepL at_ long 0 rd).length = n1 ∧ ∀ i, i < n1 → ∃ k, k < nr ∧ mayE (f i) = 0 ∧ entF at_ long (f i).epoch = at_ + (k : Int) ∧ wordI (f i) = nth rd k from by
          rw [← hf]
          refine ⟨HF.out.1, by have := HF.out.2.1; rw [HNR.out] at this; exact this, fun i hi => HST.out.ok i hi, HF.out.2.2.2.1, fun i hi => ?_⟩
          have := HF.out.2.2.2.2 i hi
          rw [HNR.out] at this
          exact this)
        rw [hf] at HST
        clear HF hf hn1 ho
        have ee : Ex (fun _ => False) wr w5 := Ex.of_below hb
        have P42 := Lib.hid (P9.out.ex ee (fun h => h))
        have L42 := Lib.hid (L9.out.ex ee (fun k hk => hk.elim))
        have K42 := Lib.hid (K9.out.ex ee (fun h => h) (fun h => h))
        have Aq42 := Lib.hid (Aq9.out.ex ee (fun h => h.elim (fun h => h) (fun h => h)))
        have R42 := Lib.hid (R9.out.ex ee (fun h => h))
        clear ee P9 L9 K9 Aq9 R9 hb
        have kn : decide ((n1 : Int) > long) = false := decide_eq_false (by have := HF2.out.2.1; have := HM.out; omega)
        have kn2 : decide (long < (n1 : Int)) = false := kn
        go_wp2_with fail
        have HSN := Sound_any (.slice A3 n1 c3) n1 f w5 HST.out
        rw [decide_eq_true HF2.out.1] at HSN
        refine HSN.mono ?_; rintro e w6 ⟨rfl, hb⟩
        clear HSN
        have HST := Lib.hid (HST.out.below hb)
        have ee : Ex (fun _ => False) w5 w6 := Ex.of_below hb
        have P43 := Lib.hid (P42.out.ex ee (fun h => h))
        have L43 := Lib.hid (L42.out.ex ee (fun k hk => hk.elim))
        have K43 := Lib.hid (K42.out.ex ee (fun h => h) (fun h => h))
        have Aq43 := Lib.hid (Aq42.out.ex ee (fun h => h.elim (fun h => h) (fun h => h)))
        have R43 := Lib.hid (R42.out.ex ee (fun h => h))
        clear ee P42 L42 K42 Aq42 R42 hb
        go_wp2_with fail
        have W0 := Lib.hid (Below.refl w6.heap.size w6)
        go_loopw [19, 20, 21, 22] (fun s19 s20 s21 s22 wr2 => ∃ j : Nat, j ≤ n1 ∧ s19 = .int .i64 j ∧ Below w6.heap.size w6 wr2) (fun s19 s20 s21 s22 _ => n1 - (intOf s19).toNat)
        case atStart => exact ⟨0, by omega, rfl, Below.refl _ _⟩
        case round =>
          obtain ⟨j, hj, rfl, hbl⟩ := hrel
          have B2 := Lib.hid hbl
          clear hbl
          by_cases hjlt : j < n1
          · have kd2 : decide ((j : Int) < (n1 : Int)) = true := decide_eq_true (by omega)
            have kj0 : (0 : Int) ≤ (j : Int) := by omega
            have kj1 : (j : Int) < (n1 : Int) := by omega
            have HJ := Lib.hid hjlt
            have HTN := Lib.hid (turn_num j n1 hjlt (by have := HF2.out.2.1; have := H64.out; unfold maxLen; omega))
            obtain ⟨A9, c9, e9, _, hg9⟩ := HST.out.form
            simp only [Value.slice.injEq] at e9
            obtain ⟨rfl, _, rfl⟩ := e9
            obtain ⟨b3, o3, rfl, hb3, hc3⟩ := hg9 (by omega)
            obtain ⟨k, hk, hmy, hen, hwd⟩ := HF2.out.2.2.2.2 j hjlt
            obtain ⟨s, hs⟩ : ∃ s, f j = s := ⟨_, rfl⟩
            have SO := Lib.hid (HF2.out.2.2.1 j hjlt)
            have hcj := hc3 j hjlt
            rw [hs] at SO hmy hen hwd hcj
            have HCJ := Lib.hid hcj
            have HB3 := Lib.hid hb3
            have SV := Lib.hid (show s.val = .agg #[.int .i64 s.mode, .int .i64 s.source, .bool s.hold, .int .i64 s.flags, .int .u64 s.epoch] from rfl)
            have MY := Lib.hid hmy
            have HEN := Lib.hid hen
            have HWD := Lib.hid hwd
            have HKR := Lib.hid hk
            clear hg9 hb3 hc3 hs hcj hmy hen hwd hj hjlt hk
            have y0 := (B2.out.cell (p := ⟨b3, o3 + j * 5, none⟩) HB3.out).trans HCJ.out.1
            have y1 := (B2.out.cell (p := ⟨b3, o3 + j * 5 + 1, none⟩) HB3.out).trans HCJ.out.2.1
            have y2 := (B2.out.cell (p := ⟨b3, o3 + j * 5 + 2, none⟩) HB3.out).trans HCJ.out.2.2.1
            have y3 := (B2.out.cell (p := ⟨b3, o3 + j * 5 + 3, none⟩) HB3.out).trans HCJ.out.2.2.2.1
            have y4 := (B2.out.cell (p := ⟨b3, o3 + j * 5 + 4, none⟩) HB3.out).trans HCJ.out.2.2.2.2
            go_wp2_with fail
            have HK := Lib.hid (Pack_ok s SO.out MY.out wr)
            rw [SV.out] at HK
            refine HK.out.mono ?_; rintro e w7 ⟨rfl, hb⟩
            clear HK y0 y1 y2 y3 y4
            have B3 := Lib.hid (bl B2.out hb)
            clear hb
            go_upto_region 34 with fail
            have hne : Nonempty (Held (Below w7.heap.size w7)) := ⟨⟨w7, Below.refl _ _⟩⟩
            have p0 : ∀ y : Held (Below w7.heap.size w7), y.w.cell? ⟨pb, 0, none⟩ = some (.int .i64 0) := fun y => (((P43.out.bl B3.out)).bl y.ok).cell 0
            have p1 : ∀ y : Held (Below w7.heap.size w7), y.w.cell? ⟨pb, 1, none⟩ = some (.int .i64 at_) := fun y => (((P43.out.bl B3.out)).bl y.ok).cell 1
            have p2 : ∀ y : Held (Below w7.heap.size w7), y.w.cell? ⟨pb, 2, none⟩ = some (.int .i64 long) := fun y => (((P43.out.bl B3.out)).bl y.ok).cell 2
            have p3 : ∀ y : Held (Below w7.heap.size w7), y.w.cell? ⟨pb, 3, none⟩ = some (.slice none 0 0) := fun y => (((P43.out.bl B3.out)).bl y.ok).cell 3
            have p4 : ∀ y : Held (Below w7.heap.size w7), y.w.cell? ⟨pb, 4, none⟩ = some (.int .i64 0) := fun y => (((P43.out.bl B3.out)).bl y.ok).cell 4
            have p9 : ∀ y : Held (Below w7.heap.size w7), y.w.cell? ⟨b3, o3 + j * 5 + 4, none⟩ = some (.int .u64 s.epoch) := fun y => ((bl B3.out y.ok).cell (p := ⟨b3, o3 + j * 5 + 4, none⟩) HB3.out).trans HCJ.out.2.2.2.2
            refine drawn_bars (S := Below w7.heap.size w7) [([0, 1, 2, 3, 4, 5, 7], 6)] [8, 9] (by kernel_rfl) (by kernel_rfl) (by kernel_rfl) rfl (Below.refl _ _).drew ?_
            refine Phased.go ?_
            simp only [pick, List.map_cons, List.map_nil, List.getElem?_cons_zero, List.getElem?_cons_succ, Option.getD_some]
            repeat (go_big_quiet_step (fail))
            refine wpQuiet_nil ?_
            go_wp2_with fail
            refine (Entry_any at_ long s.epoch w7.drew SO.out.epoch).mono ?_; rintro e w8 ⟨rfl, hb⟩
            have hb2 := bl (Below.refl w7.heap.size w7).drew hb
            rw [HEN.out]
            go_wp2_with fail
            refine behind_normal ⟨_, fun W h => h, hb2, ?_⟩
            refine Phased.end_ ?_
            clear hne p0 p1 p2 p3 p4 p9 hb
            have hne5 : Nonempty (Held (fun W => W = w8)) := ⟨⟨_, rfl⟩⟩
            simp only [pick, List.map_cons, List.map_nil, List.getElem?_cons_zero, List.getElem?_cons_succ, Option.getD_some]
            repeat (go_big_quiet_step (fail))
            refine wpQuiet_nil ?_
            have B4 := Lib.hid (bl B3.out hb2)
            clear hne5 hb2 B3
            have kwk : wrap64 (at_ + (k : Int) - at_) = (k : Int) := by rw [show at_ + (k : Int) - at_ = (k : Int) by omega]; exact wrap64_in _ (by have := HKR.out; have := H64.out; omega)
            have kk0 : decide ((k : Int) < 0) = false := decide_eq_false (by omega)
            have kk1 : decide ((k : Int) ≥ (nr : Int)) = false := decide_eq_false (by have := HKR.out; omega)
            have kk2 : decide ((nr : Int) ≤ (k : Int)) = false := kk1
            have kk3 : (0 : Int) ≤ (k : Int) := by omega
            have kk4 : (k : Int) < (nr : Int) := by have := HKR.out; omega
            obtain ⟨hA9, hcc⟩ := (R43.out.ex (T := fun _ => False) (Ex.of_below B4.out) (fun h => h)).cell (i := k) (by rw [HNR.out]; exact HKR.out)
            subst hA9
            have kne : (nth rd k != wordI s) = false := by rw [HWD.out]; simp
            have kne2 : (wordI s != wordI s) = false := by simp
            rw [← HWD.out] at hcc
            go_wp2_with fail
            go_roundw
            case rel => exact ⟨j + 1, HJ.out, HTN.out.1, B4.out⟩
            case measure => exact HTN.out.2
          · obtain rfl : j = n1 := by omega
            have kd2 : decide ((j : Int) < (j : Int)) = false := decide_eq_false (by omega)
            have ee : Ex (fun _ => False) w6 wr := Ex.of_below B2.out
            have P91 := Lib.hid (P43.out.ex ee (fun h => h))
            have L91 := Lib.hid (L43.out.ex ee (fun k hk => hk.elim))
            have K91 := Lib.hid (K43.out.ex ee (fun h => h) (fun h => h))
            have Aq91 := Lib.hid (Aq43.out.ex ee (fun h => h.elim (fun h => h) (fun h => h)))
            have R91 := Lib.hid (R43.out.ex ee (fun h => h))
            clear ee P43 L43 K43 Aq43 R43
            go_wp2_with fail
            clear kd2
            go_loopw [23, 24, 25, 26] (fun s23 s24 s25 s26 wr3 => ∃ k : Nat, k ≤ nr ∧ s24 = .int .i64 k ∧ s23 = .int .i64 (cntF at_ long rd k) ∧ Below wr.heap.size wr wr3) (fun s23 s24 s25 s26 _ => nr - (intOf s24).toNat)
            case atStart => exact ⟨0, by omega, rfl, by rw [cntF_zero], Below.refl _ _⟩
            case round =>
              obtain ⟨k, hk, rfl, rfl, hbl⟩ := hrel
              have C2 := Lib.hid hbl
              clear hbl
              by_cases hklt : k < nr
              · have kd3 : decide ((k : Int) < (nr : Int)) = true := decide_eq_true (by omega)
                have kk0 : (0 : Int) ≤ (k : Int) := by omega
                have kk1 : (k : Int) < (nr : Int) := by omega
                have HK := Lib.hid hklt
                have HTN := Lib.hid (turn_num k nr hklt (by have := H64.out; unfold maxLen; omega))
                have kwa : wrap64 (at_ + (k : Int)) = at_ + (k : Int) := wrap64_in _ (by have := HC.out; have := H64.out; omega)
                obtain ⟨hA9, hcc⟩ := (R91.out.ex (T := fun _ => False) (Ex.of_below C2.out) (fun h => h)).cell (i := k) (by rw [HNR.out]; exact hklt)
                subst hA9
                have hv := HFI.out _ (nth_mem (rd := rd) (k := k) (by rw [HNR.out]; exact hklt))
                have HIT := Lib.hid (fun h1 h2 => cntF_hit (at_ := at_) (long := long) (rd := rd) (k := k) (by rw [HNR.out]; exact hklt) (by rw [HNR.out]; exact H64.out) h1 h2)
                have MISS := Lib.hid (fun h => cntF_miss (at_ := at_) (long := long) (rd := rd) (k := k) (by rw [HNR.out]; exact hklt) h)
                obtain ⟨vv, hvv⟩ : ∃ vv, nth rd k = vv := ⟨_, rfl⟩
                rw [hvv] at hcc hv HIT MISS
                have HVV := Lib.hid hv
                obtain ⟨ck, hck⟩ : ∃ ck, cntF at_ long rd k = ck := ⟨_, rfl⟩
                rw [hck] at HIT MISS
                simp only [hck]
                have HU := Lib.hid (fun W => Unpack_any vv HVV.out W)
                obtain ⟨s, hs⟩ : ∃ s, unS vv = s := ⟨_, rfl⟩
                have hso := unS_ok hv
                obtain ⟨ue, hue⟩ : ∃ ue, unE vv = ue := ⟨_, rfl⟩
                rw [hs] at HU HIT MISS hso
                rw [hue] at HU HIT MISS
                unfold St.val at HU
                have SO := Lib.hid hso
                clear hso hs hue hck hvv hv hk
                go_wp2_with fail
                refine (HU.out wr).mono ?_; rintro e w7 ⟨rfl, hb⟩
                clear HU hcc
                have C3 := Lib.hid (bl C2.out hb)
                clear hb
                go_upto_region 42 with fail
                have hsn := Blk.new w7 28 #[.int .i64 s.mode, .int .i64 s.source, .bool s.hold, .int .i64 s.flags, .int .u64 s.epoch]
                have C4 := Lib.hid (C3.out.alloc C3.out.size (.cells #[.int .i64 s.mode, .int .i64 s.source, .bool s.hold, .int .i64 s.flags, .int .u64 s.epoch] 28))
                obtain ⟨sx, hsx⟩ : ∃ sx, w7.heap.size = sx := ⟨_, rfl⟩
                simp only [hsx] at hsn ⊢
                generalize w7.alloc (.cells #[.int .i64 s.mode, .int .i64 s.source, .bool s.hold, .int .i64 s.flags, .int .u64 s.epoch] 28) = w8 at *
                have z4 := hsn.cell 4
                simp only [List.getElem?_toArray, List.getElem?_cons_succ, List.getElem?_cons_zero] at z4
                clear hsn hsx C3 C2
                by_cases he0 : ue = 0
                · have ke : (ue == 0) = true := by simpa using he0
                  have HE0 := Lib.hid he0
                  clear he0
                  have p0 := ((P91.out.bl C4.out)).cell 0
                  have p1 := ((P91.out.bl C4.out)).cell 1
                  have p2 := ((P91.out.bl C4.out)).cell 2
                  have p3 := ((P91.out.bl C4.out)).cell 3
                  have p4 := ((P91.out.bl C4.out)).cell 4
                  simp only [List.getElem?_toArray, List.getElem?_cons_succ, List.getElem?_cons_zero] at p0 p1 p2 p3 p4
                  obtain ⟨en, hen⟩ : ∃ en, entF at_ long s.epoch = en := ⟨_, rfl⟩
                  have HEN := Lib.hid (fun W => Entry_any at_ long s.epoch W SO.out.epoch)
                  rw [hen] at HEN HIT MISS
                  clear hen
                  by_cases he : en = at_ + (k : Int)
                  · have kx : (en == at_ + (k : Int)) = true := by simpa using he
                    have HQ := Lib.hid (HIT.out HE0.out he)
                    clear he
                    go_wp2_with fail
                    refine (HEN.out w8).mono ?_; rintro e w9 ⟨rfl, hb⟩
                    have C5 := Lib.hid (bl C4.out hb)
                    clear hb
                    go_wp2_with fail
                    go_roundw
                    case rel => exact ⟨k + 1, HK.out, HTN.out.1, by rw [HQ.out], C5.out⟩
                    case measure => exact HTN.out.2
                  · have kx : (en == at_ + (k : Int)) = false := by simpa using he
                    have HQ := Lib.hid (MISS.out (fun h => he h.2))
                    clear he
                    go_wp2_with fail
                    refine (HEN.out w8).mono ?_; rintro e w9 ⟨rfl, hb⟩
                    have C5 := Lib.hid (bl C4.out hb)
                    clear hb
                    go_wp2_with fail
                    go_roundw
                    case rel => exact ⟨k + 1, HK.out, HTN.out.1, by rw [HQ.out], C5.out⟩
                    case measure => exact HTN.out.2
                · have ke : (ue == 0) = false := by simpa using he0
                  have HQ := Lib.hid (MISS.out (fun h => he0 h.1))
                  clear he0
                  go_wp2_with fail
                  go_roundw
                  case rel => exact ⟨k + 1, HK.out, HTN.out.1, by rw [HQ.out], C4.out⟩
                  case measure => exact HTN.out.2
              · obtain rfl : k = nr := by omega
                have kd3 : decide ((k : Int) < (k : Int)) = false := decide_eq_false (by omega)
                have hcn : cntF at_ long rd k = (j : Int) := by
                  unfold cntF
                  rw [List.take_of_length_le (by rw [HNR.out]; omega), HF2.out.2.2.2.1]
                simp only [hcn]
                have kjj : ((j : Int) == (j : Int)) = true := by simp
                clear hcn hk hklt
                have ee : Ex (fun _ => False) _ wr := Ex.of_below C2.out
                have P121 := Lib.hid (P91.out.ex ee (fun h => h))
                have L121 := Lib.hid (L91.out.ex ee (fun k hk => hk.elim))
                have K121 := Lib.hid (K91.out.ex ee (fun h => h) (fun h => h))
                have Aq121 := Lib.hid (Aq91.out.ex ee (fun h => h.elim (fun h => h) (fun h => h)))
                have R121 := Lib.hid (R91.out.ex ee (fun h => h))
                clear ee P91 L91 K91 Aq91 R91
                go_wp2_with fail
                refine (awake_any wr).mono ?_; rintro e wz ⟨rfl, hb⟩
                have ee : Ex (fun _ => False) wr wz := Ex.of_below hb
                have P122 := Lib.hid (P121.out.ex ee (fun h => h))
                have L122 := Lib.hid (L121.out.ex ee (fun k hk => hk.elim))
                have K122 := Lib.hid (K121.out.ex ee (fun h => h) (fun h => h))
                have Aq122 := Lib.hid (Aq121.out.ex ee (fun h => h.elim (fun h => h) (fun h => h)))
                have R122 := Lib.hid (R121.out.ex ee (fun h => h))
                clear ee P121 L121 K121 Aq121 R121 hb
                go_wp2_with fail
                go_ret
                exact ⟨rfl, L122.out.low.mono HBS.out⟩
end Go.Proofs.Ythhellgaafbokaa.Lg
