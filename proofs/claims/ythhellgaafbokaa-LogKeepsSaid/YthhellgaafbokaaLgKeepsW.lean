/-
  Law 16: LogKeeps' walk. Printed by wip/tools/mklgk.py. Conditions stand at each. By an AI agent.
-/
import Derived.Test.YthhellgaafbokaaLgKr
import Derived.Test.YthhellgaafbokaaSch
namespace Go.Proofs.Ythhellgaafbokaa.Lg
set_option linter.unusedVariables false
set_option linter.unusedSimpArgs false
open Go Go.RowKit Go.Proofs.Ythhellgaafbokaa.Base Go.Proofs.Ythhellgaafbokaa.Reg
open Go.Proofs.Ythhellgaafbokaa.Bank (BankAt inW wordF setF tickF tickF_in errF New_in zeros zeros_len Touches_any Peek_any Store_any wordF_in wordF_out setF_in setF_out wordF_range setF_len)
set_option maxRecDepth 100000 in
set_option maxHeartbeats 8000000 in
theorem Keeps_in (v : Value) (xs : List Int) (N : Nat) (w : World) (h : Ints w .i64 v xs) (hc : 1 ≤ N ∧ N ≤ 64 ∧ xs.length ≤ 150) : Calls Try.prog 8 #[.int .i64 (N : Int), v] w fun e w' => e = .returned (.bool true) ∧ Below w.heap.size w w' := by
  obtain ⟨A0, c0, rfl, hn, hg⟩ := h.form
  obtain ⟨n, hxn⟩ : ∃ n, xs.length = n := ⟨_, rfl⟩
  simp only [hxn] at hn hg hc ⊢
  have HG := Lib.hid hg
  have HC := Lib.hid hc
  have HXN := Lib.hid hxn
  have kl0 : decide ((N : Int) < 1) = false := decide_eq_false (by omega)
  have kl1 : decide ((N : Int) > 64) = false := decide_eq_false (by omega)
  have kl2 : decide ((n : Int) > 150) = false := decide_eq_false (by omega)
  have kl3 : decide ((64 : Int) < (N : Int)) = false := kl1
  have HP := Lib.hid (show HasP 2 (N : Int) from ⟨by omega, by omega⟩)
  clear h hg hn hc hxn
  go_enter Try.func8, Try.ntmps8
  go_wp2_with fail
  have hP := Blk.new w 33 #[.int .i64 0, .int .i64 2, .int .i64 N, .slice none 0 0, .int .i64 0]
  have hL : Lo w.heap.size w (w.alloc (.cells #[.int .i64 0, .int .i64 2, .int .i64 N, .slice none 0 0, .int .i64 0] 33)) := ⟨(Below.refl _ w).alloc (Nat.le_refl _) _, by simp⟩
  obtain ⟨pb, hfb⟩ : ∃ pb, w.heap.size = pb := ⟨_, rfl⟩
  have HBS := Lib.hid (Nat.le_of_eq hfb)
  simp only [hfb] at hP hL ⊢
  generalize w.alloc (.cells #[.int .i64 0, .int .i64 2, .int .i64 N, .slice none 0 0, .int .i64 0] 33) = w1 at *
  have P0 := Lib.hid hP
  have L0 := Lib.hid hL
  clear hP hL hfb
  have ORD1 := Lib.hid (show pb = pb from by rfl)
  refine (New_in 70 (by decide) (by decide) w1).mono ?_; rintro e w2 ⟨rfl, hb, hl, hsz⟩
  have hb : BankAt w2 (w1.heap.size + 1) w1.heap.size (zeros 70) 0 := hb
  obtain ⟨rr, hrr⟩ : ∃ rr, w1.heap.size = rr := ⟨_, rfl⟩
  have hlt_pb : pb < rr := hrr ▸ P0.out.lt
  simp only [hrr] at hb ⊢
  obtain ⟨g, hg⟩ : ∃ g, rr + 1 = g := ⟨_, rfl⟩
  simp only [hg] at hb ⊢
  have ORD2 := Lib.hid (show pb = pb ∧ pb < rr ∧ rr + 1 = g from by have o_ := ORD1.out; omega)
  clear ORD1
  have ee : Ex (fun _ => False) w1 w2 := Ex.of_below hl
  have P3 := Lib.hid (P0.out.ex ee (fun h => h))
  have L3 := Lib.hid (L0.out.ex ee (fun k hk => hk.elim))
  have K3 := Lib.hid (hb)
  clear ee P0 L0 hb hl hsz hrr hg hlt_pb
  go_upto_region 8 with fail
  have hn := (show StRow (w2.alloc (.cells #[.int .i64 0, .int .i64 0, .bool false, .int .i64 0, .int .u64 0] 28)) w2.heap.size (.slice (some ⟨w2.heap.size, 0, none⟩) 1 1) [St.zero] from StRow.one w2 St.zero)
  obtain ⟨r0, hnb⟩ : ∃ r0, w2.heap.size = r0 := ⟨_, rfl⟩
  have hlt_pb : pb < r0 := hnb ▸ P3.out.lt
  have hlt_rr : rr < r0 := hnb ▸ K3.out.row.lt
  have hlt_g : g < r0 := hnb ▸ K3.out.head.lt
  simp only [hnb] at hn ⊢
  have ORD4 := Lib.hid (show pb = pb ∧ pb < rr ∧ rr + 1 = g ∧ pb < r0 ∧ rr < r0 ∧ g < r0 from by have o_ := ORD2.out; omega)
  clear ORD2
  have ee : Ex (fun _ => False) w2 (w2.alloc (.cells #[.int .i64 0, .int .i64 0, .bool false, .int .i64 0, .int .u64 0] 28)) := (Ex.refl _ w2).alloc (.cells #[.int .i64 0, .int .i64 0, .bool false, .int .i64 0, .int .u64 0] 28)
  have P5 := Lib.hid (P3.out.ex ee (fun h => h))
  have L5 := Lib.hid (L3.out.ex ee (fun k hk => hk.elim))
  have K5 := Lib.hid (K3.out.ex ee (fun h => h) (fun h => h))
  have R5 := Lib.hid (hn)
  clear ee P3 L3 K3 hn hnb hlt_pb hlt_rr hlt_g
  generalize w2.alloc (.cells #[.int .i64 0, .int .i64 0, .bool false, .int .i64 0, .int .u64 0] 28) = w4 at *
  go_wp2_with fail
  go_loopw [8, 9, 10, 11, 12, 13] (fun s8 s9 s10 s11 s12 s13 wr => ∃ (i : Nat) (al : List St) (nr : Nat) (A : Option Addr) (c : Nat), i ≤ n ∧ nr = i + 1 ∧ s9 = .int .i64 i ∧ s8 = .slice A nr c ∧ KpI w wr pb g rr i N al (.slice A nr c)) (fun s8 s9 s10 s11 s12 s13 _ => n - (intOf s9).toNat)
  case atStart => exact ⟨0, [St.zero], 1, _, _, by omega, rfl, rfl, rfl, ⟨P5.out, L5.out, ⟨_, K5.out, LieB.start _ (by have := HC.out; omega)⟩, ⟨r0, R5.out, by have o_ := ORD4.out; omega⟩, AllS.start, rfl⟩⟩
  case round =>
    clear P5 L5 K5 R5
    obtain ⟨i, al, nr, A, c, hi, hnr, rfl, rfl, hS⟩ := hrel
    obtain ⟨hP, hL, ⟨ws, hK, hlb⟩, ⟨r1, hR, hr1⟩, hal, hle⟩ := hS
    have P9 := Lib.hid hP
    have L9 := Lib.hid hL
    have K9 := Lib.hid hK
    have R9 := Lib.hid hR
    have HNR := Lib.hid hnr
    have LB := Lib.hid hlb
    have AL := Lib.hid hal
    have LE := Lib.hid hle
    have QQ := Lib.hid hr1
    clear hP hL hK hR hlb hal hle hr1
    have ORD41 := Lib.hid (show pb = pb ∧ pb < rr ∧ rr + 1 = g ∧ pb < r0 ∧ rr < r0 ∧ g < r0 ∧ g < r1 from by have o_ := ORD4.out; have := QQ.out; omega)
    clear ORD4
    clear QQ
    by_cases hlt : i < n
    · have kd : decide ((i : Int) < (n : Int)) = true := decide_eq_true (by omega)
      have ki0 : (0 : Int) ≤ (i : Int) := by omega
      have ki1 : (i : Int) < (n : Int) := by omega
      have ki2 : (i : Int) < (nr : Int) := by omega
      have kw : wrap64 ((nr : Int) - 1) = (i : Int) := by have := HC.out; unfold wrap64; omega
      have HI := Lib.hid hlt
      have HTN := Lib.hid (turn_num i n hlt (by have := HC.out; unfold maxLen; omega))
      obtain ⟨fb, fo, rfl, hfb, hcell⟩ := HG.out (by intro h; have := HXN.out; rw [h] at this; simp at this; omega)
      obtain ⟨fx, hfx⟩ : ∃ fx, nth xs i = fx := ⟨_, rfl⟩
      have hci := hcell i (by omega)
      rw [hfx] at hci
      have FX := Lib.hid hci
      have HFB := Lib.hid (show fb < pb from Nat.lt_of_lt_of_le hfb HBS.out)
      obtain ⟨hA, hcs⟩ := R9.out.cells (by rw [LE.out]; omega)
      subst hA
      obtain ⟨s, hs⟩ : ∃ s, al[i]? = some s := ⟨_, List.getElem?_eq_getElem (by rw [LE.out]; omega)⟩
      have SK := Lib.hid (AL.out.at_ i s hs)
      have SCE := Lib.hid (hcs i s hs)
      have SO := Lib.hid (SK.out.may (by have := HC.out; omega)).2
      clear hfb hcell hfx hci hcs hs hi hlt hnr
      go_upto_region 11 with fail
      have hne : Nonempty (Held (Below wr.heap.size wr)) := ⟨⟨wr, Below.refl _ _⟩⟩
      have p0 : ∀ y : Held (Below wr.heap.size wr), y.w.cell? ⟨r1, i * 5, none⟩ = some (.int .i64 s.mode) := fun y => (y.ok.cell (p := ⟨r1, i * 5, none⟩) R9.out.lt).trans SCE.out.1
      have p1 : ∀ y : Held (Below wr.heap.size wr), y.w.cell? ⟨r1, i * 5 + 1, none⟩ = some (.int .i64 s.source) := fun y => (y.ok.cell (p := ⟨r1, i * 5 + 1, none⟩) R9.out.lt).trans SCE.out.2.1
      have p2 : ∀ y : Held (Below wr.heap.size wr), y.w.cell? ⟨r1, i * 5 + 2, none⟩ = some (.bool s.hold) := fun y => (y.ok.cell (p := ⟨r1, i * 5 + 2, none⟩) R9.out.lt).trans SCE.out.2.2.1
      have p3 : ∀ y : Held (Below wr.heap.size wr), y.w.cell? ⟨r1, i * 5 + 3, none⟩ = some (.int .i64 s.flags) := fun y => (y.ok.cell (p := ⟨r1, i * 5 + 3, none⟩) R9.out.lt).trans SCE.out.2.2.2.1
      have p4 : ∀ y : Held (Below wr.heap.size wr), y.w.cell? ⟨r1, i * 5 + 4, none⟩ = some (.int .u64 s.epoch) := fun y => (y.ok.cell (p := ⟨r1, i * 5 + 4, none⟩) R9.out.lt).trans SCE.out.2.2.2.2
      have p9 : ∀ y : Held (Below wr.heap.size wr), y.w.cell? ⟨fb, fo + i, none⟩ = some (.int .i64 fx) := fun y => (((L9.out.low.trans (y.ok.mono L9.out.le)).cell (p := ⟨fb, fo + i, none⟩) HFB.out)).trans FX.out
      obtain ⟨fv, hfv⟩ : ∃ fv, bits .and .i64 fx 63 = fv := ⟨_, rfl⟩
      have hf63 := and63 fx
      rw [hfv] at hf63
      obtain ⟨he0, hu⟩ := health_AtK SK.out (by have := HC.out; omega) hf63
      have HHT := Lib.hid (fun W => Health_any s SO.out fv W)
      rw [he0] at HHT
      obtain ⟨u, hue⟩ : ∃ u, healthS s fv = u := ⟨_, rfl⟩
      rw [hue] at HHT hu
      unfold St.val at HHT
      have UK := Lib.hid hu
      have HFV := Lib.hid hfv
      clear hf63 he0 hue hu
      refine drawn_sch (S := (Below wr.heap.size wr)) [] (.two [0, 1, 2, 3, 4, 5, 6, 7, 8, 9, 10] 11 (.bar [12, 13, 14] 15 (.bar [] 16 (.fin [17]))) 15 (.bar [] 11 (.bar [12, 13, 14] 16 (.fin [17])))) (by kernel_rfl) (by kernel_rfl) (by kernel_rfl) rfl (Below.refl _ _).drew ?_
      refine PhasedC.two_ ?_
      simp only [pick, List.map_cons, List.map_nil, List.getElem?_cons_zero, List.getElem?_cons_succ, Option.getD_some]
      repeat (go_big_quiet_step (fail))
      refine wpQuiet_nil ?_
      clear p0 p1 p2 p3 p4 p9
      try simp only [hfv]
      refine ⟨?_, ?_⟩
      · go_wp2_with fail
        refine (HHT.out wr.drew).mono ?_; rintro e w7 ⟨rfl, hb⟩
        have hb2 := bl (Below.refl wr.heap.size wr).drew hb
        clear hb
        go_wp2_with fail
        refine behind_normal ⟨(Below wr.heap.size wr), fun W h => h, by first | exact hb2 | exact fun _ => hb2, ?_⟩
        refine PhasedC.bar_ ?_
        simp only [pick, List.map_cons, List.map_nil, List.getElem?_cons_zero, List.getElem?_cons_succ, Option.getD_some]
        repeat (go_big_quiet_step (fail))
        refine wpQuiet_nil ?_
        go_wp2_with fail
        have LA := Lib.hid (hb2.alloc hb2.size (.cells #[.int .i64 0, .int .i64 0, .bool false, .int .i64 0, .int .u64 0] 28))
        refine behind_normal ⟨(Below wr.heap.size wr), fun W h => h, by first | exact LA.out | exact fun _ => LA.out, ?_⟩
        refine PhasedC.bar_ ?_
        simp only [pick, List.map_cons, List.map_nil, List.getElem?_cons_zero, List.getElem?_cons_succ, Option.getD_some]
        repeat (go_big_quiet_step (fail))
        refine wpQuiet_nil ?_
        go_wp2_with fail
        have LU := Lib.hid (hb2.alloc hb2.size (.cells #[.int .i64 u.mode, .int .i64 u.source, .bool u.hold, .int .i64 u.flags, .int .u64 u.epoch] 28))
        refine behind_normal ⟨(Below wr.heap.size wr), fun W h => h, by first | exact LU.out | exact fun _ => LU.out, ?_⟩
        refine PhasedC.fin_ ?_
        simp only [pick, List.map_cons, List.map_nil, List.getElem?_cons_zero, List.getElem?_cons_succ, Option.getD_some]
        repeat (go_big_quiet_step (fail))
        refine wpQuiet_nil ?_
        have hsn := Blk.new w7 28 #[.int .i64 u.mode, .int .i64 u.source, .bool u.hold, .int .i64 u.flags, .int .u64 u.epoch]
        obtain ⟨sb, hsb, hsz⟩ : ∃ sb, w7.heap.size = sb ∧ wr.heap.size ≤ sb := ⟨_, rfl, hb2.size⟩
        simp only [hsb] at hsn ⊢
        generalize w7.alloc (.cells #[.int .i64 u.mode, .int .i64 u.source, .bool u.hold, .int .i64 u.flags, .int .u64 u.epoch] 28) = wE at *
        clear LA hb2 hsb
        have UO := Lib.hid (UK.out.may (by have := HC.out; omega))
        have hlt_pb : pb < sb := Nat.lt_of_lt_of_le P9.out.lt hsz
        have hlt_rr : rr < sb := Nat.lt_of_lt_of_le K9.out.row.lt hsz
        have hlt_g : g < sb := Nat.lt_of_lt_of_le K9.out.head.lt hsz
        have hlt_r1 : r1 < sb := Nat.lt_of_lt_of_le R9.out.lt hsz
        have ORD42 := Lib.hid (show pb = pb ∧ pb < rr ∧ rr + 1 = g ∧ pb < r0 ∧ rr < r0 ∧ g < r0 ∧ g < r1 ∧ pb < sb ∧ rr < sb ∧ g < sb ∧ r1 < sb from by have o_ := ORD41.out; omega)
        clear ORD41
        have ee : Ex (fun _ => False) wr wE := Ex.of_below LU.out
        have P43 := Lib.hid (P9.out.ex ee (fun h => h))
        have L43 := Lib.hid (L9.out.ex ee (fun k hk => hk.elim))
        have K43 := Lib.hid (K9.out.ex ee (fun h => h) (fun h => h))
        have R43 := Lib.hid (R9.out.ex ee (fun h => h))
        have S43 := Lib.hid (hsn)
        clear ee P9 L9 K9 R9 LU hsn hsz hlt_pb hlt_rr hlt_g hlt_r1
        have Pq0 := P43.out.cell 0
        have Pq1 := P43.out.cell 1
        have Pq2 := P43.out.cell 2
        have Pq3 := P43.out.cell 3
        have Pq4 := P43.out.cell 4
        simp only [List.getElem?_toArray, List.getElem?_cons_succ, List.getElem?_cons_zero] at Pq0 Pq1 Pq2 Pq3 Pq4
        have Sq0 := S43.out.cell 0
        have Sq1 := S43.out.cell 1
        have Sq2 := S43.out.cell 2
        have Sq3 := S43.out.cell 3
        have Sq4 := S43.out.cell 4
        simp only [List.getElem?_toArray, List.getElem?_cons_succ, List.getElem?_cons_zero] at Sq0 Sq1 Sq2 Sq3 Sq4
        go_wp2_with fail
        clear Pq0 Pq1 Pq2 Pq3 Pq4 Sq0 Sq1 Sq2 Sq3 Sq4
        have HW := Lib.hid (Write_in 2 N u UO.out.2 UO.out.1 HP.out wE)
        rw [show u.val = .agg #[.int .i64 u.mode, .int .i64 u.source, .bool u.hold, .int .i64 u.flags, .int .u64 u.epoch] from rfl] at HW
        refine HW.out.mono ?_; rintro e w8 ⟨ow, rfl, ha, hs, hb⟩
        clear HW
        have hlt_pb : pb < ow := Nat.lt_of_lt_of_le P43.out.lt hs
        have hlt_rr : rr < ow := Nat.lt_of_lt_of_le K43.out.row.lt hs
        have hlt_g : g < ow := Nat.lt_of_lt_of_le K43.out.head.lt hs
        have hlt_r1 : r1 < ow := Nat.lt_of_lt_of_le R43.out.lt hs
        have hlt_sb : sb < ow := Nat.lt_of_lt_of_le S43.out.lt hs
        have ORD44 := Lib.hid (show pb = pb ∧ pb < rr ∧ rr + 1 = g ∧ pb < r0 ∧ rr < r0 ∧ g < r0 ∧ g < r1 ∧ pb < sb ∧ rr < sb ∧ g < sb ∧ r1 < sb ∧ pb < ow ∧ rr < ow ∧ g < ow ∧ r1 < ow ∧ sb < ow from by have o_ := ORD42.out; omega)
        clear ORD42
        have ee : Ex (fun _ => False) wE w8 := Ex.of_below hb
        have P45 := Lib.hid (P43.out.ex ee (fun h => h))
        have L45 := Lib.hid (L43.out.ex ee (fun k hk => hk.elim))
        have K45 := Lib.hid (K43.out.ex ee (fun h => h) (fun h => h))
        have R45 := Lib.hid (R43.out.ex ee (fun h => h))
        have S45 := Lib.hid (S43.out.ex ee (fun h => h))
        have Aw45 := Lib.hid (ha)
        clear ee P43 L43 K43 R43 S43 ha hs hb hlt_pb hlt_rr hlt_g hlt_r1 hlt_sb
        go_wp2_with fail
        have EN := Lib.hid (show entF 2 (N : Int) u.epoch = 2 + (((i + 1) % N : Nat) : Int) from by rw [entF_ok HP.out, UK.out.2.2.2.2]; omega)
        have HMD := Lib.hid (show (i + 1) % N < N from Nat.mod_lt _ (by have := HC.out; omega))
        have HIN := Lib.hid (show inW ws (entF 2 (N : Int) u.epoch) from by rw [EN.out]; exact ⟨by omega, by rw [LB.out.len]; have := HMD.out; have := HC.out; omega⟩)
        refine (S_win g rr ow ow ws i 2 N 0 (wordI u) u [] w8 Aw45.out K45.out (by have o_ := ORD44.out; omega) UO.out.2 (wordI_range (mayE_zero.1 UO.out.1).1 UO.out.2) HIN.out).mono ?_; rintro e w9 ⟨rfl, hb1, _, hx⟩
        rw [setF_in HIN.out, tickF_in HIN.out, i64_tick (by have := HC.out; have := HI.out; omega)] at hb1
        rw [show (entF 2 (N : Int) u.epoch).toNat = 2 + (i + 1) % N from by rw [EN.out]; omega] at hb1
        have ee : Ex (fun k => k = g ∨ k = rr ∨ k = ow) w8 w9 := hx.mono (fun k hk => by rcases hk with h | h | h | h <;> simp [h])
        have P46 := Lib.hid (P45.out.ex ee (by have o_ := ORD44.out; omega))
        have L46 := Lib.hid (L45.out.ex ee (fun k hk => by have o_ := ORD44.out; have hk : k = g ∨ k = rr ∨ k = ow := hk; omega))
        have R46 := Lib.hid (R45.out.ex ee (by have o_ := ORD44.out; omega))
        have S46 := Lib.hid (S45.out.ex ee (by have o_ := ORD44.out; omega))
        have K46 := Lib.hid (hb1)
        clear ee P45 L45 K45 R45 S45 hb1 hx Aw45
        have Sq0 := S46.out.cell 0
        have Sq1 := S46.out.cell 1
        have Sq2 := S46.out.cell 2
        have Sq3 := S46.out.cell 3
        have Sq4 := S46.out.cell 4
        simp only [List.getElem?_toArray, List.getElem?_cons_succ, List.getElem?_cons_zero] at Sq0 Sq1 Sq2 Sq3 Sq4
        go_upto_region 15 with fail
        obtain ⟨i0, hi0, hz0, hz1, hz2⟩ := info_parts st_info
        have H200 := Lib.hid (show nr ≤ 200 by have := HC.out; have := HNR.out; have := HI.out; omega)
        go_wp2_with (at_builtin; refine wpList_append_own_at _ rfl _ _ 22 rfl 0 28 i0 (.agg #[.int .i64 0, .int .i64 0, .bool false, .int .i64 0, .int .u64 0]) 5 40 Try.underlying22 hi0 hz0 hz1 hz2 rfl (by decide) _ _ _ rfl (World.ownsRow.alloc (R46.out.rowN (by rw [LE.out, HNR.out])) _) ⟨w9.heap.size, 0, none⟩ 1 1 (encS u) rfl rfl ?c1 ?c2 ?c3 ?c4 ?c5 ?_)
        case c1 =>
          have hbn := Blk.new w9 28 #[.int .i64 u.mode, .int .i64 u.source, .bool u.hold, .int .i64 u.flags, .int .u64 u.epoch]
          intro j u9 hj
          match j, hj with
          | 0, hj => simp [encS] at hj; subst hj; exact hbn.cell 0
          | 1, hj => simp [encS] at hj; subst hj; exact hbn.cell 1
          | 2, hj => simp [encS] at hj; subst hj; exact hbn.cell 2
          | 3, hj => simp [encS] at hj; subst hj; exact hbn.cell 3
          | 4, hj => simp [encS] at hj; subst hj; exact hbn.cell 4
        case c2 => exact encS_one u
        case c3 => have h1 := H200.out; unfold maxLen; omega
        case c4 => have h1 := H200.out; omega
        case c5 => exact Nat.zero_le _
        intro v' w10 hown' hgrow _ hat
        obtain ⟨A2, c2, rq2, rfl, hR, hrq, hx⟩ := strow_push R46.out (by rw [LE.out, HNR.out]) hown' hgrow hat
        clear hown' hgrow hat i0 hi0 hz0 hz1 hz2
        clear Sq0 Sq1 Sq2 Sq3 Sq4
        have ORD47 := Lib.hid (show pb = pb ∧ pb < rr ∧ rr + 1 = g ∧ pb < r0 ∧ rr < r0 ∧ g < r0 ∧ g < r1 ∧ pb < sb ∧ rr < sb ∧ g < sb ∧ r1 < sb ∧ pb < ow ∧ rr < ow ∧ g < ow ∧ r1 < ow ∧ sb < ow ∧ (rq2 = r1 ∨ rq2 > g) from by have o_ := ORD44.out; have h1 := K46.out.head.lt; omega)
        clear ORD44
        have ee : Ex (fun k => k = r1) w9 w10 := hx
        have P48 := Lib.hid (P46.out.ex ee (by have o_ := ORD47.out; omega))
        have L48 := Lib.hid (L46.out.ex ee (fun k hk => by have o_ := ORD47.out; have hk : k = r1 := hk; omega))
        have K48 := Lib.hid (K46.out.ex ee (by have o_ := ORD47.out; omega) (by have o_ := ORD47.out; omega))
        have S48 := Lib.hid (S46.out.ex ee (by have o_ := ORD47.out; omega))
        have R48 := Lib.hid (hR)
        clear ee P46 L46 K46 R46 S46 hR hx hrq
        have LB2 := Lib.hid (LB.out.push (s := u) (by have := HC.out; omega) LE.out)
        have AL2 := Lib.hid (AL.out.push (s := u) (by rw [LE.out]; exact UK.out) (by rw [LE.out]; have := HC.out; have := HI.out; omega))
        have LE2 := Lib.hid (show (al ++ [u]).length = i + 1 + 1 by rw [List.length_append, LE.out]; rfl)
        go_wp2_with fail
        go_roundw
        case rel => exact ⟨i + 1, al ++ [u], nr + 1, A2, c2, HI.out, by have := HNR.out; omega, HTN.out.1, rfl, ⟨P48.out, L48.out, ⟨_, K48.out, LB2.out⟩, ⟨rq2, R48.out, by have o_ := ORD47.out; omega⟩, AL2.out, LE2.out⟩⟩
        case measure => exact HTN.out.2
      · go_wp2_with fail
        have hE0 : Below wr.heap.size wr (wr.alloc (.cells #[.int .i64 0, .int .i64 0, .bool false, .int .i64 0, .int .u64 0] 28)).drew := ((Below.refl wr.heap.size wr).alloc (Nat.le_refl _) (.cells #[.int .i64 0, .int .i64 0, .bool false, .int .i64 0, .int .u64 0] 28)).drew
        have hz : Blk (wr.alloc (.cells #[.int .i64 0, .int .i64 0, .bool false, .int .i64 0, .int .u64 0] 28)).drew wr.heap.size 28 #[.int .i64 0, .int .i64 0, .bool false, .int .i64 0, .int .u64 0] := Blk.new wr 28 #[.int .i64 0, .int .i64 0, .bool false, .int .i64 0, .int .u64 0]
        refine behind_normal ⟨(Below wr.heap.size wr), fun W h => h, by first | exact hE0 | exact fun _ => hE0, ?_⟩
        refine PhasedC.bar_ ?_
        simp only [pick, List.map_cons, List.map_nil, List.getElem?_cons_zero, List.getElem?_cons_succ, Option.getD_some]
        repeat (go_big_quiet_step (fail))
        refine wpQuiet_nil ?_
        generalize hw7 : (wr.alloc (.cells #[.int .i64 0, .int .i64 0, .bool false, .int .i64 0, .int .u64 0] 28)).drew = w7 at *
        clear hw7
        go_wp2_with fail
        refine (HHT.out w7).mono ?_; rintro e w8 ⟨rfl, hb⟩
        have hb2 := bl hE0 hb
        have hz8 := hz.bl hb
        clear hb hz hE0
        go_wp2_with fail
        refine behind_normal ⟨(Below wr.heap.size wr), fun W h => h, by first | exact hb2 | exact fun _ => hb2, ?_⟩
        refine PhasedC.bar_ ?_
        simp only [pick, List.map_cons, List.map_nil, List.getElem?_cons_zero, List.getElem?_cons_succ, Option.getD_some]
        repeat (go_big_quiet_step (fail))
        refine wpQuiet_nil ?_
        have z0 := hz8.cell 0
        have z1 := hz8.cell 1
        have z2 := hz8.cell 2
        have z3 := hz8.cell 3
        have z4 := hz8.cell 4
        simp only [List.getElem?_toArray, List.getElem?_cons_succ, List.getElem?_cons_zero] at z0 z1 z2 z3 z4
        have y0 := hz8.frozen 0
        have y1 := hz8.frozen 1
        have y2 := hz8.frozen 2
        have y3 := hz8.frozen 3
        have y4 := hz8.frozen 4
        go_wp2_with fail
        clear z0 z1 z2 z3 z4 y0 y1 y2 y3 y4
        have hsn := set5_blk (x0 := .int .i64 u.mode) (x1 := .int .i64 u.source) (x2 := .bool u.hold) (x3 := .int .i64 u.flags) (x4 := .int .u64 u.epoch) hz8
        have LU0 : Below wr.heap.size wr (((((w8.setCell ⟨wr.heap.size, 0, none⟩ (.int .i64 u.mode)).setCell ⟨wr.heap.size, 1, none⟩ (.int .i64 u.source)).setCell ⟨wr.heap.size, 2, none⟩ (.bool u.hold)).setCell ⟨wr.heap.size, 3, none⟩ (.int .i64 u.flags)).setCell ⟨wr.heap.size, 4, none⟩ (.int .u64 u.epoch)) := Ex.below hb2 ((((((Ex.refl (fun k => k = wr.heap.size) w8).setCell (q := ⟨wr.heap.size, 0, none⟩) (.inl rfl) (.int .i64 u.mode)).setCell (q := ⟨wr.heap.size, 1, none⟩) (.inl rfl) (.int .i64 u.source)).setCell (q := ⟨wr.heap.size, 2, none⟩) (.inl rfl) (.bool u.hold)).setCell (q := ⟨wr.heap.size, 3, none⟩) (.inl rfl) (.int .i64 u.flags)).setCell (q := ⟨wr.heap.size, 4, none⟩) (.inl rfl) (.int .u64 u.epoch)) (fun k hk => by have hk : k = wr.heap.size := hk; omega)
        generalize (((((w8.setCell ⟨wr.heap.size, 0, none⟩ (.int .i64 u.mode)).setCell ⟨wr.heap.size, 1, none⟩ (.int .i64 u.source)).setCell ⟨wr.heap.size, 2, none⟩ (.bool u.hold)).setCell ⟨wr.heap.size, 3, none⟩ (.int .i64 u.flags)).setCell ⟨wr.heap.size, 4, none⟩ (.int .u64 u.epoch)) = wE at *
        have LU := Lib.hid LU0
        refine behind_normal ⟨(Below wr.heap.size wr), fun W h => h, by first | exact LU.out | exact fun _ => LU.out, ?_⟩
        refine PhasedC.fin_ ?_
        simp only [pick, List.map_cons, List.map_nil, List.getElem?_cons_zero, List.getElem?_cons_succ, Option.getD_some]
        repeat (go_big_quiet_step (fail))
        refine wpQuiet_nil ?_
        obtain ⟨sb, hsb, hsz⟩ : ∃ sb, wr.heap.size = sb ∧ wr.heap.size ≤ sb := ⟨_, rfl, Nat.le_refl _⟩
        rw [hsb] at hsn
        simp only [hsb]
        clear hz8 hb2 LU0 hsb
        have UO := Lib.hid (UK.out.may (by have := HC.out; omega))
        have hlt_pb : pb < sb := Nat.lt_of_lt_of_le P9.out.lt hsz
        have hlt_rr : rr < sb := Nat.lt_of_lt_of_le K9.out.row.lt hsz
        have hlt_g : g < sb := Nat.lt_of_lt_of_le K9.out.head.lt hsz
        have hlt_r1 : r1 < sb := Nat.lt_of_lt_of_le R9.out.lt hsz
        have ORD42 := Lib.hid (show pb = pb ∧ pb < rr ∧ rr + 1 = g ∧ pb < r0 ∧ rr < r0 ∧ g < r0 ∧ g < r1 ∧ pb < sb ∧ rr < sb ∧ g < sb ∧ r1 < sb from by have o_ := ORD41.out; omega)
        clear ORD41
        have ee : Ex (fun _ => False) wr wE := Ex.of_below LU.out
        have P43 := Lib.hid (P9.out.ex ee (fun h => h))
        have L43 := Lib.hid (L9.out.ex ee (fun k hk => hk.elim))
        have K43 := Lib.hid (K9.out.ex ee (fun h => h) (fun h => h))
        have R43 := Lib.hid (R9.out.ex ee (fun h => h))
        have S43 := Lib.hid (hsn)
        clear ee P9 L9 K9 R9 LU hsn hsz hlt_pb hlt_rr hlt_g hlt_r1
        have Pq0 := P43.out.cell 0
        have Pq1 := P43.out.cell 1
        have Pq2 := P43.out.cell 2
        have Pq3 := P43.out.cell 3
        have Pq4 := P43.out.cell 4
        simp only [List.getElem?_toArray, List.getElem?_cons_succ, List.getElem?_cons_zero] at Pq0 Pq1 Pq2 Pq3 Pq4
        have Sq0 := S43.out.cell 0
        have Sq1 := S43.out.cell 1
        have Sq2 := S43.out.cell 2
        have Sq3 := S43.out.cell 3
        have Sq4 := S43.out.cell 4
        simp only [List.getElem?_toArray, List.getElem?_cons_succ, List.getElem?_cons_zero] at Sq0 Sq1 Sq2 Sq3 Sq4
        go_wp2_with fail
        clear Pq0 Pq1 Pq2 Pq3 Pq4 Sq0 Sq1 Sq2 Sq3 Sq4
        have HW := Lib.hid (Write_in 2 N u UO.out.2 UO.out.1 HP.out wE)
        rw [show u.val = .agg #[.int .i64 u.mode, .int .i64 u.source, .bool u.hold, .int .i64 u.flags, .int .u64 u.epoch] from rfl] at HW
        refine HW.out.mono ?_; rintro e w8 ⟨ow, rfl, ha, hs, hb⟩
        clear HW
        have hlt_pb : pb < ow := Nat.lt_of_lt_of_le P43.out.lt hs
        have hlt_rr : rr < ow := Nat.lt_of_lt_of_le K43.out.row.lt hs
        have hlt_g : g < ow := Nat.lt_of_lt_of_le K43.out.head.lt hs
        have hlt_r1 : r1 < ow := Nat.lt_of_lt_of_le R43.out.lt hs
        have hlt_sb : sb < ow := Nat.lt_of_lt_of_le S43.out.lt hs
        have ORD44 := Lib.hid (show pb = pb ∧ pb < rr ∧ rr + 1 = g ∧ pb < r0 ∧ rr < r0 ∧ g < r0 ∧ g < r1 ∧ pb < sb ∧ rr < sb ∧ g < sb ∧ r1 < sb ∧ pb < ow ∧ rr < ow ∧ g < ow ∧ r1 < ow ∧ sb < ow from by have o_ := ORD42.out; omega)
        clear ORD42
        have ee : Ex (fun _ => False) wE w8 := Ex.of_below hb
        have P45 := Lib.hid (P43.out.ex ee (fun h => h))
        have L45 := Lib.hid (L43.out.ex ee (fun k hk => hk.elim))
        have K45 := Lib.hid (K43.out.ex ee (fun h => h) (fun h => h))
        have R45 := Lib.hid (R43.out.ex ee (fun h => h))
        have S45 := Lib.hid (S43.out.ex ee (fun h => h))
        have Aw45 := Lib.hid (ha)
        clear ee P43 L43 K43 R43 S43 ha hs hb hlt_pb hlt_rr hlt_g hlt_r1 hlt_sb
        go_wp2_with fail
        have EN := Lib.hid (show entF 2 (N : Int) u.epoch = 2 + (((i + 1) % N : Nat) : Int) from by rw [entF_ok HP.out, UK.out.2.2.2.2]; omega)
        have HMD := Lib.hid (show (i + 1) % N < N from Nat.mod_lt _ (by have := HC.out; omega))
        have HIN := Lib.hid (show inW ws (entF 2 (N : Int) u.epoch) from by rw [EN.out]; exact ⟨by omega, by rw [LB.out.len]; have := HMD.out; have := HC.out; omega⟩)
        refine (S_win g rr ow ow ws i 2 N 0 (wordI u) u [] w8 Aw45.out K45.out (by have o_ := ORD44.out; omega) UO.out.2 (wordI_range (mayE_zero.1 UO.out.1).1 UO.out.2) HIN.out).mono ?_; rintro e w9 ⟨rfl, hb1, _, hx⟩
        rw [setF_in HIN.out, tickF_in HIN.out, i64_tick (by have := HC.out; have := HI.out; omega)] at hb1
        rw [show (entF 2 (N : Int) u.epoch).toNat = 2 + (i + 1) % N from by rw [EN.out]; omega] at hb1
        have ee : Ex (fun k => k = g ∨ k = rr ∨ k = ow) w8 w9 := hx.mono (fun k hk => by rcases hk with h | h | h | h <;> simp [h])
        have P46 := Lib.hid (P45.out.ex ee (by have o_ := ORD44.out; omega))
        have L46 := Lib.hid (L45.out.ex ee (fun k hk => by have o_ := ORD44.out; have hk : k = g ∨ k = rr ∨ k = ow := hk; omega))
        have R46 := Lib.hid (R45.out.ex ee (by have o_ := ORD44.out; omega))
        have S46 := Lib.hid (S45.out.ex ee (by have o_ := ORD44.out; omega))
        have K46 := Lib.hid (hb1)
        clear ee P45 L45 K45 R45 S45 hb1 hx Aw45
        have Sq0 := S46.out.cell 0
        have Sq1 := S46.out.cell 1
        have Sq2 := S46.out.cell 2
        have Sq3 := S46.out.cell 3
        have Sq4 := S46.out.cell 4
        simp only [List.getElem?_toArray, List.getElem?_cons_succ, List.getElem?_cons_zero] at Sq0 Sq1 Sq2 Sq3 Sq4
        go_upto_region 15 with fail
        obtain ⟨i0, hi0, hz0, hz1, hz2⟩ := info_parts st_info
        have H200 := Lib.hid (show nr ≤ 200 by have := HC.out; have := HNR.out; have := HI.out; omega)
        go_wp2_with (at_builtin; refine wpList_append_own_at _ rfl _ _ 22 rfl 0 28 i0 (.agg #[.int .i64 0, .int .i64 0, .bool false, .int .i64 0, .int .u64 0]) 5 40 Try.underlying22 hi0 hz0 hz1 hz2 rfl (by decide) _ _ _ rfl (World.ownsRow.alloc (R46.out.rowN (by rw [LE.out, HNR.out])) _) ⟨w9.heap.size, 0, none⟩ 1 1 (encS u) rfl rfl ?c1 ?c2 ?c3 ?c4 ?c5 ?_)
        case c1 =>
          have hbn := Blk.new w9 28 #[.int .i64 u.mode, .int .i64 u.source, .bool u.hold, .int .i64 u.flags, .int .u64 u.epoch]
          intro j u9 hj
          match j, hj with
          | 0, hj => simp [encS] at hj; subst hj; exact hbn.cell 0
          | 1, hj => simp [encS] at hj; subst hj; exact hbn.cell 1
          | 2, hj => simp [encS] at hj; subst hj; exact hbn.cell 2
          | 3, hj => simp [encS] at hj; subst hj; exact hbn.cell 3
          | 4, hj => simp [encS] at hj; subst hj; exact hbn.cell 4
        case c2 => exact encS_one u
        case c3 => have h1 := H200.out; unfold maxLen; omega
        case c4 => have h1 := H200.out; omega
        case c5 => exact Nat.zero_le _
        intro v' w10 hown' hgrow _ hat
        obtain ⟨A2, c2, rq2, rfl, hR, hrq, hx⟩ := strow_push R46.out (by rw [LE.out, HNR.out]) hown' hgrow hat
        clear hown' hgrow hat i0 hi0 hz0 hz1 hz2
        clear Sq0 Sq1 Sq2 Sq3 Sq4
        have ORD47 := Lib.hid (show pb = pb ∧ pb < rr ∧ rr + 1 = g ∧ pb < r0 ∧ rr < r0 ∧ g < r0 ∧ g < r1 ∧ pb < sb ∧ rr < sb ∧ g < sb ∧ r1 < sb ∧ pb < ow ∧ rr < ow ∧ g < ow ∧ r1 < ow ∧ sb < ow ∧ (rq2 = r1 ∨ rq2 > g) from by have o_ := ORD44.out; have h1 := K46.out.head.lt; omega)
        clear ORD44
        have ee : Ex (fun k => k = r1) w9 w10 := hx
        have P48 := Lib.hid (P46.out.ex ee (by have o_ := ORD47.out; omega))
        have L48 := Lib.hid (L46.out.ex ee (fun k hk => by have o_ := ORD47.out; have hk : k = r1 := hk; omega))
        have K48 := Lib.hid (K46.out.ex ee (by have o_ := ORD47.out; omega) (by have o_ := ORD47.out; omega))
        have S48 := Lib.hid (S46.out.ex ee (by have o_ := ORD47.out; omega))
        have R48 := Lib.hid (hR)
        clear ee P46 L46 K46 R46 S46 hR hx hrq
        have LB2 := Lib.hid (LB.out.push (s := u) (by have := HC.out; omega) LE.out)
        have AL2 := Lib.hid (AL.out.push (s := u) (by rw [LE.out]; exact UK.out) (by rw [LE.out]; have := HC.out; have := HI.out; omega))
        have LE2 := Lib.hid (show (al ++ [u]).length = i + 1 + 1 by rw [List.length_append, LE.out]; rfl)
        go_wp2_with fail
        go_roundw
        case rel => exact ⟨i + 1, al ++ [u], nr + 1, A2, c2, HI.out, by have := HNR.out; omega, HTN.out.1, rfl, ⟨P48.out, L48.out, ⟨_, K48.out, LB2.out⟩, ⟨rq2, R48.out, by have o_ := ORD47.out; omega⟩, AL2.out, LE2.out⟩⟩
        case measure => exact HTN.out.2
    · obtain rfl : i = n := by omega
      have kd : decide ((i : Int) < (i : Int)) = false := decide_eq_false (by omega)
      obtain ⟨fr, hfr⟩ : ∃ fr, nr - N = fr := ⟨_, rfl⟩
      have HFR := Lib.hid hfr
      have hsort := keeps_list (N := N) AL.out (by have := HC.out; omega) LE.out LB.out
      rw [show i + 1 - N = fr by omega] at hsort
      have HSRT := Lib.hid hsort
      have kfw : decide (wrap64 ((nr : Int) - (N : Int)) < 0) = decide ((nr : Int) < (N : Int)) := by
        rw [wrap64_in _ (by have := HC.out; omega)]
        congr 1
        exact propext (by omega)
      have HFN := Lib.hid (show fr < nr ∧ nr = i + 1 by have := HC.out; omega)
      clear hsort hfr
      by_cases hsm : (nr : Int) < (N : Int)
      · rw [decide_eq_true hsm] at kfw
        obtain rfl : fr = 0 := by have := HFR.out; omega
        clear hsm hnr hi
        have Pq0 := P9.out.cell 0
        have Pq1 := P9.out.cell 1
        have Pq2 := P9.out.cell 2
        have Pq3 := P9.out.cell 3
        have Pq4 := P9.out.cell 4
        simp only [List.getElem?_toArray, List.getElem?_cons_succ, List.getElem?_cons_zero] at Pq0 Pq1 Pq2 Pq3 Pq4
        go_wp2_with fail
        clear Pq0 Pq1 Pq2 Pq3 Pq4
        refine (Read_in 2 N HP.out wr).mono ?_; rintro e w5 ⟨oq, rfl, ha, hs, hb⟩
        have hlt_pb : pb < oq := Nat.lt_of_lt_of_le P9.out.lt hs
        have hlt_rr : rr < oq := Nat.lt_of_lt_of_le K9.out.row.lt hs
        have hlt_g : g < oq := Nat.lt_of_lt_of_le K9.out.head.lt hs
        have hlt_r1 : r1 < oq := Nat.lt_of_lt_of_le R9.out.lt hs
        have ORD42 := Lib.hid (show pb = pb ∧ pb < rr ∧ rr + 1 = g ∧ pb < r0 ∧ rr < r0 ∧ g < r0 ∧ g < r1 ∧ pb < oq ∧ rr < oq ∧ g < oq ∧ r1 < oq from by have o_ := ORD41.out; omega)
        clear ORD41
        have ee : Ex (fun _ => False) wr w5 := Ex.of_below hb
        have P43 := Lib.hid (P9.out.ex ee (fun h => h))
        have L43 := Lib.hid (L9.out.ex ee (fun k hk => hk.elim))
        have K43 := Lib.hid (K9.out.ex ee (fun h => h) (fun h => h))
        have R43 := Lib.hid (R9.out.ex ee (fun h => h))
        have Aq43 := Lib.hid (ha)
        clear ee P9 L9 K9 R9 ha hs hb hlt_pb hlt_rr hlt_g hlt_r1
        go_wp2_with fail
        go_loopw [16] (fun s16 wr2 => ∃ (j : Nat) (qq : Nat), j + 1 ≤ N ∧ s16 = .int .i64 j ∧ RdAt wr2 oq qq 2 N (rdN 2 ws j) 0 ∧ BankAt wr2 g rr ws ((i + j : Nat) : Int) ∧ oq ≤ qq ∧ Lo pb w wr2 ∧ StRow wr2 r1 (.slice A nr c) al) (fun s16 _ => N - (intOf s16).toNat)
        case atStart => exact ⟨0, oq, by have := HC.out; omega, rfl, RdAt.start Aq43.out, K43.out, Nat.le_refl _, L43.out, R43.out⟩
        case round =>
          clear P43 L43 K43 R43 Aq43
          obtain ⟨j, qq, hj, rfl, hA, hK, hqq, hL, hR⟩ := hrel
          have A9 := Lib.hid hA
          have K9 := Lib.hid hK
          have L9 := Lib.hid hL
          have R9 := Lib.hid hR
          have QQ := Lib.hid hqq
          clear hA hK hL hR hqq
          have ORD81 := Lib.hid (show pb = pb ∧ pb < rr ∧ rr + 1 = g ∧ pb < r0 ∧ rr < r0 ∧ g < r0 ∧ g < r1 ∧ pb < oq ∧ rr < oq ∧ g < oq ∧ r1 < oq ∧ oq ≤ qq from by have o_ := ORD42.out; have := QQ.out; omega)
          clear ORD42
          clear QQ
          have kn1 : wrap64 ((N : Int) - 1) = (N : Int) - 1 := wrap64_in _ (by have := HC.out; omega)
          have HJ := Lib.hid hj
          have HIN := Lib.hid (show inW ws (2 + (j : Int)) from ⟨by omega, by rw [LB.out.len]; have := HC.out; omega⟩)
          by_cases hjl : (j : Int) < (N : Int) - 1
          · have kd2 : decide ((j : Int) < (N : Int) - 1) = true := decide_eq_true hjl
            have HJL := Lib.hid hjl
            have HTN := Lib.hid (turn_num j N (by omega) (by have := HC.out; unfold maxLen; omega))
            clear hj hjl
            go_wp2_with fail
            refine (RStep_busy g rr oq qq ws ((i + j : Nat) : Int) 2 N (rdN 2 ws j) wr A9.out K9.out (by have o_ := ORD81.out; omega) HP.out (by rw [rdN_len]; have := HJ.out; omega)).mono ?_; rintro e w6 ⟨rfl, hb1, ⟨q1, ha, hq⟩, hx⟩
            rw [rdN_next HIN.out, rdN_how HIN.out, if_pos (show (j : Int) + 1 < (N : Int) by have := HJL.out; omega)] at ha
            rw [rdN_how HIN.out, if_pos (show (j : Int) + 1 < (N : Int) by have := HJL.out; omega)]
            rw [rdN_len, tickF_in HIN.out, i64_tick (by have := HC.out; have := HJ.out; omega)] at hb1
            have ORD82 := Lib.hid (show pb = pb ∧ pb < rr ∧ rr + 1 = g ∧ pb < r0 ∧ rr < r0 ∧ g < r0 ∧ g < r1 ∧ pb < oq ∧ rr < oq ∧ g < oq ∧ r1 < oq ∧ oq ≤ qq ∧ (q1 = qq ∨ q1 > oq) from by have o_ := ORD81.out; have := A9.out.lt; omega)
            clear ORD81
            have ee : Ex (fun k => k = g ∨ k = rr ∨ k = oq ∨ k = qq) wr w6 := hx.mono (fun k hk => by rcases hk with h | h | h | h <;> simp [h])
            have L83 := Lib.hid (L9.out.ex ee (fun k hk => by have o_ := ORD82.out; have hk : k = g ∨ k = rr ∨ k = oq ∨ k = qq := hk; omega))
            have R83 := Lib.hid (R9.out.ex ee (by have o_ := ORD82.out; omega))
            have K83 := Lib.hid (hb1)
            have Aq83 := Lib.hid (ha)
            clear ee A9 K9 L9 R9 hb1 ha hx hq
            go_wp2_with fail
            refine (RGot_busy oq q1 2 N _ 0 w6 Aq83.out (by decide)).mono ?_; rintro e w_ ⟨rfl, rfl⟩
            go_wp2_with fail
            go_roundw
            case rel => exact ⟨j + 1, q1, by have := HJL.out; omega, HTN.out.1, Aq83.out, K83.out, by have o_ := ORD82.out; omega, L83.out, R83.out⟩
            case measure => exact HTN.out.2
          · have kd2 : decide ((j : Int) < (N : Int) - 1) = false := decide_eq_false hjl
            have HJL := Lib.hid (show (j : Int) + 1 = (N : Int) by have := HJ.out; omega)
            clear hj hjl
            go_upto_region 27 with fail
            have hne : Nonempty (Held (Ex (fun k => k = g ∨ k = rr ∨ k = oq ∨ k = qq) wr)) := ⟨⟨wr, Ex.refl _ _⟩⟩
            have hA9 := (R9.out.cells (by rw [LE.out]; omega)).1
            subst hA9
            have hroom := R9.out.room
            have kr0 : (0 : Int) ≤ (0 : Int) := by omega
            have kr1 : (0 : Int) ≤ (nr : Int) := by have := HFN.out; omega
            have kr2 : (nr : Int) ≤ (c : Int) := by omega
            have kr3 : (0 : Int) ≤ (c : Int) := by omega
            have kr4 : (0 : Int) < (nr : Int) := by have := HFN.out; omega
            have kr5 : (0 : Int) < (c : Int) := by omega
            have HRM := Lib.hid hroom
            have EE0 := Lib.hid (Ex.refl (fun k => k = g ∨ k = rr ∨ k = oq ∨ k = qq) wr).drew
            clear hroom
            refine drawn_bars (S := (Ex (fun k => k = g ∨ k = rr ∨ k = oq ∨ k = qq) wr)) [([0, 1], 2), ([3, 4, 5, 7, 8, 9], 6), ([], 10), ([11, 12, 13], 14), ([], 15), ([16, 17, 18, 19], 20), ([21, 22, 23, 24, 26, 27, 28, 29], 25), ([30, 31, 32], 33)] [34, 35] (by kernel_rfl) (by kernel_rfl) (by kernel_rfl) rfl (Ex.refl _ _).drew ?_
            refine Phased.go ?_
            simp only [pick, List.map_cons, List.map_nil, List.getElem?_cons_zero, List.getElem?_cons_succ, Option.getD_some]
            repeat (go_big_quiet_step (fail))
            refine wpQuiet_nil ?_
            have ee : Ex (fun _ => False) wr wr.drew := (Ex.refl _ wr).drew
            have Aq82 := Lib.hid (A9.out.ex ee (fun h => h.elim (fun h => h) (fun h => h)))
            have K82 := Lib.hid (K9.out.ex ee (fun h => h) (fun h => h))
            have L82 := Lib.hid (L9.out.ex ee (fun k hk => hk.elim))
            have R82 := Lib.hid (R9.out.ex ee (fun h => h))
            clear ee A9 K9 L9 R9
            generalize wr.drew = w6 at *
            go_wp2_with fail
            refine (RStep_busy g rr oq qq ws ((i + j : Nat) : Int) 2 N (rdN 2 ws j) w6 Aq82.out K82.out (by have o_ := ORD81.out; omega) HP.out (by rw [rdN_len]; have := HJ.out; omega)).mono ?_; rintro e w7 ⟨rfl, hb1, ⟨q1, ha, hq⟩, hx⟩
            rw [rdN_next HIN.out, rdN_how HIN.out, if_neg (show ¬ (j : Int) + 1 < (N : Int) by have := HJL.out; omega)] at ha
            rw [rdN_how HIN.out, if_neg (show ¬ (j : Int) + 1 < (N : Int) by have := HJL.out; omega)]
            rw [rdN_len, tickF_in HIN.out, i64_tick (by have := HC.out; have := HJ.out; omega)] at hb1
            have ORD83 := Lib.hid (show pb = pb ∧ pb < rr ∧ rr + 1 = g ∧ pb < r0 ∧ rr < r0 ∧ g < r0 ∧ g < r1 ∧ pb < oq ∧ rr < oq ∧ g < oq ∧ r1 < oq ∧ oq ≤ qq ∧ (q1 = qq ∨ q1 > oq) from by have o_ := ORD81.out; have := Aq82.out.lt; omega)
            clear ORD81
            have hxe := hx
            have ee : Ex (fun k => k = g ∨ k = rr ∨ k = oq ∨ k = qq) w6 w7 := hx.mono (fun k hk => by rcases hk with h | h | h | h <;> simp [h])
            have L84 := Lib.hid (L82.out.ex ee (fun k hk => by have o_ := ORD83.out; have hk : k = g ∨ k = rr ∨ k = oq ∨ k = qq := hk; omega))
            have R84 := Lib.hid (R82.out.ex ee (by have o_ := ORD83.out; omega))
            have K84 := Lib.hid (hb1)
            have Aq84 := Lib.hid (ha)
            clear ee Aq82 K82 L82 R82 hb1 ha hx hq
            have EE1 := Lib.hid (EE0.out.trans hxe)
            clear hxe
            go_wp2_with fail
            refine behind_normal ⟨(Ex (fun k => k = g ∨ k = rr ∨ k = oq ∨ k = qq) wr), fun W h => h, EE1.out, ?_⟩
            refine Phased.go ?_
            simp only [pick, List.map_cons, List.map_nil, List.getElem?_cons_zero, List.getElem?_cons_succ, Option.getD_some]
            repeat (go_big_quiet_step (fail))
            refine wpQuiet_nil ?_
            go_wp2_with fail
            have HGT := RGot_done oq q1 2 N (rdN 2 ws (j + 1)) w7 Aq84.out (by rw [rdN_len]; have := HC.out; have := HJ.out; omega)
            rw [show sortS (keepL 2 (N : Int) 0 (rdN 2 ws (j + 1))) = al.drop (0) from by rw [show j + 1 = N by have := HJL.out; omega]; exact HSRT.out] at HGT
            refine HGT.mono ?_; rintro e w8 ⟨Ax, cx, rfl, ho, hb⟩
            clear HGT
            have HSx := Lib.hid (sts_of_own ho (by rw [List.length_drop, LE.out]; have := HC.out; unfold maxLen; omega) (fun s hs => (AL.out.ok s (List.mem_of_mem_drop hs))))
            clear ho
            have EE2 := Lib.hid (EE1.out.trans (Ex.of_below hb))
            have ee : Ex (fun _ => False) w7 w8 := Ex.of_below hb
            have Aq85 := Lib.hid (Aq84.out.ex ee (fun h => h.elim (fun h => h) (fun h => h)))
            have K85 := Lib.hid (K84.out.ex ee (fun h => h) (fun h => h))
            have L85 := Lib.hid (L84.out.ex ee (fun k hk => hk.elim))
            have R85 := Lib.hid (R84.out.ex ee (fun h => h))
            clear ee Aq84 K84 L84 R84 hb
            go_wp2_with fail
            refine behind_normal ⟨(Ex (fun k => k = g ∨ k = rr ∨ k = oq ∨ k = qq) wr), fun W h => h, EE2.out, ?_⟩
            refine Phased.go ?_
            simp only [pick, List.map_cons, List.map_nil, List.getElem?_cons_zero, List.getElem?_cons_succ, Option.getD_some]
            repeat (go_big_quiet_step (fail))
            refine wpQuiet_nil ?_
            go_wp2_with fail
            have HAL := Lib.hid (R85.out.sts (by rw [LE.out]; exact HFN.out.2.symm) (by have := HRM.out; omega) AL.out.ok)
            have hsm := same_any _ _ _ _ _ _ w8 HSx.out (sts_tail HAL.out (m := 0) HFN.out.1 (c - 0))
            rw [show nr = al.length by rw [LE.out]; exact HFN.out.2] at hsm
            rw [decide_eq_true (keep_same (0))] at hsm
            rw [show al.length = nr by rw [LE.out]; exact HFN.out.2.symm] at hsm
            try simp only [List.drop_zero, List.length_drop, Nat.zero_mul, Nat.sub_zero] at hsm
            refine hsm.mono ?_; rintro e w9 ⟨rfl, hb⟩
            clear hsm HAL HSx
            have EE3 := Lib.hid (EE2.out.trans (Ex.of_below hb))
            have ee : Ex (fun _ => False) w8 w9 := Ex.of_below hb
            have Aq86 := Lib.hid (Aq85.out.ex ee (fun h => h.elim (fun h => h) (fun h => h)))
            have K86 := Lib.hid (K85.out.ex ee (fun h => h) (fun h => h))
            have L86 := Lib.hid (L85.out.ex ee (fun k hk => hk.elim))
            have R86 := Lib.hid (R85.out.ex ee (fun h => h))
            clear ee Aq85 K85 L85 R85 hb
            go_wp2_with fail
            refine behind_normal ⟨(Ex (fun k => k = g ∨ k = rr ∨ k = oq ∨ k = qq) wr), fun W h => h, EE3.out, ?_⟩
            refine Phased.go ?_
            simp only [pick, List.map_cons, List.map_nil, List.getElem?_cons_zero, List.getElem?_cons_succ, Option.getD_some]
            repeat (go_big_quiet_step (fail))
            refine wpQuiet_nil ?_
            go_wp2_with fail
            have HGT := RGot_done oq q1 2 N (rdN 2 ws (j + 1)) w9 Aq86.out (by rw [rdN_len]; have := HC.out; have := HJ.out; omega)
            rw [show sortS (keepL 2 (N : Int) 0 (rdN 2 ws (j + 1))) = al.drop (0) from by rw [show j + 1 = N by have := HJL.out; omega]; exact HSRT.out] at HGT
            refine HGT.mono ?_; rintro e w10 ⟨Ay, cy, rfl, ho, hb⟩
            clear HGT
            have HSy := Lib.hid (sts_of_own ho (by rw [List.length_drop, LE.out]; have := HC.out; unfold maxLen; omega) (fun s hs => (AL.out.ok s (List.mem_of_mem_drop hs))))
            clear ho
            have EE4 := Lib.hid (EE3.out.trans (Ex.of_below hb))
            have ee : Ex (fun _ => False) w9 w10 := Ex.of_below hb
            have Aq87 := Lib.hid (Aq86.out.ex ee (fun h => h.elim (fun h => h) (fun h => h)))
            have K87 := Lib.hid (K86.out.ex ee (fun h => h) (fun h => h))
            have L87 := Lib.hid (L86.out.ex ee (fun k hk => hk.elim))
            have R87 := Lib.hid (R86.out.ex ee (fun h => h))
            clear ee Aq86 K86 L86 R86 hb
            go_wp2_with fail
            refine behind_normal ⟨(Ex (fun k => k = g ∨ k = rr ∨ k = oq ∨ k = qq) wr), fun W h => h, EE4.out, ?_⟩
            refine Phased.go ?_
            simp only [pick, List.map_cons, List.map_nil, List.getElem?_cons_zero, List.getElem?_cons_succ, Option.getD_some]
            repeat (go_big_quiet_step (fail))
            refine wpQuiet_nil ?_
            go_wp2_with fail
            have hgp := Gaps_any _ _ _ w10 HSy.out
            rw [keep_gaps AL.out (0) (by rw [LE.out]; have := HFN.out; omega)] at hgp
            try simp only [List.drop_zero, List.length_drop, Nat.sub_zero] at hgp
            refine hgp.mono ?_; rintro e w11 ⟨rfl, hb⟩
            clear hgp HSy
            have EE5 := Lib.hid (EE4.out.trans (Ex.of_below hb))
            have ee : Ex (fun _ => False) w10 w11 := Ex.of_below hb
            have Aq88 := Lib.hid (Aq87.out.ex ee (fun h => h.elim (fun h => h) (fun h => h)))
            have K88 := Lib.hid (K87.out.ex ee (fun h => h) (fun h => h))
            have L88 := Lib.hid (L87.out.ex ee (fun k hk => hk.elim))
            have R88 := Lib.hid (R87.out.ex ee (fun h => h))
            clear ee Aq87 K87 L87 R87 hb
            go_wp2_with fail
            refine behind_normal ⟨(Ex (fun k => k = g ∨ k = rr ∨ k = oq ∨ k = qq) wr), fun W h => h, EE5.out, ?_⟩
            refine Phased.go ?_
            simp only [pick, List.map_cons, List.map_nil, List.getElem?_cons_zero, List.getElem?_cons_succ, Option.getD_some]
            repeat (go_big_quiet_step (fail))
            refine wpQuiet_nil ?_
            go_wp2_with fail
            have HAL := Lib.hid (R88.out.sts (by rw [LE.out]; exact HFN.out.2.symm) (by have := HRM.out; omega) AL.out.ok)
            have hgp := Gaps_any _ _ _ w11 HAL.out
            rw [show gapsF nr (fun i => al.getD i St.zero) = 0 from by have h9 := keep_gaps0 AL.out (by rw [LE.out]; omega); rw [show al.length = nr by rw [LE.out]; exact HFN.out.2.symm] at h9; exact h9] at hgp
            refine hgp.mono ?_; rintro e w12 ⟨rfl, hb⟩
            clear hgp HAL
            have EE6 := Lib.hid (EE5.out.trans (Ex.of_below hb))
            have ee : Ex (fun _ => False) w11 w12 := Ex.of_below hb
            have Aq89 := Lib.hid (Aq88.out.ex ee (fun h => h.elim (fun h => h) (fun h => h)))
            have K89 := Lib.hid (K88.out.ex ee (fun h => h) (fun h => h))
            have L89 := Lib.hid (L88.out.ex ee (fun k hk => hk.elim))
            have R89 := Lib.hid (R88.out.ex ee (fun h => h))
            clear ee Aq88 K88 L88 R88 hb
            go_wp2_with fail
            refine behind_normal ⟨(Ex (fun k => k = g ∨ k = rr ∨ k = oq ∨ k = qq) wr), fun W h => h, EE6.out, ?_⟩
            refine Phased.go ?_
            simp only [pick, List.map_cons, List.map_nil, List.getElem?_cons_zero, List.getElem?_cons_succ, Option.getD_some]
            repeat (go_big_quiet_step (fail))
            refine wpQuiet_nil ?_
            go_wp2_with fail
            refine (Touches_any g rr ws _ w12 K89.out).mono ?_; rintro e w_ ⟨rfl, rfl⟩
            obtain ⟨tt, htt⟩ : ∃ tt : Int, ((i + j + 1 : Nat) : Int) = tt := ⟨_, rfl⟩
            have ktt : wrap64 ((i : Int) + (N : Int)) = tt := by rw [wrap64_in _ (by have := HC.out; omega), ← htt]; have := HJL.out; omega
            have kt : (tt == tt) = true := by simp
            simp only [htt]
            clear htt
            go_wp2_with fail
            refine behind_normal ⟨(Ex (fun k => k = g ∨ k = rr ∨ k = oq ∨ k = qq) wr), fun W h => h, EE6.out, ?_⟩
            refine Phased.go ?_
            simp only [pick, List.map_cons, List.map_nil, List.getElem?_cons_zero, List.getElem?_cons_succ, Option.getD_some]
            repeat (go_big_quiet_step (fail))
            refine wpQuiet_nil ?_
            go_wp2_with fail
            refine (awake_any w12).mono ?_; rintro e w13 ⟨rfl, hb⟩
            have EE7 := Lib.hid (EE6.out.trans (Ex.of_below hb))
            have ee : Ex (fun _ => False) w12 w13 := Ex.of_below hb
            have Aq90 := Lib.hid (Aq89.out.ex ee (fun h => h.elim (fun h => h) (fun h => h)))
            have K90 := Lib.hid (K89.out.ex ee (fun h => h) (fun h => h))
            have L90 := Lib.hid (L89.out.ex ee (fun k hk => hk.elim))
            have R90 := Lib.hid (R89.out.ex ee (fun h => h))
            clear ee Aq89 K89 L89 R89 hb
            go_wp2_with fail
            refine behind_normal ⟨(Ex (fun k => k = g ∨ k = rr ∨ k = oq ∨ k = qq) wr), fun W h => h, EE7.out, ?_⟩
            refine Phased.end_ ?_
            clear hne
            have hne5 : Nonempty (Held (fun W => W = w13)) := ⟨⟨_, rfl⟩⟩
            simp only [pick, List.map_cons, List.map_nil, List.getElem?_cons_zero, List.getElem?_cons_succ, Option.getD_some]
            repeat (go_big_quiet_step (fail))
            refine wpQuiet_nil ?_
            go_wp2_with fail
            go_ret
            exact ⟨rfl, L90.out.low.mono HBS.out⟩
      · rw [decide_eq_false hsm] at kfw
        have kfv : wrap64 ((nr : Int) - (N : Int)) = (fr : Int) := by rw [wrap64_in _ (by have := HC.out; omega)]; have := HFR.out; omega
        clear hsm hnr hi
        have Pq0 := P9.out.cell 0
        have Pq1 := P9.out.cell 1
        have Pq2 := P9.out.cell 2
        have Pq3 := P9.out.cell 3
        have Pq4 := P9.out.cell 4
        simp only [List.getElem?_toArray, List.getElem?_cons_succ, List.getElem?_cons_zero] at Pq0 Pq1 Pq2 Pq3 Pq4
        go_wp2_with fail
        clear Pq0 Pq1 Pq2 Pq3 Pq4
        try simp only [kfv]
        refine (Read_in 2 N HP.out wr).mono ?_; rintro e w5 ⟨oq, rfl, ha, hs, hb⟩
        have hlt_pb : pb < oq := Nat.lt_of_lt_of_le P9.out.lt hs
        have hlt_rr : rr < oq := Nat.lt_of_lt_of_le K9.out.row.lt hs
        have hlt_g : g < oq := Nat.lt_of_lt_of_le K9.out.head.lt hs
        have hlt_r1 : r1 < oq := Nat.lt_of_lt_of_le R9.out.lt hs
        have ORD42 := Lib.hid (show pb = pb ∧ pb < rr ∧ rr + 1 = g ∧ pb < r0 ∧ rr < r0 ∧ g < r0 ∧ g < r1 ∧ pb < oq ∧ rr < oq ∧ g < oq ∧ r1 < oq from by have o_ := ORD41.out; omega)
        clear ORD41
        have ee : Ex (fun _ => False) wr w5 := Ex.of_below hb
        have P43 := Lib.hid (P9.out.ex ee (fun h => h))
        have L43 := Lib.hid (L9.out.ex ee (fun k hk => hk.elim))
        have K43 := Lib.hid (K9.out.ex ee (fun h => h) (fun h => h))
        have R43 := Lib.hid (R9.out.ex ee (fun h => h))
        have Aq43 := Lib.hid (ha)
        clear ee P9 L9 K9 R9 ha hs hb hlt_pb hlt_rr hlt_g hlt_r1
        go_wp2_with fail
        go_loopw [16] (fun s16 wr2 => ∃ (j : Nat) (qq : Nat), j + 1 ≤ N ∧ s16 = .int .i64 j ∧ RdAt wr2 oq qq 2 N (rdN 2 ws j) 0 ∧ BankAt wr2 g rr ws ((i + j : Nat) : Int) ∧ oq ≤ qq ∧ Lo pb w wr2 ∧ StRow wr2 r1 (.slice A nr c) al) (fun s16 _ => N - (intOf s16).toNat)
        case atStart => exact ⟨0, oq, by have := HC.out; omega, rfl, RdAt.start Aq43.out, K43.out, Nat.le_refl _, L43.out, R43.out⟩
        case round =>
          clear P43 L43 K43 R43 Aq43
          obtain ⟨j, qq, hj, rfl, hA, hK, hqq, hL, hR⟩ := hrel
          have A9 := Lib.hid hA
          have K9 := Lib.hid hK
          have L9 := Lib.hid hL
          have R9 := Lib.hid hR
          have QQ := Lib.hid hqq
          clear hA hK hL hR hqq
          have ORD81 := Lib.hid (show pb = pb ∧ pb < rr ∧ rr + 1 = g ∧ pb < r0 ∧ rr < r0 ∧ g < r0 ∧ g < r1 ∧ pb < oq ∧ rr < oq ∧ g < oq ∧ r1 < oq ∧ oq ≤ qq from by have o_ := ORD42.out; have := QQ.out; omega)
          clear ORD42
          clear QQ
          have kn1 : wrap64 ((N : Int) - 1) = (N : Int) - 1 := wrap64_in _ (by have := HC.out; omega)
          have HJ := Lib.hid hj
          have HIN := Lib.hid (show inW ws (2 + (j : Int)) from ⟨by omega, by rw [LB.out.len]; have := HC.out; omega⟩)
          by_cases hjl : (j : Int) < (N : Int) - 1
          · have kd2 : decide ((j : Int) < (N : Int) - 1) = true := decide_eq_true hjl
            have HJL := Lib.hid hjl
            have HTN := Lib.hid (turn_num j N (by omega) (by have := HC.out; unfold maxLen; omega))
            clear hj hjl
            go_wp2_with fail
            refine (RStep_busy g rr oq qq ws ((i + j : Nat) : Int) 2 N (rdN 2 ws j) wr A9.out K9.out (by have o_ := ORD81.out; omega) HP.out (by rw [rdN_len]; have := HJ.out; omega)).mono ?_; rintro e w6 ⟨rfl, hb1, ⟨q1, ha, hq⟩, hx⟩
            rw [rdN_next HIN.out, rdN_how HIN.out, if_pos (show (j : Int) + 1 < (N : Int) by have := HJL.out; omega)] at ha
            rw [rdN_how HIN.out, if_pos (show (j : Int) + 1 < (N : Int) by have := HJL.out; omega)]
            rw [rdN_len, tickF_in HIN.out, i64_tick (by have := HC.out; have := HJ.out; omega)] at hb1
            have ORD82 := Lib.hid (show pb = pb ∧ pb < rr ∧ rr + 1 = g ∧ pb < r0 ∧ rr < r0 ∧ g < r0 ∧ g < r1 ∧ pb < oq ∧ rr < oq ∧ g < oq ∧ r1 < oq ∧ oq ≤ qq ∧ (q1 = qq ∨ q1 > oq) from by have o_ := ORD81.out; have := A9.out.lt; omega)
            clear ORD81
            have ee : Ex (fun k => k = g ∨ k = rr ∨ k = oq ∨ k = qq) wr w6 := hx.mono (fun k hk => by rcases hk with h | h | h | h <;> simp [h])
            have L83 := Lib.hid (L9.out.ex ee (fun k hk => by have o_ := ORD82.out; have hk : k = g ∨ k = rr ∨ k = oq ∨ k = qq := hk; omega))
            have R83 := Lib.hid (R9.out.ex ee (by have o_ := ORD82.out; omega))
            have K83 := Lib.hid (hb1)
            have Aq83 := Lib.hid (ha)
            clear ee A9 K9 L9 R9 hb1 ha hx hq
            go_wp2_with fail
            refine (RGot_busy oq q1 2 N _ 0 w6 Aq83.out (by decide)).mono ?_; rintro e w_ ⟨rfl, rfl⟩
            go_wp2_with fail
            go_roundw
            case rel => exact ⟨j + 1, q1, by have := HJL.out; omega, HTN.out.1, Aq83.out, K83.out, by have o_ := ORD82.out; omega, L83.out, R83.out⟩
            case measure => exact HTN.out.2
          · have kd2 : decide ((j : Int) < (N : Int) - 1) = false := decide_eq_false hjl
            have HJL := Lib.hid (show (j : Int) + 1 = (N : Int) by have := HJ.out; omega)
            clear hj hjl
            go_upto_region 27 with fail
            have hne : Nonempty (Held (Ex (fun k => k = g ∨ k = rr ∨ k = oq ∨ k = qq) wr)) := ⟨⟨wr, Ex.refl _ _⟩⟩
            have hA9 := (R9.out.cells (by rw [LE.out]; omega)).1
            subst hA9
            have hroom := R9.out.room
            have kr0 : (0 : Int) ≤ (fr : Int) := by omega
            have kr1 : (fr : Int) ≤ (nr : Int) := by have := HFN.out; omega
            have kr2 : (nr : Int) ≤ (c : Int) := by omega
            have kr3 : (fr : Int) ≤ (c : Int) := by omega
            have kr4 : (fr : Int) < (nr : Int) := by have := HFN.out; omega
            have kr5 : (fr : Int) < (c : Int) := by omega
            have HRM := Lib.hid hroom
            have EE0 := Lib.hid (Ex.refl (fun k => k = g ∨ k = rr ∨ k = oq ∨ k = qq) wr).drew
            clear hroom
            refine drawn_bars (S := (Ex (fun k => k = g ∨ k = rr ∨ k = oq ∨ k = qq) wr)) [([0, 1], 2), ([3, 4, 5, 7, 8, 9], 6), ([], 10), ([11, 12, 13], 14), ([], 15), ([16, 17, 18, 19], 20), ([21, 22, 23, 24, 26, 27, 28, 29], 25), ([30, 31, 32], 33)] [34, 35] (by kernel_rfl) (by kernel_rfl) (by kernel_rfl) rfl (Ex.refl _ _).drew ?_
            refine Phased.go ?_
            simp only [pick, List.map_cons, List.map_nil, List.getElem?_cons_zero, List.getElem?_cons_succ, Option.getD_some]
            repeat (go_big_quiet_step (fail))
            refine wpQuiet_nil ?_
            have ee : Ex (fun _ => False) wr wr.drew := (Ex.refl _ wr).drew
            have Aq82 := Lib.hid (A9.out.ex ee (fun h => h.elim (fun h => h) (fun h => h)))
            have K82 := Lib.hid (K9.out.ex ee (fun h => h) (fun h => h))
            have L82 := Lib.hid (L9.out.ex ee (fun k hk => hk.elim))
            have R82 := Lib.hid (R9.out.ex ee (fun h => h))
            clear ee A9 K9 L9 R9
            generalize wr.drew = w6 at *
            go_wp2_with fail
            refine (RStep_busy g rr oq qq ws ((i + j : Nat) : Int) 2 N (rdN 2 ws j) w6 Aq82.out K82.out (by have o_ := ORD81.out; omega) HP.out (by rw [rdN_len]; have := HJ.out; omega)).mono ?_; rintro e w7 ⟨rfl, hb1, ⟨q1, ha, hq⟩, hx⟩
            rw [rdN_next HIN.out, rdN_how HIN.out, if_neg (show ¬ (j : Int) + 1 < (N : Int) by have := HJL.out; omega)] at ha
            rw [rdN_how HIN.out, if_neg (show ¬ (j : Int) + 1 < (N : Int) by have := HJL.out; omega)]
            rw [rdN_len, tickF_in HIN.out, i64_tick (by have := HC.out; have := HJ.out; omega)] at hb1
            have ORD83 := Lib.hid (show pb = pb ∧ pb < rr ∧ rr + 1 = g ∧ pb < r0 ∧ rr < r0 ∧ g < r0 ∧ g < r1 ∧ pb < oq ∧ rr < oq ∧ g < oq ∧ r1 < oq ∧ oq ≤ qq ∧ (q1 = qq ∨ q1 > oq) from by have o_ := ORD81.out; have := Aq82.out.lt; omega)
            clear ORD81
            have hxe := hx
            have ee : Ex (fun k => k = g ∨ k = rr ∨ k = oq ∨ k = qq) w6 w7 := hx.mono (fun k hk => by rcases hk with h | h | h | h <;> simp [h])
            have L84 := Lib.hid (L82.out.ex ee (fun k hk => by have o_ := ORD83.out; have hk : k = g ∨ k = rr ∨ k = oq ∨ k = qq := hk; omega))
            have R84 := Lib.hid (R82.out.ex ee (by have o_ := ORD83.out; omega))
            have K84 := Lib.hid (hb1)
            have Aq84 := Lib.hid (ha)
            clear ee Aq82 K82 L82 R82 hb1 ha hx hq
            have EE1 := Lib.hid (EE0.out.trans hxe)
            clear hxe
            go_wp2_with fail
            refine behind_normal ⟨(Ex (fun k => k = g ∨ k = rr ∨ k = oq ∨ k = qq) wr), fun W h => h, EE1.out, ?_⟩
            refine Phased.go ?_
            simp only [pick, List.map_cons, List.map_nil, List.getElem?_cons_zero, List.getElem?_cons_succ, Option.getD_some]
            repeat (go_big_quiet_step (fail))
            refine wpQuiet_nil ?_
            go_wp2_with fail
            have HGT := RGot_done oq q1 2 N (rdN 2 ws (j + 1)) w7 Aq84.out (by rw [rdN_len]; have := HC.out; have := HJ.out; omega)
            rw [show sortS (keepL 2 (N : Int) 0 (rdN 2 ws (j + 1))) = al.drop (fr) from by rw [show j + 1 = N by have := HJL.out; omega]; exact HSRT.out] at HGT
            refine HGT.mono ?_; rintro e w8 ⟨Ax, cx, rfl, ho, hb⟩
            clear HGT
            have HSx := Lib.hid (sts_of_own ho (by rw [List.length_drop, LE.out]; have := HC.out; unfold maxLen; omega) (fun s hs => (AL.out.ok s (List.mem_of_mem_drop hs))))
            clear ho
            have EE2 := Lib.hid (EE1.out.trans (Ex.of_below hb))
            have ee : Ex (fun _ => False) w7 w8 := Ex.of_below hb
            have Aq85 := Lib.hid (Aq84.out.ex ee (fun h => h.elim (fun h => h) (fun h => h)))
            have K85 := Lib.hid (K84.out.ex ee (fun h => h) (fun h => h))
            have L85 := Lib.hid (L84.out.ex ee (fun k hk => hk.elim))
            have R85 := Lib.hid (R84.out.ex ee (fun h => h))
            clear ee Aq84 K84 L84 R84 hb
            go_wp2_with fail
            refine behind_normal ⟨(Ex (fun k => k = g ∨ k = rr ∨ k = oq ∨ k = qq) wr), fun W h => h, EE2.out, ?_⟩
            refine Phased.go ?_
            simp only [pick, List.map_cons, List.map_nil, List.getElem?_cons_zero, List.getElem?_cons_succ, Option.getD_some]
            repeat (go_big_quiet_step (fail))
            refine wpQuiet_nil ?_
            go_wp2_with fail
            have HAL := Lib.hid (R85.out.sts (by rw [LE.out]; exact HFN.out.2.symm) (by have := HRM.out; omega) AL.out.ok)
            have hsm := same_any _ _ _ _ _ _ w8 HSx.out (sts_tail HAL.out (m := fr) HFN.out.1 (c - fr))
            rw [show nr = al.length by rw [LE.out]; exact HFN.out.2] at hsm
            rw [decide_eq_true (keep_same (fr))] at hsm
            rw [show al.length = nr by rw [LE.out]; exact HFN.out.2.symm] at hsm
            try simp only [List.drop_zero, List.length_drop, Nat.zero_mul, Nat.sub_zero] at hsm
            refine hsm.mono ?_; rintro e w9 ⟨rfl, hb⟩
            clear hsm HAL HSx
            have EE3 := Lib.hid (EE2.out.trans (Ex.of_below hb))
            have ee : Ex (fun _ => False) w8 w9 := Ex.of_below hb
            have Aq86 := Lib.hid (Aq85.out.ex ee (fun h => h.elim (fun h => h) (fun h => h)))
            have K86 := Lib.hid (K85.out.ex ee (fun h => h) (fun h => h))
            have L86 := Lib.hid (L85.out.ex ee (fun k hk => hk.elim))
            have R86 := Lib.hid (R85.out.ex ee (fun h => h))
            clear ee Aq85 K85 L85 R85 hb
            go_wp2_with fail
            refine behind_normal ⟨(Ex (fun k => k = g ∨ k = rr ∨ k = oq ∨ k = qq) wr), fun W h => h, EE3.out, ?_⟩
            refine Phased.go ?_
            simp only [pick, List.map_cons, List.map_nil, List.getElem?_cons_zero, List.getElem?_cons_succ, Option.getD_some]
            repeat (go_big_quiet_step (fail))
            refine wpQuiet_nil ?_
            go_wp2_with fail
            have HGT := RGot_done oq q1 2 N (rdN 2 ws (j + 1)) w9 Aq86.out (by rw [rdN_len]; have := HC.out; have := HJ.out; omega)
            rw [show sortS (keepL 2 (N : Int) 0 (rdN 2 ws (j + 1))) = al.drop (fr) from by rw [show j + 1 = N by have := HJL.out; omega]; exact HSRT.out] at HGT
            refine HGT.mono ?_; rintro e w10 ⟨Ay, cy, rfl, ho, hb⟩
            clear HGT
            have HSy := Lib.hid (sts_of_own ho (by rw [List.length_drop, LE.out]; have := HC.out; unfold maxLen; omega) (fun s hs => (AL.out.ok s (List.mem_of_mem_drop hs))))
            clear ho
            have EE4 := Lib.hid (EE3.out.trans (Ex.of_below hb))
            have ee : Ex (fun _ => False) w9 w10 := Ex.of_below hb
            have Aq87 := Lib.hid (Aq86.out.ex ee (fun h => h.elim (fun h => h) (fun h => h)))
            have K87 := Lib.hid (K86.out.ex ee (fun h => h) (fun h => h))
            have L87 := Lib.hid (L86.out.ex ee (fun k hk => hk.elim))
            have R87 := Lib.hid (R86.out.ex ee (fun h => h))
            clear ee Aq86 K86 L86 R86 hb
            go_wp2_with fail
            refine behind_normal ⟨(Ex (fun k => k = g ∨ k = rr ∨ k = oq ∨ k = qq) wr), fun W h => h, EE4.out, ?_⟩
            refine Phased.go ?_
            simp only [pick, List.map_cons, List.map_nil, List.getElem?_cons_zero, List.getElem?_cons_succ, Option.getD_some]
            repeat (go_big_quiet_step (fail))
            refine wpQuiet_nil ?_
            go_wp2_with fail
            have hgp := Gaps_any _ _ _ w10 HSy.out
            rw [keep_gaps AL.out (fr) (by rw [LE.out]; have := HFN.out; omega)] at hgp
            try simp only [List.drop_zero, List.length_drop, Nat.sub_zero] at hgp
            refine hgp.mono ?_; rintro e w11 ⟨rfl, hb⟩
            clear hgp HSy
            have EE5 := Lib.hid (EE4.out.trans (Ex.of_below hb))
            have ee : Ex (fun _ => False) w10 w11 := Ex.of_below hb
            have Aq88 := Lib.hid (Aq87.out.ex ee (fun h => h.elim (fun h => h) (fun h => h)))
            have K88 := Lib.hid (K87.out.ex ee (fun h => h) (fun h => h))
            have L88 := Lib.hid (L87.out.ex ee (fun k hk => hk.elim))
            have R88 := Lib.hid (R87.out.ex ee (fun h => h))
            clear ee Aq87 K87 L87 R87 hb
            go_wp2_with fail
            refine behind_normal ⟨(Ex (fun k => k = g ∨ k = rr ∨ k = oq ∨ k = qq) wr), fun W h => h, EE5.out, ?_⟩
            refine Phased.go ?_
            simp only [pick, List.map_cons, List.map_nil, List.getElem?_cons_zero, List.getElem?_cons_succ, Option.getD_some]
            repeat (go_big_quiet_step (fail))
            refine wpQuiet_nil ?_
            go_wp2_with fail
            have HAL := Lib.hid (R88.out.sts (by rw [LE.out]; exact HFN.out.2.symm) (by have := HRM.out; omega) AL.out.ok)
            have hgp := Gaps_any _ _ _ w11 HAL.out
            rw [show gapsF nr (fun i => al.getD i St.zero) = 0 from by have h9 := keep_gaps0 AL.out (by rw [LE.out]; omega); rw [show al.length = nr by rw [LE.out]; exact HFN.out.2.symm] at h9; exact h9] at hgp
            refine hgp.mono ?_; rintro e w12 ⟨rfl, hb⟩
            clear hgp HAL
            have EE6 := Lib.hid (EE5.out.trans (Ex.of_below hb))
            have ee : Ex (fun _ => False) w11 w12 := Ex.of_below hb
            have Aq89 := Lib.hid (Aq88.out.ex ee (fun h => h.elim (fun h => h) (fun h => h)))
            have K89 := Lib.hid (K88.out.ex ee (fun h => h) (fun h => h))
            have L89 := Lib.hid (L88.out.ex ee (fun k hk => hk.elim))
            have R89 := Lib.hid (R88.out.ex ee (fun h => h))
            clear ee Aq88 K88 L88 R88 hb
            go_wp2_with fail
            refine behind_normal ⟨(Ex (fun k => k = g ∨ k = rr ∨ k = oq ∨ k = qq) wr), fun W h => h, EE6.out, ?_⟩
            refine Phased.go ?_
            simp only [pick, List.map_cons, List.map_nil, List.getElem?_cons_zero, List.getElem?_cons_succ, Option.getD_some]
            repeat (go_big_quiet_step (fail))
            refine wpQuiet_nil ?_
            go_wp2_with fail
            refine (Touches_any g rr ws _ w12 K89.out).mono ?_; rintro e w_ ⟨rfl, rfl⟩
            obtain ⟨tt, htt⟩ : ∃ tt : Int, ((i + j + 1 : Nat) : Int) = tt := ⟨_, rfl⟩
            have ktt : wrap64 ((i : Int) + (N : Int)) = tt := by rw [wrap64_in _ (by have := HC.out; omega), ← htt]; have := HJL.out; omega
            have kt : (tt == tt) = true := by simp
            simp only [htt]
            clear htt
            go_wp2_with fail
            refine behind_normal ⟨(Ex (fun k => k = g ∨ k = rr ∨ k = oq ∨ k = qq) wr), fun W h => h, EE6.out, ?_⟩
            refine Phased.go ?_
            simp only [pick, List.map_cons, List.map_nil, List.getElem?_cons_zero, List.getElem?_cons_succ, Option.getD_some]
            repeat (go_big_quiet_step (fail))
            refine wpQuiet_nil ?_
            go_wp2_with fail
            refine (awake_any w12).mono ?_; rintro e w13 ⟨rfl, hb⟩
            have EE7 := Lib.hid (EE6.out.trans (Ex.of_below hb))
            have ee : Ex (fun _ => False) w12 w13 := Ex.of_below hb
            have Aq90 := Lib.hid (Aq89.out.ex ee (fun h => h.elim (fun h => h) (fun h => h)))
            have K90 := Lib.hid (K89.out.ex ee (fun h => h) (fun h => h))
            have L90 := Lib.hid (L89.out.ex ee (fun k hk => hk.elim))
            have R90 := Lib.hid (R89.out.ex ee (fun h => h))
            clear ee Aq89 K89 L89 R89 hb
            go_wp2_with fail
            refine behind_normal ⟨(Ex (fun k => k = g ∨ k = rr ∨ k = oq ∨ k = qq) wr), fun W h => h, EE7.out, ?_⟩
            refine Phased.end_ ?_
            clear hne
            have hne5 : Nonempty (Held (fun W => W = w13)) := ⟨⟨_, rfl⟩⟩
            simp only [pick, List.map_cons, List.map_nil, List.getElem?_cons_zero, List.getElem?_cons_succ, Option.getD_some]
            repeat (go_big_quiet_step (fail))
            refine wpQuiet_nil ?_
            go_wp2_with fail
            go_ret
            exact ⟨rfl, L90.out.low.mono HBS.out⟩
end Go.Proofs.Ythhellgaafbokaa.Lg
