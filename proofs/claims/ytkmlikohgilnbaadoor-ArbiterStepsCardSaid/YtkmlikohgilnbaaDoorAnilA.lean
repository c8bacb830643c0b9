/-
  Law 15: ArbiterNil. Printed by wip/tools/mkanl.py. Conditions stand at each. By an AI agent.
-/
import Derived.Test.YtkmlikohgilnbaaDoorArbA
import Derived.Test.YtkmlikohgilnbaaDoorArbP
import Derived.Test.YtkmlikohgilnbaaDoorArbR
import Derived.Laws.Rows
namespace Go.Proofs.YtkmlikohgilnbaaDoor.Arb
set_option linter.unusedVariables false
set_option linter.unusedSimpArgs false
open Go Go.RowKit Go.Proofs.YtkmlikohgilnbaaDoor.Base Go.Proofs.YtkmlikohgilnbaaDoor.Reg
open Go.Proofs.YtkmlikohgilnbaaDoor.Bank (BankAt inW wordF setF tickF errF casB errF_in errF_out wordF_in wordF_out tickF_in tickF_out setF_in setF_out casB_out casB_in wordF_range Load_any CAS_any Load_nil New_in Store_any Peek_any Touches_any zeros)
open Go.Proofs.YtkmlikohgilnbaaDoor.Modes (Tab)

theorem RX.cells_size (p : Pl) (n : Int) (x : RX) : (RX.cells p n x).size = 18 := rfl
theorem RX.cells_one (p : Pl) (n : Int) (x : RX) : (RX.cells p n x).all (·.oneCell') = true := by unfold RX.cells; simp [Value.oneCell']
theorem Ex.rowed {w : World} {t : TypeId} {zs cs : Array Value} : Ex (fun _ => False) w ((w.alloc (.cells zs t)).setRow w.heap.size cs) :=
  Ex.of_below (below_setRow ((Below.refl _ _).alloc (Nat.le_refl _) _) (Nat.le_refl _) _)
theorem Blk.rowed (w : World) (t : TypeId) (zs cs : Array Value) : Blk ((w.alloc (.cells zs t)).setRow w.heap.size cs) w.heap.size t cs := setRow_heap _ _ _ _ _ _ (Blk.new w t zs)
set_option maxRecDepth 100000 in
set_option maxHeartbeats 1000000 in
theorem Nl_lo_bad (a kd so mo : Int) (fr : Bool) (fl n : Int) (w : World) (ht : Tab w) (hn : n < 1) (hm : ¬ (⟨kd, so, mo, fr, fl⟩ : Pl).May n) :
    Calls Tryd.prog 4 #[.int .i64 a, .agg #[.int .i64 kd, .int .i64 so, .int .i64 mo, .bool fr, .int .i64 fl], .int .i64 n] w fun e w' => e = .returned (.bool true) ∧ Below w.heap.size w w' := by
  have t1 : decide (n ≥ 1) = false := decide_eq_false (by omega)
  have ham := fun W => AMost_any n W
  simp only [show amostF n = 0 from if_neg (by omega)] at ham
  have HAM := Lib.hid ham
  clear ham hn
  have hpl := fun W => plain_any (⟨kd, so, mo, fr, fl⟩ : Pl) n W
  have hmy := fun W => May_any (⟨kd, so, mo, fr, fl⟩ : Pl) n W
  simp only [decide_eq_false hm] at hmy
  obtain ⟨C, hC⟩ : ∃ C, RX.cells (⟨kd, so, mo, fr, fl⟩ : Pl) n RX.zero = C := ⟨_, rfl⟩
  have HCS := Lib.hid (show C.size = 18 from hC ▸ RX.cells_size _ _ _)
  have HCO := Lib.hid (show C.all (·.oneCell') = true from hC ▸ RX.cells_one _ _ _)
  simp only [hC] at hpl hmy
  unfold Pl.val at hpl
  simp only at hpl
  have HPL := Lib.hid hpl
  have HMY := Lib.hid hmy
  clear hpl hmy hC
  have hbg := fun W => begin_bad a n (⟨kd, so, mo, fr, fl⟩ : Pl) W hm
  unfold Pl.val at hbg
  simp only at hbg
  have HBG := Lib.hid hbg
  clear hbg hm
  have hq0 := (blk_new' w (g := w.heap.size) (by simp) 41 #[.int .i64 kd, .int .i64 so, .int .i64 mo, .bool fr, .int .i64 fl])
  have hlo := ((Below.refl w.heap.size w).alloc (by first | exact Nat.le_refl _ | (simp; done) | (simp; omega)) (.cells #[.int .i64 kd, .int .i64 so, .int .i64 mo, .bool fr, .int .i64 fl] 41))
  have hz0 : 0 < w.heap.size := lt_of_cell (ht 0 (by decide))
  have ht1 := ht.below hlo
  go_enter Tryd.func4, Tryd.ntmps4
  go_upto_region 1 with fail
  generalize (w.alloc (.cells #[.int .i64 kd, .int .i64 so, .int .i64 mo, .bool fr, .int .i64 fl] 41)) = w1 at *
  obtain ⟨pb, hfb⟩ : ∃ pb, w.heap.size = pb := ⟨_, rfl⟩
  have hlo9 : Lo w.heap.size w w1 := ⟨hlo, hlo.size⟩
  have HBS := Lib.hid (Nat.le_of_eq hfb)
  simp only [hfb] at hlo9 hz0 hq0 ⊢
  have ORD0 := Lib.hid (show 0 < pb from hz0)
  have T0 := Lib.hid ht1
  have L0 := Lib.hid hlo9
  have P0 := Lib.hid hq0
  clear ht ht1 hlo hlo9 hz0 hfb  hq0
  go_wp2_with fail
  refine (New_in 2 (by decide) (by decide) w1).mono ?_; rintro e w2 ⟨rfl, hb, hl, hsz⟩
  have hb : BankAt w2 (w1.heap.size + 1) w1.heap.size [0, 0] 0 := hb
  obtain ⟨rr, hrr⟩ : ∃ rr, w1.heap.size = rr := ⟨_, rfl⟩
  have hlt : pb < rr := hrr ▸ P0.out.lt
  simp only [hrr] at hb ⊢
  obtain ⟨g, hg⟩ : ∃ g, rr + 1 = g := ⟨_, rfl⟩
  simp only [hg] at hb ⊢
  have ORD1 := Lib.hid (show 0 < pb ∧ pb < rr ∧ rr + 1 = g from by have o_ := ORD0.out; omega)
  have ee : Ex (fun _ => False) w1 w2 := Ex.of_below hl
  have T_2 := Lib.hid (T0.out.ex ee (fun h => h))
  have L_2 := Lib.hid (L0.out.ex ee (fun b_ h_ => h_.elim))
  have P_2 := Lib.hid (P0.out.ex ee (fun h => h))
  have K_2 := Lib.hid (hb)
  clear ee T0 L0 P0 hb hl hsz hrr hlt hg ORD0
  go_wp2_with fail
  have hgn := Got_nil w2
  unfold St.val at hgn
  simp only [St.zero] at hgn
  have HGN := Lib.hid hgn
  clear hgn
  refine (HGN.out).mono ?_; rintro e w3 ⟨rfl, hb⟩
  clear HGN
  have ee : Ex (fun _ => False) w2 w3 := Ex.of_below hb
  have T_3 := Lib.hid (T_2.out.ex ee (fun h => h))
  have L_3 := Lib.hid (L_2.out.ex ee (fun b_ h_ => h_.elim))
  have P_3 := Lib.hid (P_2.out.ex ee (fun h => h))
  have K_3 := Lib.hid (K_2.out.ex ee (fun h => h) (fun h => h))
  clear ee T_2 L_2 P_2 K_2 hb
  go_upto_region 6 with fail
  obtain ⟨sb, hsb, hM⟩ : ∃ sb : Nat, w3.heap.size = sb ∧ g < sb ∧ rr < sb := ⟨w3.heap.size, rfl, K_3.out.head.lt, K_3.out.row.lt⟩
  have ORD4 := Lib.hid (show 0 < pb ∧ pb < rr ∧ rr + 1 = g ∧ g < sb ∧ rr < sb from by have o_ := ORD1.out; omega)
  have hnb := Blk.new w3 34 #[.int .i64 0, .int .i64 0, .bool false, .int .i64 0, .int .u64 0]
  rw [hsb] at hnb
  simp only [hsb]
  have ee : Ex (fun _ => False) w3 (w3.alloc (.cells #[.int .i64 0, .int .i64 0, .bool false, .int .i64 0, .int .u64 0] 34)) := (Ex.refl (fun _ => False) w3).alloc (.cells #[.int .i64 0, .int .i64 0, .bool false, .int .i64 0, .int .u64 0] 34)
  have T_5 := Lib.hid (T_3.out.ex ee (fun h => h))
  have L_5 := Lib.hid (L_3.out.ex ee (fun b_ h_ => h_.elim))
  have P_5 := Lib.hid (P_3.out.ex ee (fun h => h))
  have K_5 := Lib.hid (K_3.out.ex ee (fun h => h) (fun h => h))
  have S_5 := Lib.hid (hnb)
  clear ee T_3 L_3 P_3 K_3 hnb hM ORD1
  generalize w3.alloc (.cells #[.int .i64 0, .int .i64 0, .bool false, .int .i64 0, .int .u64 0] 34) = w4 at *
  clear hsb
  go_wp2_with fail
  refine (Step_nil _ w4).mono ?_; rintro e w_ ⟨rfl, rfl⟩
  have Sq0 := (S_5.out).cell 0
  have Sq1 := (S_5.out).cell 1
  have Sq2 := (S_5.out).cell 2
  have Sq3 := (S_5.out).cell 3
  have Sq4 := (S_5.out).cell 4
  simp only [List.getElem?_toArray, List.getElem?_cons_succ, List.getElem?_cons_zero] at Sq0 Sq1 Sq2 Sq3 Sq4
  go_wp2_with fail
  refine (At_nil w4).mono ?_; rintro e w_ ⟨rfl, rfl⟩
  go_wp2_with fail
  refine (Steps_nil w4).mono ?_; rintro e w_ ⟨rfl, rfl⟩
  go_wp2_with fail
  refine (HAM.out w4).mono ?_; rintro e w_ ⟨rfl, rfl⟩
  clear Sq0 Sq1 Sq2 Sq3 Sq4
  have Pq0 := (P_5.out).cell 0
  have Pq1 := (P_5.out).cell 1
  have Pq2 := (P_5.out).cell 2
  have Pq3 := (P_5.out).cell 3
  have Pq4 := (P_5.out).cell 4
  simp only [List.getElem?_toArray, List.getElem?_cons_succ, List.getElem?_cons_zero] at Pq0 Pq1 Pq2 Pq3 Pq4
  go_wp2_with fail
  refine (HBG.out w4).mono ?_; rintro e w5 ⟨rfl, hb⟩
  clear Pq0 Pq1 Pq2 Pq3 Pq4
  have ee : Ex (fun _ => False) w4 w5 := Ex.of_below hb
  have T_6 := Lib.hid (T_5.out.ex ee (fun h => h))
  have L_6 := Lib.hid (L_5.out.ex ee (fun b_ h_ => h_.elim))
  have P_6 := Lib.hid (P_5.out.ex ee (fun h => h))
  have K_6 := Lib.hid (K_5.out.ex ee (fun h => h) (fun h => h))
  have S_6 := Lib.hid (S_5.out.ex ee (fun h => h))
  clear ee T_5 L_5 P_5 K_5 S_5 hb
  have Pq0 := (P_6.out).cell 0
  have Pq1 := (P_6.out).cell 1
  have Pq2 := (P_6.out).cell 2
  have Pq3 := (P_6.out).cell 3
  have Pq4 := (P_6.out).cell 4
  simp only [List.getElem?_toArray, List.getElem?_cons_succ, List.getElem?_cons_zero] at Pq0 Pq1 Pq2 Pq3 Pq4
  go_wp2_with fail
  refine (HPL.out w5).mono ?_; rintro e w6 ⟨rfl, hb⟩
  clear Pq0 Pq1 Pq2 Pq3 Pq4
  have ee : Ex (fun _ => False) w5 w6 := Ex.of_below hb
  have T_7 := Lib.hid (T_6.out.ex ee (fun h => h))
  have L_7 := Lib.hid (L_6.out.ex ee (fun b_ h_ => h_.elim))
  have P_7 := Lib.hid (P_6.out.ex ee (fun h => h))
  have K_7 := Lib.hid (K_6.out.ex ee (fun h => h) (fun h => h))
  have S_7 := Lib.hid (S_6.out.ex ee (fun h => h))
  clear ee T_6 L_6 P_6 K_6 S_6 hb
  have hBn := Blk.new w6 46 #[.int .i64 0, .int .i64 0, .int .i64 0, .bool false, .int .i64 0, .int .i64 0, .int .i64 0, .int .i64 0, .int .u64 0, .int .i64 0, .int .i64 0, .int .i64 0, .bool false, .int .i64 0, .int .u64 0, .int .i64 0, .int .i64 0, .int .i64 0]
  have hBm := Blk.rowed w6 46 #[.int .i64 0, .int .i64 0, .int .i64 0, .bool false, .int .i64 0, .int .i64 0, .int .i64 0, .int .i64 0, .int .u64 0, .int .i64 0, .int .i64 0, .int .i64 0, .bool false, .int .i64 0, .int .u64 0, .int .i64 0, .int .i64 0, .int .i64 0] C
  have hci : (Tryd.prog.info? 46).map (·.size) = some C.size := by rw [HCS.out]; kernel_rfl
  go_wp2_with (first | refine wpList_store_row rfl 46 _ _ rfl w6.heap.size C rfl rfl 46 #[.int .i64 0, .int .i64 0, .int .i64 0, .bool false, .int .i64 0, .int .i64 0, .int .i64 0, .int .i64 0, .int .u64 0, .int .i64 0, .int .i64 0, .int .i64 0, .bool false, .int .i64 0, .int .u64 0, .int .i64 0, .int .i64 0, .int .i64 0] hBn hci HCS.out.symm HCO.out ?_ | refine wpList_load_row rfl 46 _ rfl w6.heap.size rfl 46 C (0, 0) _ hBm Tryd.underlying46 rfl hci ?_)
  have ee : Ex (fun _ => False) w6 ((w6.alloc (.cells #[.int .i64 0, .int .i64 0, .int .i64 0, .bool false, .int .i64 0, .int .i64 0, .int .i64 0, .int .i64 0, .int .u64 0, .int .i64 0, .int .i64 0, .int .i64 0, .bool false, .int .i64 0, .int .u64 0, .int .i64 0, .int .i64 0, .int .i64 0] 46)).setRow w6.heap.size C) := Ex.rowed
  have T_8 := Lib.hid (T_7.out.ex ee (fun h => h))
  have L_8 := Lib.hid (L_7.out.ex ee (fun b_ h_ => h_.elim))
  have P_8 := Lib.hid (P_7.out.ex ee (fun h => h))
  have K_8 := Lib.hid (K_7.out.ex ee (fun h => h) (fun h => h))
  have S_8 := Lib.hid (S_7.out.ex ee (fun h => h))
  clear ee T_7 L_7 P_7 K_7 S_7 hBn hBm hci
  generalize ((w6.alloc (.cells #[.int .i64 0, .int .i64 0, .int .i64 0, .bool false, .int .i64 0, .int .i64 0, .int .i64 0, .int .i64 0, .int .u64 0, .int .i64 0, .int .i64 0, .int .i64 0, .bool false, .int .i64 0, .int .u64 0, .int .i64 0, .int .i64 0, .int .i64 0] 46)).setRow w6.heap.size C) = w7 at *
  refine (HMY.out w7).mono ?_; rintro e w8 ⟨rfl, hb⟩
  have ee : Ex (fun _ => False) w7 w8 := Ex.of_below hb
  have T_9 := Lib.hid (T_8.out.ex ee (fun h => h))
  have L_9 := Lib.hid (L_8.out.ex ee (fun b_ h_ => h_.elim))
  have P_9 := Lib.hid (P_8.out.ex ee (fun h => h))
  have K_9 := Lib.hid (K_8.out.ex ee (fun h => h) (fun h => h))
  have S_9 := Lib.hid (S_8.out.ex ee (fun h => h))
  clear ee T_8 L_8 P_8 K_8 S_8 hb
  go_wp2_with fail
  refine (awake_any w8 T_9.out).mono ?_; rintro e w9 ⟨rfl, hb⟩
  have ee : Ex (fun _ => False) w8 w9 := Ex.of_below hb
  have T_10 := Lib.hid (T_9.out.ex ee (fun h => h))
  have L_10 := Lib.hid (L_9.out.ex ee (fun b_ h_ => h_.elim))
  have P_10 := Lib.hid (P_9.out.ex ee (fun h => h))
  have K_10 := Lib.hid (K_9.out.ex ee (fun h => h) (fun h => h))
  have S_10 := Lib.hid (S_9.out.ex ee (fun h => h))
  clear ee T_9 L_9 P_9 K_9 S_9 hb
  go_wp2_with fail
  go_ret
  exact ⟨rfl, L_10.out.low.mono HBS.out⟩
set_option maxRecDepth 100000 in
set_option maxHeartbeats 1000000 in
theorem Nl_lo_in (a kd so mo : Int) (fr : Bool) (fl n : Int) (w : World) (ht : Tab w) (hn : n < 1) (hm : (⟨kd, so, mo, fr, fl⟩ : Pl).May n) (hp : (⟨kd, so, mo, fr, fl⟩ : Pl).Ok) (ha : 0 ≤ a ∧ a < 2) :
    Calls Tryd.prog 4 #[.int .i64 a, .agg #[.int .i64 kd, .int .i64 so, .int .i64 mo, .bool fr, .int .i64 fl], .int .i64 n] w fun e w' => e = .returned (.bool true) ∧ Below w.heap.size w w' := by
  have t1 : decide (n ≥ 1) = false := decide_eq_false (by omega)
  have ham := fun W => AMost_any n W
  simp only [show amostF n = 0 from if_neg (by omega)] at ham
  have HAM := Lib.hid ham
  clear ham hn
  have hpl := fun W => plain_any (⟨kd, so, mo, fr, fl⟩ : Pl) n W
  have hmy := fun W => May_any (⟨kd, so, mo, fr, fl⟩ : Pl) n W
  simp only [decide_eq_true hm] at hmy
  obtain ⟨C, hC⟩ : ∃ C, RX.cells (⟨kd, so, mo, fr, fl⟩ : Pl) n RX.zero = C := ⟨_, rfl⟩
  have HCS := Lib.hid (show C.size = 18 from hC ▸ RX.cells_size _ _ _)
  have HCO := Lib.hid (show C.all (·.oneCell') = true from hC ▸ RX.cells_one _ _ _)
  simp only [hC] at hpl hmy
  unfold Pl.val at hpl
  simp only at hpl
  have HPL := Lib.hid hpl
  have HMY := Lib.hid hmy
  clear hpl hmy hC
  have hbg := fun W hz => begin_in a n (⟨kd, so, mo, fr, fl⟩ : Pl) W hz hm
  unfold Pl.val at hbg
  simp only at hbg
  have hok := Pl.kd_ok hp
  have hiv := Pl.inv hm
  obtain ⟨k, hk⟩ : ∃ k, (⟨kd, so, mo, fr, fl⟩ : Pl).kd = k := ⟨_, rfl⟩
  obtain ⟨m, hmm⟩ : ∃ m, (⟨kd, so, mo, fr, fl⟩ : Pl).n n = m := ⟨_, rfl⟩
  simp only [hk, hmm] at hbg hok hiv
  have HBG := Lib.hid hbg
  have HOK := Lib.hid hok
  have HIV := Lib.hid hiv
  clear hbg hok hiv hk hmm hm hp
  have a1 : decide (a ≥ 0) = true := decide_eq_true ha.1
  have a2 : decide (a < 2) = true := decide_eq_true ha.2
  clear ha
  have hq0 := (blk_new' w (g := w.heap.size) (by simp) 41 #[.int .i64 kd, .int .i64 so, .int .i64 mo, .bool fr, .int .i64 fl])
  have hlo := ((Below.refl w.heap.size w).alloc (by first | exact Nat.le_refl _ | (simp; done) | (simp; omega)) (.cells #[.int .i64 kd, .int .i64 so, .int .i64 mo, .bool fr, .int .i64 fl] 41))
  have hz0 : 0 < w.heap.size := lt_of_cell (ht 0 (by decide))
  have ht1 := ht.below hlo
  go_enter Tryd.func4, Tryd.ntmps4
  go_upto_region 1 with fail
  generalize (w.alloc (.cells #[.int .i64 kd, .int .i64 so, .int .i64 mo, .bool fr, .int .i64 fl] 41)) = w1 at *
  obtain ⟨pb, hfb⟩ : ∃ pb, w.heap.size = pb := ⟨_, rfl⟩
  have hlo9 : Lo w.heap.size w w1 := ⟨hlo, hlo.size⟩
  have HBS := Lib.hid (Nat.le_of_eq hfb)
  simp only [hfb] at hlo9 hz0 hq0 ⊢
  have ORD0 := Lib.hid (show 0 < pb from hz0)
  have T0 := Lib.hid ht1
  have L0 := Lib.hid hlo9
  have P0 := Lib.hid hq0
  clear ht ht1 hlo hlo9 hz0 hfb  hq0
  go_wp2_with fail
  refine (New_in 2 (by decide) (by decide) w1).mono ?_; rintro e w2 ⟨rfl, hb, hl, hsz⟩
  have hb : BankAt w2 (w1.heap.size + 1) w1.heap.size [0, 0] 0 := hb
  obtain ⟨rr, hrr⟩ : ∃ rr, w1.heap.size = rr := ⟨_, rfl⟩
  have hlt : pb < rr := hrr ▸ P0.out.lt
  simp only [hrr] at hb ⊢
  obtain ⟨g, hg⟩ : ∃ g, rr + 1 = g := ⟨_, rfl⟩
  simp only [hg] at hb ⊢
  have ORD1 := Lib.hid (show 0 < pb ∧ pb < rr ∧ rr + 1 = g from by have o_ := ORD0.out; omega)
  have ee : Ex (fun _ => False) w1 w2 := Ex.of_below hl
  have T_2 := Lib.hid (T0.out.ex ee (fun h => h))
  have L_2 := Lib.hid (L0.out.ex ee (fun b_ h_ => h_.elim))
  have P_2 := Lib.hid (P0.out.ex ee (fun h => h))
  have K_2 := Lib.hid (hb)
  clear ee T0 L0 P0 hb hl hsz hrr hlt hg ORD0
  go_wp2_with fail
  have hgn := Got_nil w2
  unfold St.val at hgn
  simp only [St.zero] at hgn
  have HGN := Lib.hid hgn
  clear hgn
  refine (HGN.out).mono ?_; rintro e w3 ⟨rfl, hb⟩
  clear HGN
  have ee : Ex (fun _ => False) w2 w3 := Ex.of_below hb
  have T_3 := Lib.hid (T_2.out.ex ee (fun h => h))
  have L_3 := Lib.hid (L_2.out.ex ee (fun b_ h_ => h_.elim))
  have P_3 := Lib.hid (P_2.out.ex ee (fun h => h))
  have K_3 := Lib.hid (K_2.out.ex ee (fun h => h) (fun h => h))
  clear ee T_2 L_2 P_2 K_2 hb
  go_upto_region 6 with fail
  obtain ⟨sb, hsb, hM⟩ : ∃ sb : Nat, w3.heap.size = sb ∧ g < sb ∧ rr < sb := ⟨w3.heap.size, rfl, K_3.out.head.lt, K_3.out.row.lt⟩
  have ORD4 := Lib.hid (show 0 < pb ∧ pb < rr ∧ rr + 1 = g ∧ g < sb ∧ rr < sb from by have o_ := ORD1.out; omega)
  have hnb := Blk.new w3 34 #[.int .i64 0, .int .i64 0, .bool false, .int .i64 0, .int .u64 0]
  rw [hsb] at hnb
  simp only [hsb]
  have ee : Ex (fun _ => False) w3 (w3.alloc (.cells #[.int .i64 0, .int .i64 0, .bool false, .int .i64 0, .int .u64 0] 34)) := (Ex.refl (fun _ => False) w3).alloc (.cells #[.int .i64 0, .int .i64 0, .bool false, .int .i64 0, .int .u64 0] 34)
  have T_5 := Lib.hid (T_3.out.ex ee (fun h => h))
  have L_5 := Lib.hid (L_3.out.ex ee (fun b_ h_ => h_.elim))
  have P_5 := Lib.hid (P_3.out.ex ee (fun h => h))
  have K_5 := Lib.hid (K_3.out.ex ee (fun h => h) (fun h => h))
  have S_5 := Lib.hid (hnb)
  clear ee T_3 L_3 P_3 K_3 hnb hM ORD1
  generalize w3.alloc (.cells #[.int .i64 0, .int .i64 0, .bool false, .int .i64 0, .int .u64 0] 34) = w4 at *
  clear hsb
  go_wp2_with fail
  refine (Step_nil _ w4).mono ?_; rintro e w_ ⟨rfl, rfl⟩
  have Sq0 := (S_5.out).cell 0
  have Sq1 := (S_5.out).cell 1
  have Sq2 := (S_5.out).cell 2
  have Sq3 := (S_5.out).cell 3
  have Sq4 := (S_5.out).cell 4
  simp only [List.getElem?_toArray, List.getElem?_cons_succ, List.getElem?_cons_zero] at Sq0 Sq1 Sq2 Sq3 Sq4
  go_wp2_with fail
  refine (At_nil w4).mono ?_; rintro e w_ ⟨rfl, rfl⟩
  go_wp2_with fail
  refine (Steps_nil w4).mono ?_; rintro e w_ ⟨rfl, rfl⟩
  go_wp2_with fail
  refine (HAM.out w4).mono ?_; rintro e w_ ⟨rfl, rfl⟩
  clear Sq0 Sq1 Sq2 Sq3 Sq4
  have Pq0 := (P_5.out).cell 0
  have Pq1 := (P_5.out).cell 1
  have Pq2 := (P_5.out).cell 2
  have Pq3 := (P_5.out).cell 3
  have Pq4 := (P_5.out).cell 4
  simp only [List.getElem?_toArray, List.getElem?_cons_succ, List.getElem?_cons_zero] at Pq0 Pq1 Pq2 Pq3 Pq4
  go_wp2_with fail
  clear Pq0 Pq1 Pq2 Pq3 Pq4
  refine (HBG.out w4 (Nat.lt_of_le_of_lt (Nat.zero_le _) K_5.out.head.lt)).mono ?_; rintro e w6a ⟨oa, ba, rfl, ha, hs1, hs2, hs3, hs4, hb⟩
  obtain ⟨Ma, hM⟩ : ∃ Ma : Nat, g < Ma ∧ rr < Ma ∧ sb < Ma ∧ Ma ≤ oa ∧ (Ma ≤ ba ∨ ba = 0) := ⟨w4.heap.size, K_5.out.head.lt, K_5.out.row.lt, S_5.out.lt, hs1, hs2⟩
  have ORD6 := Lib.hid (show 0 < pb ∧ pb < rr ∧ rr + 1 = g ∧ g < sb ∧ rr < sb ∧ g < Ma ∧ rr < Ma ∧ sb < Ma ∧ Ma ≤ oa ∧ (Ma ≤ ba ∨ ba = 0) from by have o_ := ORD4.out; omega)
  have Ia_6 := Lib.hid (show AInv k m (AX.zero m) from HIV.out)
  have ee : Ex (fun _ => False) w4 w6a := Ex.of_below hb
  have T_7 := Lib.hid (T_5.out.ex ee (fun h => h))
  have L_7 := Lib.hid (L_5.out.ex ee (fun b_ h_ => h_.elim))
  have P_7 := Lib.hid (P_5.out.ex ee (fun h => h))
  have K_7 := Lib.hid (K_5.out.ex ee (fun h => h) (fun h => h))
  have S_7 := Lib.hid (S_5.out.ex ee (fun h => h))
  have Aa_7 := Lib.hid (ha)
  clear ee T_5 L_5 P_5 K_5 S_5 hb hs1 hs2 hs3 hs4 hM ORD4
  have Pq0 := (P_7.out).cell 0
  have Pq1 := (P_7.out).cell 1
  have Pq2 := (P_7.out).cell 2
  have Pq3 := (P_7.out).cell 3
  have Pq4 := (P_7.out).cell 4
  simp only [List.getElem?_toArray, List.getElem?_cons_succ, List.getElem?_cons_zero] at Pq0 Pq1 Pq2 Pq3 Pq4
  go_wp2_with fail
  refine (HPL.out w6a).mono ?_; rintro e w6 ⟨rfl, hb⟩
  clear Pq0 Pq1 Pq2 Pq3 Pq4
  have ee : Ex (fun _ => False) w6a w6 := Ex.of_below hb
  have T_8 := Lib.hid (T_7.out.ex ee (fun h => h))
  have L_8 := Lib.hid (L_7.out.ex ee (fun b_ h_ => h_.elim))
  have P_8 := Lib.hid (P_7.out.ex ee (fun h => h))
  have K_8 := Lib.hid (K_7.out.ex ee (fun h => h) (fun h => h))
  have S_8 := Lib.hid (S_7.out.ex ee (fun h => h))
  have Aa_8 := Lib.hid (Aa_7.out.ex ee (fun h => h) (fun h => h))
  clear ee T_7 L_7 P_7 K_7 S_7 Aa_7 hb
  have hBn := Blk.new w6 46 #[.int .i64 0, .int .i64 0, .int .i64 0, .bool false, .int .i64 0, .int .i64 0, .int .i64 0, .int .i64 0, .int .u64 0, .int .i64 0, .int .i64 0, .int .i64 0, .bool false, .int .i64 0, .int .u64 0, .int .i64 0, .int .i64 0, .int .i64 0]
  have hBm := Blk.rowed w6 46 #[.int .i64 0, .int .i64 0, .int .i64 0, .bool false, .int .i64 0, .int .i64 0, .int .i64 0, .int .i64 0, .int .u64 0, .int .i64 0, .int .i64 0, .int .i64 0, .bool false, .int .i64 0, .int .u64 0, .int .i64 0, .int .i64 0, .int .i64 0] C
  have hci : (Tryd.prog.info? 46).map (·.size) = some C.size := by rw [HCS.out]; kernel_rfl
  go_wp2_with (first | refine wpList_store_row rfl 46 _ _ rfl w6.heap.size C rfl rfl 46 #[.int .i64 0, .int .i64 0, .int .i64 0, .bool false, .int .i64 0, .int .i64 0, .int .i64 0, .int .i64 0, .int .u64 0, .int .i64 0, .int .i64 0, .int .i64 0, .bool false, .int .i64 0, .int .u64 0, .int .i64 0, .int .i64 0, .int .i64 0] hBn hci HCS.out.symm HCO.out ?_ | refine wpList_load_row rfl 46 _ rfl w6.heap.size rfl 46 C (0, 0) _ hBm Tryd.underlying46 rfl hci ?_)
  have ee : Ex (fun _ => False) w6 ((w6.alloc (.cells #[.int .i64 0, .int .i64 0, .int .i64 0, .bool false, .int .i64 0, .int .i64 0, .int .i64 0, .int .i64 0, .int .u64 0, .int .i64 0, .int .i64 0, .int .i64 0, .bool false, .int .i64 0, .int .u64 0, .int .i64 0, .int .i64 0, .int .i64 0] 46)).setRow w6.heap.size C) := Ex.rowed
  have T_9 := Lib.hid (T_8.out.ex ee (fun h => h))
  have L_9 := Lib.hid (L_8.out.ex ee (fun b_ h_ => h_.elim))
  have P_9 := Lib.hid (P_8.out.ex ee (fun h => h))
  have K_9 := Lib.hid (K_8.out.ex ee (fun h => h) (fun h => h))
  have S_9 := Lib.hid (S_8.out.ex ee (fun h => h))
  have Aa_9 := Lib.hid (Aa_8.out.ex ee (fun h => h) (fun h => h))
  clear ee T_8 L_8 P_8 K_8 S_8 Aa_8 hBn hBm hci
  generalize ((w6.alloc (.cells #[.int .i64 0, .int .i64 0, .int .i64 0, .bool false, .int .i64 0, .int .i64 0, .int .i64 0, .int .i64 0, .int .u64 0, .int .i64 0, .int .i64 0, .int .i64 0, .bool false, .int .i64 0, .int .u64 0, .int .i64 0, .int .i64 0, .int .i64 0] 46)).setRow w6.heap.size C) = w7 at *
  refine (HMY.out w7).mono ?_; rintro e w8 ⟨rfl, hb⟩
  have ee : Ex (fun _ => False) w7 w8 := Ex.of_below hb
  have T_10 := Lib.hid (T_9.out.ex ee (fun h => h))
  have L_10 := Lib.hid (L_9.out.ex ee (fun b_ h_ => h_.elim))
  have P_10 := Lib.hid (P_9.out.ex ee (fun h => h))
  have K_10 := Lib.hid (K_9.out.ex ee (fun h => h) (fun h => h))
  have S_10 := Lib.hid (S_9.out.ex ee (fun h => h))
  have Aa_10 := Lib.hid (Aa_9.out.ex ee (fun h => h) (fun h => h))
  clear ee T_9 L_9 P_9 K_9 S_9 Aa_9 hb
  go_wp2_with fail
  have HG := Lib.hid (Got_any oa ba k a ⟨0, false, 0, St.zero, St.zero, 0, m, 0⟩ w8 Aa_10.out)
  unfold St.val at HG
  simp only [AX.zero, St.zero] at HG
  refine (HG.out).mono ?_; rintro e w10 ⟨rfl, hb⟩
  clear HG
  have ee : Ex (fun _ => False) w8 w10 := Ex.of_below hb
  have T_11 := Lib.hid (T_10.out.ex ee (fun h => h))
  have L_11 := Lib.hid (L_10.out.ex ee (fun b_ h_ => h_.elim))
  have P_11 := Lib.hid (P_10.out.ex ee (fun h => h))
  have K_11 := Lib.hid (K_10.out.ex ee (fun h => h) (fun h => h))
  have S_11 := Lib.hid (S_10.out.ex ee (fun h => h))
  have Aa_11 := Lib.hid (Aa_10.out.ex ee (fun h => h) (fun h => h))
  clear ee T_10 L_10 P_10 K_10 S_10 Aa_10 hb
  have Sq0 := (S_11.out).cell 0
  have Sq1 := (S_11.out).cell 1
  have Sq2 := (S_11.out).cell 2
  have Sq3 := (S_11.out).cell 3
  have Sq4 := (S_11.out).cell 4
  simp only [List.getElem?_toArray, List.getElem?_cons_succ, List.getElem?_cons_zero] at Sq0 Sq1 Sq2 Sq3 Sq4
  have Sf0 := (S_11.out).frozen 0
  have Sf1 := (S_11.out).frozen 1
  have Sf2 := (S_11.out).frozen 2
  have Sf3 := (S_11.out).frozen 3
  have Sf4 := (S_11.out).frozen 4
  go_upto_region 20 with fail
  clear Sq0 Sq1 Sq2 Sq3 Sq4 Sf0 Sf1 Sf2 Sf3 Sf4
  have hbb := set5_blk (x0 := .int .i64 0) (x1 := .int .i64 0) (x2 := .bool false) (x3 := .int .i64 0) (x4 := .int .u64 0) S_11.out
  have ee : Ex (fun k => k = sb) w10 (((((w10.setCell ⟨sb, 0, none⟩ (.int .i64 0)).setCell ⟨sb, 1, none⟩ (.int .i64 0)).setCell ⟨sb, 2, none⟩ (.bool false)).setCell ⟨sb, 3, none⟩ (.int .i64 0)).setCell ⟨sb, 4, none⟩ (.int .u64 0)) := ((((((Ex.refl (fun q => q = sb) w10).setCell (q := ⟨sb, 0, none⟩) (.inl rfl) (.int .i64 0)).setCell (q := ⟨sb, 1, none⟩) (.inl rfl) (.int .i64 0)).setCell (q := ⟨sb, 2, none⟩) (.inl rfl) (.bool false)).setCell (q := ⟨sb, 3, none⟩) (.inl rfl) (.int .i64 0)).setCell (q := ⟨sb, 4, none⟩) (.inl rfl) (.int .u64 0))
  have T_12 := Lib.hid (T_11.out.ex ee (by have o_ := ORD6.out; omega))
  have L_12 := Lib.hid (L_11.out.ex ee (fun b_ h_ => by have o_ := ORD6.out; have h_ : b_ = sb := h_; first | omega | (show _ ∨ _; omega)))
  have P_12 := Lib.hid (P_11.out.ex ee (by have o_ := ORD6.out; omega))
  have K_12 := Lib.hid (K_11.out.ex ee (by have o_ := ORD6.out; omega) (by have o_ := ORD6.out; omega))
  have Aa_12 := Lib.hid (Aa_11.out.ex ee (by have o_ := ORD6.out; omega) (by have o_ := ORD6.out; omega))
  have S_12 := Lib.hid (hbb)
  clear ee T_11 L_11 P_11 K_11 S_11 Aa_11 hbb
  generalize (((((w10.setCell ⟨sb, 0, none⟩ (.int .i64 0)).setCell ⟨sb, 1, none⟩ (.int .i64 0)).setCell ⟨sb, 2, none⟩ (.bool false)).setCell ⟨sb, 3, none⟩ (.int .i64 0)).setCell ⟨sb, 4, none⟩ (.int .u64 0)) = w11 at *
  have Sq0 := (S_12.out).cell 0
  have Sq1 := (S_12.out).cell 1
  have Sq2 := (S_12.out).cell 2
  have Sq3 := (S_12.out).cell 3
  have Sq4 := (S_12.out).cell 4
  simp only [List.getElem?_toArray, List.getElem?_cons_succ, List.getElem?_cons_zero] at Sq0 Sq1 Sq2 Sq3 Sq4
  go_wp2_with fail
  refine (At_not oa ba k a ⟨0, false, 0, St.zero, St.zero, 0, m, 0⟩ w11 Aa_12.out (show (0 : Int) ≠ 1 by decide)).mono ?_; rintro e w_ ⟨rfl, rfl⟩
  go_wp2_with fail
  refine (Steps_any oa ba k a ⟨0, false, 0, St.zero, St.zero, 0, m, 0⟩ w11 Aa_12.out).mono ?_; rintro e w_ ⟨rfl, rfl⟩
  go_wp2_with fail
  clear Sq0 Sq1 Sq2 Sq3 Sq4
  refine (Step_nilbank oa ba k a 0 St.zero St.zero 0 m 0 w11 Aa_12.out).mono ?_; rintro e w12 ⟨rfl, ha, hx⟩
  have ee : Ex (fun k => k = oa) w11 w12 := hx
  have T_13 := Lib.hid (T_12.out.ex ee (by have o_ := ORD6.out; omega))
  have L_13 := Lib.hid (L_12.out.ex ee (fun b_ h_ => by have o_ := ORD6.out; have h_ : b_ = oa := h_; first | omega | (show _ ∨ _; omega)))
  have P_13 := Lib.hid (P_12.out.ex ee (by have o_ := ORD6.out; omega))
  have K_13 := Lib.hid (K_12.out.ex ee (by have o_ := ORD6.out; omega) (by have o_ := ORD6.out; omega))
  have S_13 := Lib.hid (S_12.out.ex ee (by have o_ := ORD6.out; omega))
  have Aa_13 := Lib.hid (ha)
  clear ee T_12 L_12 P_12 K_12 S_12 Aa_12 ha hx
  go_wp2_with fail
  have HG := Lib.hid (Got_any oa ba k a ⟨3, false, 0, St.zero, St.zero, 2, m, 0⟩ w12 Aa_13.out)
  unfold St.val at HG
  simp only [AX.zero, St.zero] at HG
  refine (HG.out).mono ?_; rintro e w13 ⟨rfl, hb⟩
  clear HG
  have ee : Ex (fun _ => False) w12 w13 := Ex.of_below hb
  have T_14 := Lib.hid (T_13.out.ex ee (fun h => h))
  have L_14 := Lib.hid (L_13.out.ex ee (fun b_ h_ => h_.elim))
  have P_14 := Lib.hid (P_13.out.ex ee (fun h => h))
  have K_14 := Lib.hid (K_13.out.ex ee (fun h => h) (fun h => h))
  have S_14 := Lib.hid (S_13.out.ex ee (fun h => h))
  have Aa_14 := Lib.hid (Aa_13.out.ex ee (fun h => h) (fun h => h))
  clear ee T_13 L_13 P_13 K_13 S_13 Aa_13 hb
  have Sq0 := (S_14.out).cell 0
  have Sq1 := (S_14.out).cell 1
  have Sq2 := (S_14.out).cell 2
  have Sq3 := (S_14.out).cell 3
  have Sq4 := (S_14.out).cell 4
  simp only [List.getElem?_toArray, List.getElem?_cons_succ, List.getElem?_cons_zero] at Sq0 Sq1 Sq2 Sq3 Sq4
  have Sf0 := (S_14.out).frozen 0
  have Sf1 := (S_14.out).frozen 1
  have Sf2 := (S_14.out).frozen 2
  have Sf3 := (S_14.out).frozen 3
  have Sf4 := (S_14.out).frozen 4
  go_upto_region 25 with fail
  clear Sq0 Sq1 Sq2 Sq3 Sq4 Sf0 Sf1 Sf2 Sf3 Sf4
  have hbb := set5_blk (x0 := .int .i64 0) (x1 := .int .i64 0) (x2 := .bool false) (x3 := .int .i64 0) (x4 := .int .u64 0) S_14.out
  have ee : Ex (fun k => k = sb) w13 (((((w13.setCell ⟨sb, 0, none⟩ (.int .i64 0)).setCell ⟨sb, 1, none⟩ (.int .i64 0)).setCell ⟨sb, 2, none⟩ (.bool false)).setCell ⟨sb, 3, none⟩ (.int .i64 0)).setCell ⟨sb, 4, none⟩ (.int .u64 0)) := ((((((Ex.refl (fun q => q = sb) w13).setCell (q := ⟨sb, 0, none⟩) (.inl rfl) (.int .i64 0)).setCell (q := ⟨sb, 1, none⟩) (.inl rfl) (.int .i64 0)).setCell (q := ⟨sb, 2, none⟩) (.inl rfl) (.bool false)).setCell (q := ⟨sb, 3, none⟩) (.inl rfl) (.int .i64 0)).setCell (q := ⟨sb, 4, none⟩) (.inl rfl) (.int .u64 0))
  have T_15 := Lib.hid (T_14.out.ex ee (by have o_ := ORD6.out; omega))
  have L_15 := Lib.hid (L_14.out.ex ee (fun b_ h_ => by have o_ := ORD6.out; have h_ : b_ = sb := h_; first | omega | (show _ ∨ _; omega)))
  have P_15 := Lib.hid (P_14.out.ex ee (by have o_ := ORD6.out; omega))
  have K_15 := Lib.hid (K_14.out.ex ee (by have o_ := ORD6.out; omega) (by have o_ := ORD6.out; omega))
  have Aa_15 := Lib.hid (Aa_14.out.ex ee (by have o_ := ORD6.out; omega) (by have o_ := ORD6.out; omega))
  have S_15 := Lib.hid (hbb)
  clear ee T_14 L_14 P_14 K_14 S_14 Aa_14 hbb
  generalize (((((w13.setCell ⟨sb, 0, none⟩ (.int .i64 0)).setCell ⟨sb, 1, none⟩ (.int .i64 0)).setCell ⟨sb, 2, none⟩ (.bool false)).setCell ⟨sb, 3, none⟩ (.int .i64 0)).setCell ⟨sb, 4, none⟩ (.int .u64 0)) = w14 at *
  have Sq0 := (S_15.out).cell 0
  have Sq1 := (S_15.out).cell 1
  have Sq2 := (S_15.out).cell 2
  have Sq3 := (S_15.out).cell 3
  have Sq4 := (S_15.out).cell 4
  simp only [List.getElem?_toArray, List.getElem?_cons_succ, List.getElem?_cons_zero] at Sq0 Sq1 Sq2 Sq3 Sq4
  go_wp2_with fail
  have IZ := Lib.hid (show AInv k m ⟨3, false, 0, St.zero, St.zero, 2, m, 0⟩ from by have := HIV.out; exact ⟨this.nn, by simp, fun h => by simp at h, fun h => by simp at h, fun _ => ⟨rfl, fun h => by simp at h⟩, fun h => by simp at h⟩)
  have hq := still_step (k := k) (at_ := a) (ws := [0, 0]) (t := 0) (x := ⟨3, false, 0, St.zero, St.zero, 2, m, 0⟩) (by simp)
  refine (Step_any g rr oa ba [0, 0] 0 k HOK.out m a ⟨3, false, 0, St.zero, St.zero, 2, m, 0⟩ IZ.out w14 Aa_15.out K_15.out T_15.out (by have o_ := ORD6.out; omega)).mono ?_; rintro e w15 ⟨rfl, hb, ha, hx⟩
  rw [hq.2.1, hq.2.2] at hb
  rw [hq.1] at ha ⊢
  clear Sq0 Sq1 Sq2 Sq3 Sq4
  have ee : Ex (fun k => k = g ∨ k = rr ∨ k = oa) w14 w15 := hx
  have T_16 := Lib.hid (T_15.out.ex ee (by have o_ := ORD6.out; omega))
  have L_16 := Lib.hid (L_15.out.ex ee (fun b_ h_ => by have o_ := ORD6.out; have h_ : b_ = g ∨ b_ = rr ∨ b_ = oa := h_; first | omega | (show _ ∨ _; omega)))
  have P_16 := Lib.hid (P_15.out.ex ee (by have o_ := ORD6.out; omega))
  have S_16 := Lib.hid (S_15.out.ex ee (by have o_ := ORD6.out; omega))
  have K_16 := Lib.hid (hb)
  have Aa_16 := Lib.hid (ha)
  clear ee T_15 L_15 P_15 K_15 S_15 Aa_15 hb ha hx hq
  go_wp2_with fail
  refine (Touches_any g rr [0, 0] 0 w15 K_16.out).mono ?_; rintro e w_ ⟨rfl, rfl⟩
  go_wp2_with fail
  refine (awake_any w15 T_16.out).mono ?_; rintro e w16 ⟨rfl, hb⟩
  have ee : Ex (fun _ => False) w15 w16 := Ex.of_below hb
  have T_17 := Lib.hid (T_16.out.ex ee (fun h => h))
  have L_17 := Lib.hid (L_16.out.ex ee (fun b_ h_ => h_.elim))
  have P_17 := Lib.hid (P_16.out.ex ee (fun h => h))
  have K_17 := Lib.hid (K_16.out.ex ee (fun h => h) (fun h => h))
  have S_17 := Lib.hid (S_16.out.ex ee (fun h => h))
  have Aa_17 := Lib.hid (Aa_16.out.ex ee (fun h => h) (fun h => h))
  clear ee T_16 L_16 P_16 K_16 S_16 Aa_16 hb
  go_wp2_with fail
  go_ret
  exact ⟨rfl, L_17.out.low.mono HBS.out⟩
set_option maxRecDepth 100000 in
set_option maxHeartbeats 1000000 in
theorem Nl_lo_neg (a kd so mo : Int) (fr : Bool) (fl n : Int) (w : World) (ht : Tab w) (hn : n < 1) (hm : (⟨kd, so, mo, fr, fl⟩ : Pl).May n) (hp : (⟨kd, so, mo, fr, fl⟩ : Pl).Ok) (ha : a < 0) :
    Calls Tryd.prog 4 #[.int .i64 a, .agg #[.int .i64 kd, .int .i64 so, .int .i64 mo, .bool fr, .int .i64 fl], .int .i64 n] w fun e w' => e = .returned (.bool true) ∧ Below w.heap.size w w' := by
  have t1 : decide (n ≥ 1) = false := decide_eq_false (by omega)
  have ham := fun W => AMost_any n W
  simp only [show amostF n = 0 from if_neg (by omega)] at ham
  have HAM := Lib.hid ham
  clear ham hn
  have hpl := fun W => plain_any (⟨kd, so, mo, fr, fl⟩ : Pl) n W
  have hmy := fun W => May_any (⟨kd, so, mo, fr, fl⟩ : Pl) n W
  simp only [decide_eq_true hm] at hmy
  obtain ⟨C, hC⟩ : ∃ C, RX.cells (⟨kd, so, mo, fr, fl⟩ : Pl) n RX.zero = C := ⟨_, rfl⟩
  have HCS := Lib.hid (show C.size = 18 from hC ▸ RX.cells_size _ _ _)
  have HCO := Lib.hid (show C.all (·.oneCell') = true from hC ▸ RX.cells_one _ _ _)
  simp only [hC] at hpl hmy
  unfold Pl.val at hpl
  simp only at hpl
  have HPL := Lib.hid hpl
  have HMY := Lib.hid hmy
  clear hpl hmy hC
  have hbg := fun W hz => begin_in a n (⟨kd, so, mo, fr, fl⟩ : Pl) W hz hm
  unfold Pl.val at hbg
  simp only at hbg
  have hok := Pl.kd_ok hp
  have hiv := Pl.inv hm
  obtain ⟨k, hk⟩ : ∃ k, (⟨kd, so, mo, fr, fl⟩ : Pl).kd = k := ⟨_, rfl⟩
  obtain ⟨m, hmm⟩ : ∃ m, (⟨kd, so, mo, fr, fl⟩ : Pl).n n = m := ⟨_, rfl⟩
  simp only [hk, hmm] at hbg hok hiv
  have HBG := Lib.hid hbg
  have HOK := Lib.hid hok
  have HIV := Lib.hid hiv
  clear hbg hok hiv hk hmm hm hp
  have a1 : decide (a ≥ 0) = false := decide_eq_false (by omega)
  have HIN := Lib.hid (show ¬ inW [0, 0] a from fun h => by have := h.1; omega)
  clear ha
  have hq0 := (blk_new' w (g := w.heap.size) (by simp) 41 #[.int .i64 kd, .int .i64 so, .int .i64 mo, .bool fr, .int .i64 fl])
  have hlo := ((Below.refl w.heap.size w).alloc (by first | exact Nat.le_refl _ | (simp; done) | (simp; omega)) (.cells #[.int .i64 kd, .int .i64 so, .int .i64 mo, .bool fr, .int .i64 fl] 41))
  have hz0 : 0 < w.heap.size := lt_of_cell (ht 0 (by decide))
  have ht1 := ht.below hlo
  go_enter Tryd.func4, Tryd.ntmps4
  go_upto_region 1 with fail
  generalize (w.alloc (.cells #[.int .i64 kd, .int .i64 so, .int .i64 mo, .bool fr, .int .i64 fl] 41)) = w1 at *
  obtain ⟨pb, hfb⟩ : ∃ pb, w.heap.size = pb := ⟨_, rfl⟩
  have hlo9 : Lo w.heap.size w w1 := ⟨hlo, hlo.size⟩
  have HBS := Lib.hid (Nat.le_of_eq hfb)
  simp only [hfb] at hlo9 hz0 hq0 ⊢
  have ORD0 := Lib.hid (show 0 < pb from hz0)
  have T0 := Lib.hid ht1
  have L0 := Lib.hid hlo9
  have P0 := Lib.hid hq0
  clear ht ht1 hlo hlo9 hz0 hfb  hq0
  go_wp2_with fail
  refine (New_in 2 (by decide) (by decide) w1).mono ?_; rintro e w2 ⟨rfl, hb, hl, hsz⟩
  have hb : BankAt w2 (w1.heap.size + 1) w1.heap.size [0, 0] 0 := hb
  obtain ⟨rr, hrr⟩ : ∃ rr, w1.heap.size = rr := ⟨_, rfl⟩
  have hlt : pb < rr := hrr ▸ P0.out.lt
  simp only [hrr] at hb ⊢
  obtain ⟨g, hg⟩ : ∃ g, rr + 1 = g := ⟨_, rfl⟩
  simp only [hg] at hb ⊢
  have ORD1 := Lib.hid (show 0 < pb ∧ pb < rr ∧ rr + 1 = g from by have o_ := ORD0.out; omega)
  have ee : Ex (fun _ => False) w1 w2 := Ex.of_below hl
  have T_2 := Lib.hid (T0.out.ex ee (fun h => h))
  have L_2 := Lib.hid (L0.out.ex ee (fun b_ h_ => h_.elim))
  have P_2 := Lib.hid (P0.out.ex ee (fun h => h))
  have K_2 := Lib.hid (hb)
  clear ee T0 L0 P0 hb hl hsz hrr hlt hg ORD0
  go_wp2_with fail
  have hgn := Got_nil w2
  unfold St.val at hgn
  simp only [St.zero] at hgn
  have HGN := Lib.hid hgn
  clear hgn
  refine (HGN.out).mono ?_; rintro e w3 ⟨rfl, hb⟩
  clear HGN
  have ee : Ex (fun _ => False) w2 w3 := Ex.of_below hb
  have T_3 := Lib.hid (T_2.out.ex ee (fun h => h))
  have L_3 := Lib.hid (L_2.out.ex ee (fun b_ h_ => h_.elim))
  have P_3 := Lib.hid (P_2.out.ex ee (fun h => h))
  have K_3 := Lib.hid (K_2.out.ex ee (fun h => h) (fun h => h))
  clear ee T_2 L_2 P_2 K_2 hb
  go_upto_region 6 with fail
  obtain ⟨sb, hsb, hM⟩ : ∃ sb : Nat, w3.heap.size = sb ∧ g < sb ∧ rr < sb := ⟨w3.heap.size, rfl, K_3.out.head.lt, K_3.out.row.lt⟩
  have ORD4 := Lib.hid (show 0 < pb ∧ pb < rr ∧ rr + 1 = g ∧ g < sb ∧ rr < sb from by have o_ := ORD1.out; omega)
  have hnb := Blk.new w3 34 #[.int .i64 0, .int .i64 0, .bool false, .int .i64 0, .int .u64 0]
  rw [hsb] at hnb
  simp only [hsb]
  have ee : Ex (fun _ => False) w3 (w3.alloc (.cells #[.int .i64 0, .int .i64 0, .bool false, .int .i64 0, .int .u64 0] 34)) := (Ex.refl (fun _ => False) w3).alloc (.cells #[.int .i64 0, .int .i64 0, .bool false, .int .i64 0, .int .u64 0] 34)
  have T_5 := Lib.hid (T_3.out.ex ee (fun h => h))
  have L_5 := Lib.hid (L_3.out.ex ee (fun b_ h_ => h_.elim))
  have P_5 := Lib.hid (P_3.out.ex ee (fun h => h))
  have K_5 := Lib.hid (K_3.out.ex ee (fun h => h) (fun h => h))
  have S_5 := Lib.hid (hnb)
  clear ee T_3 L_3 P_3 K_3 hnb hM ORD1
  generalize w3.alloc (.cells #[.int .i64 0, .int .i64 0, .bool false, .int .i64 0, .int .u64 0] 34) = w4 at *
  clear hsb
  go_wp2_with fail
  refine (Step_nil _ w4).mono ?_; rintro e w_ ⟨rfl, rfl⟩
  have Sq0 := (S_5.out).cell 0
  have Sq1 := (S_5.out).cell 1
  have Sq2 := (S_5.out).cell 2
  have Sq3 := (S_5.out).cell 3
  have Sq4 := (S_5.out).cell 4
  simp only [List.getElem?_toArray, List.getElem?_cons_succ, List.getElem?_cons_zero] at Sq0 Sq1 Sq2 Sq3 Sq4
  go_wp2_with fail
  refine (At_nil w4).mono ?_; rintro e w_ ⟨rfl, rfl⟩
  go_wp2_with fail
  refine (Steps_nil w4).mono ?_; rintro e w_ ⟨rfl, rfl⟩
  go_wp2_with fail
  refine (HAM.out w4).mono ?_; rintro e w_ ⟨rfl, rfl⟩
  clear Sq0 Sq1 Sq2 Sq3 Sq4
  have Pq0 := (P_5.out).cell 0
  have Pq1 := (P_5.out).cell 1
  have Pq2 := (P_5.out).cell 2
  have Pq3 := (P_5.out).cell 3
  have Pq4 := (P_5.out).cell 4
  simp only [List.getElem?_toArray, List.getElem?_cons_succ, List.getElem?_cons_zero] at Pq0 Pq1 Pq2 Pq3 Pq4
  go_wp2_with fail
  clear Pq0 Pq1 Pq2 Pq3 Pq4
  refine (HBG.out w4 (Nat.lt_of_le_of_lt (Nat.zero_le _) K_5.out.head.lt)).mono ?_; rintro e w6a ⟨oa, ba, rfl, ha, hs1, hs2, hs3, hs4, hb⟩
  obtain ⟨Ma, hM⟩ : ∃ Ma : Nat, g < Ma ∧ rr < Ma ∧ sb < Ma ∧ Ma ≤ oa ∧ (Ma ≤ ba ∨ ba = 0) := ⟨w4.heap.size, K_5.out.head.lt, K_5.out.row.lt, S_5.out.lt, hs1, hs2⟩
  have ORD6 := Lib.hid (show 0 < pb ∧ pb < rr ∧ rr + 1 = g ∧ g < sb ∧ rr < sb ∧ g < Ma ∧ rr < Ma ∧ sb < Ma ∧ Ma ≤ oa ∧ (Ma ≤ ba ∨ ba = 0) from by have o_ := ORD4.out; omega)
  have Ia_6 := Lib.hid (show AInv k m (AX.zero m) from HIV.out)
  have ee : Ex (fun _ => False) w4 w6a := Ex.of_below hb
  have T_7 := Lib.hid (T_5.out.ex ee (fun h => h))
  have L_7 := Lib.hid (L_5.out.ex ee (fun b_ h_ => h_.elim))
  have P_7 := Lib.hid (P_5.out.ex ee (fun h => h))
  have K_7 := Lib.hid (K_5.out.ex ee (fun h => h) (fun h => h))
  have S_7 := Lib.hid (S_5.out.ex ee (fun h => h))
  have Aa_7 := Lib.hid (ha)
  clear ee T_5 L_5 P_5 K_5 S_5 hb hs1 hs2 hs3 hs4 hM ORD4
  have Pq0 := (P_7.out).cell 0
  have Pq1 := (P_7.out).cell 1
  have Pq2 := (P_7.out).cell 2
  have Pq3 := (P_7.out).cell 3
  have Pq4 := (P_7.out).cell 4
  simp only [List.getElem?_toArray, List.getElem?_cons_succ, List.getElem?_cons_zero] at Pq0 Pq1 Pq2 Pq3 Pq4
  go_wp2_with fail
  refine (HPL.out w6a).mono ?_; rintro e w6 ⟨rfl, hb⟩
  clear Pq0 Pq1 Pq2 Pq3 Pq4
  have ee : Ex (fun _ => False) w6a w6 := Ex.of_below hb
  have T_8 := Lib.hid (T_7.out.ex ee (fun h => h))
  have L_8 := Lib.hid (L_7.out.ex ee (fun b_ h_ => h_.elim))
  have P_8 := Lib.hid (P_7.out.ex ee (fun h => h))
  have K_8 := Lib.hid (K_7.out.ex ee (fun h => h) (fun h => h))
  have S_8 := Lib.hid (S_7.out.ex ee (fun h => h))
  have Aa_8 := Lib.hid (Aa_7.out.ex ee (fun h => h) (fun h => h))
  clear ee T_7 L_7 P_7 K_7 S_7 Aa_7 hb
  have hBn := Blk.new w6 46 #[.int .i64 0, .int .i64 0, .int .i64 0, .bool false, .int .i64 0, .int .i64 0, .int .i64 0, .int .i64 0, .int .u64 0, .int .i64 0, .int .i64 0, .int .i64 0, .bool false, .int .i64 0, .int .u64 0, .int .i64 0, .int .i64 0, .int .i64 0]
  have hBm := Blk.rowed w6 46 #[.int .i64 0, .int .i64 0, .int .i64 0, .bool false, .int .i64 0, .int .i64 0, .int .i64 0, .int .i64 0, .int .u64 0, .int .i64 0, .int .i64 0, .int .i64 0, .bool false, .int .i64 0, .int .u64 0, .int .i64 0, .int .i64 0, .int .i64 0] C
  have hci : (Tryd.prog.info? 46).map (·.size) = some C.size := by rw [HCS.out]; kernel_rfl
  go_wp2_with (first | refine wpList_store_row rfl 46 _ _ rfl w6.heap.size C rfl rfl 46 #[.int .i64 0, .int .i64 0, .int .i64 0, .bool false, .int .i64 0, .int .i64 0, .int .i64 0, .int .i64 0, .int .u64 0, .int .i64 0, .int .i64 0, .int .i64 0, .bool false, .int .i64 0, .int .u64 0, .int .i64 0, .int .i64 0, .int .i64 0] hBn hci HCS.out.symm HCO.out ?_ | refine wpList_load_row rfl 46 _ rfl w6.heap.size rfl 46 C (0, 0) _ hBm Tryd.underlying46 rfl hci ?_)
  have ee : Ex (fun _ => False) w6 ((w6.alloc (.cells #[.int .i64 0, .int .i64 0, .int .i64 0, .bool false, .int .i64 0, .int .i64 0, .int .i64 0, .int .i64 0, .int .u64 0, .int .i64 0, .int .i64 0, .int .i64 0, .bool false, .int .i64 0, .int .u64 0, .int .i64 0, .int .i64 0, .int .i64 0] 46)).setRow w6.heap.size C) := Ex.rowed
  have T_9 := Lib.hid (T_8.out.ex ee (fun h => h))
  have L_9 := Lib.hid (L_8.out.ex ee (fun b_ h_ => h_.elim))
  have P_9 := Lib.hid (P_8.out.ex ee (fun h => h))
  have K_9 := Lib.hid (K_8.out.ex ee (fun h => h) (fun h => h))
  have S_9 := Lib.hid (S_8.out.ex ee (fun h => h))
  have Aa_9 := Lib.hid (Aa_8.out.ex ee (fun h => h) (fun h => h))
  clear ee T_8 L_8 P_8 K_8 S_8 Aa_8 hBn hBm hci
  generalize ((w6.alloc (.cells #[.int .i64 0, .int .i64 0, .int .i64 0, .bool false, .int .i64 0, .int .i64 0, .int .i64 0, .int .i64 0, .int .u64 0, .int .i64 0, .int .i64 0, .int .i64 0, .bool false, .int .i64 0, .int .u64 0, .int .i64 0, .int .i64 0, .int .i64 0] 46)).setRow w6.heap.size C) = w7 at *
  refine (HMY.out w7).mono ?_; rintro e w8 ⟨rfl, hb⟩
  have ee : Ex (fun _ => False) w7 w8 := Ex.of_below hb
  have T_10 := Lib.hid (T_9.out.ex ee (fun h => h))
  have L_10 := Lib.hid (L_9.out.ex ee (fun b_ h_ => h_.elim))
  have P_10 := Lib.hid (P_9.out.ex ee (fun h => h))
  have K_10 := Lib.hid (K_9.out.ex ee (fun h => h) (fun h => h))
  have S_10 := Lib.hid (S_9.out.ex ee (fun h => h))
  have Aa_10 := Lib.hid (Aa_9.out.ex ee (fun h => h) (fun h => h))
  clear ee T_9 L_9 P_9 K_9 S_9 Aa_9 hb
  go_wp2_with fail
  have HG := Lib.hid (Got_any oa ba k a ⟨0, false, 0, St.zero, St.zero, 0, m, 0⟩ w8 Aa_10.out)
  unfold St.val at HG
  simp only [AX.zero, St.zero] at HG
  refine (HG.out).mono ?_; rintro e w10 ⟨rfl, hb⟩
  clear HG
  have ee : Ex (fun _ => False) w8 w10 := Ex.of_below hb
  have T_11 := Lib.hid (T_10.out.ex ee (fun h => h))
  have L_11 := Lib.hid (L_10.out.ex ee (fun b_ h_ => h_.elim))
  have P_11 := Lib.hid (P_10.out.ex ee (fun h => h))
  have K_11 := Lib.hid (K_10.out.ex ee (fun h => h) (fun h => h))
  have S_11 := Lib.hid (S_10.out.ex ee (fun h => h))
  have Aa_11 := Lib.hid (Aa_10.out.ex ee (fun h => h) (fun h => h))
  clear ee T_10 L_10 P_10 K_10 S_10 Aa_10 hb
  have Sq0 := (S_11.out).cell 0
  have Sq1 := (S_11.out).cell 1
  have Sq2 := (S_11.out).cell 2
  have Sq3 := (S_11.out).cell 3
  have Sq4 := (S_11.out).cell 4
  simp only [List.getElem?_toArray, List.getElem?_cons_succ, List.getElem?_cons_zero] at Sq0 Sq1 Sq2 Sq3 Sq4
  have Sf0 := (S_11.out).frozen 0
  have Sf1 := (S_11.out).frozen 1
  have Sf2 := (S_11.out).frozen 2
  have Sf3 := (S_11.out).frozen 3
  have Sf4 := (S_11.out).frozen 4
  go_upto_region 20 with fail
  clear Sq0 Sq1 Sq2 Sq3 Sq4 Sf0 Sf1 Sf2 Sf3 Sf4
  have hbb := set5_blk (x0 := .int .i64 0) (x1 := .int .i64 0) (x2 := .bool false) (x3 := .int .i64 0) (x4 := .int .u64 0) S_11.out
  have ee : Ex (fun k => k = sb) w10 (((((w10.setCell ⟨sb, 0, none⟩ (.int .i64 0)).setCell ⟨sb, 1, none⟩ (.int .i64 0)).setCell ⟨sb, 2, none⟩ (.bool false)).setCell ⟨sb, 3, none⟩ (.int .i64 0)).setCell ⟨sb, 4, none⟩ (.int .u64 0)) := ((((((Ex.refl (fun q => q = sb) w10).setCell (q := ⟨sb, 0, none⟩) (.inl rfl) (.int .i64 0)).setCell (q := ⟨sb, 1, none⟩) (.inl rfl) (.int .i64 0)).setCell (q := ⟨sb, 2, none⟩) (.inl rfl) (.bool false)).setCell (q := ⟨sb, 3, none⟩) (.inl rfl) (.int .i64 0)).setCell (q := ⟨sb, 4, none⟩) (.inl rfl) (.int .u64 0))
  have T_12 := Lib.hid (T_11.out.ex ee (by have o_ := ORD6.out; omega))
  have L_12 := Lib.hid (L_11.out.ex ee (fun b_ h_ => by have o_ := ORD6.out; have h_ : b_ = sb := h_; first | omega | (show _ ∨ _; omega)))
  have P_12 := Lib.hid (P_11.out.ex ee (by have o_ := ORD6.out; omega))
  have K_12 := Lib.hid (K_11.out.ex ee (by have o_ := ORD6.out; omega) (by have o_ := ORD6.out; omega))
  have Aa_12 := Lib.hid (Aa_11.out.ex ee (by have o_ := ORD6.out; omega) (by have o_ := ORD6.out; omega))
  have S_12 := Lib.hid (hbb)
  clear ee T_11 L_11 P_11 K_11 S_11 Aa_11 hbb
  generalize (((((w10.setCell ⟨sb, 0, none⟩ (.int .i64 0)).setCell ⟨sb, 1, none⟩ (.int .i64 0)).setCell ⟨sb, 2, none⟩ (.bool false)).setCell ⟨sb, 3, none⟩ (.int .i64 0)).setCell ⟨sb, 4, none⟩ (.int .u64 0)) = w11 at *
  have Sq0 := (S_12.out).cell 0
  have Sq1 := (S_12.out).cell 1
  have Sq2 := (S_12.out).cell 2
  have Sq3 := (S_12.out).cell 3
  have Sq4 := (S_12.out).cell 4
  simp only [List.getElem?_toArray, List.getElem?_cons_succ, List.getElem?_cons_zero] at Sq0 Sq1 Sq2 Sq3 Sq4
  go_wp2_with fail
  refine (At_not oa ba k a ⟨0, false, 0, St.zero, St.zero, 0, m, 0⟩ w11 Aa_12.out (show (0 : Int) ≠ 1 by decide)).mono ?_; rintro e w_ ⟨rfl, rfl⟩
  go_wp2_with fail
  refine (Steps_any oa ba k a ⟨0, false, 0, St.zero, St.zero, 0, m, 0⟩ w11 Aa_12.out).mono ?_; rintro e w_ ⟨rfl, rfl⟩
  go_wp2_with fail
  clear Sq0 Sq1 Sq2 Sq3 Sq4
  have hs1 : aStep k a [0, 0] ⟨0, false, 0, St.zero, St.zero, 0, m, 0⟩ = ⟨3, false, 0, St.zero, St.zero, 10, m, 0⟩ := by unfold aStep; simp only [ne_eq, not_true_eq_false, if_false, if_true, if_neg HIN.out]
  have hs2 : aWs a [0, 0] ⟨0, false, 0, St.zero, St.zero, 0, m, 0⟩ = [0, 0] := by unfold aWs; simp
  have hs3 : aT a [0, 0] ⟨0, false, 0, St.zero, St.zero, 0, m, 0⟩ 0 = 0 := by unfold aT; simp only [if_true]; exact tickF_out HIN.out
  refine (Step_any g rr oa ba [0, 0] 0 k HOK.out m a ⟨0, false, 0, St.zero, St.zero, 0, m, 0⟩ Ia_6.out w11 Aa_12.out K_12.out T_12.out (by have o_ := ORD6.out; omega)).mono ?_; rintro e w12 ⟨rfl, hb, ha, hx⟩
  rw [hs2, hs3] at hb
  rw [hs1] at ha ⊢
  have ee : Ex (fun k => k = g ∨ k = rr ∨ k = oa) w11 w12 := hx
  have T_13 := Lib.hid (T_12.out.ex ee (by have o_ := ORD6.out; omega))
  have L_13 := Lib.hid (L_12.out.ex ee (fun b_ h_ => by have o_ := ORD6.out; have h_ : b_ = g ∨ b_ = rr ∨ b_ = oa := h_; first | omega | (show _ ∨ _; omega)))
  have P_13 := Lib.hid (P_12.out.ex ee (by have o_ := ORD6.out; omega))
  have S_13 := Lib.hid (S_12.out.ex ee (by have o_ := ORD6.out; omega))
  have K_13 := Lib.hid (hb)
  have Aa_13 := Lib.hid (ha)
  clear ee T_12 L_12 P_12 K_12 S_12 Aa_12 hb ha hx hs1 hs2 hs3
  go_wp2_with fail
  have HG := Lib.hid (Got_any oa ba k a ⟨3, false, 0, St.zero, St.zero, 10, m, 0⟩ w12 Aa_13.out)
  unfold St.val at HG
  simp only [AX.zero, St.zero] at HG
  refine (HG.out).mono ?_; rintro e w13 ⟨rfl, hb⟩
  clear HG
  have ee : Ex (fun _ => False) w12 w13 := Ex.of_below hb
  have T_14 := Lib.hid (T_13.out.ex ee (fun h => h))
  have L_14 := Lib.hid (L_13.out.ex ee (fun b_ h_ => h_.elim))
  have P_14 := Lib.hid (P_13.out.ex ee (fun h => h))
  have K_14 := Lib.hid (K_13.out.ex ee (fun h => h) (fun h => h))
  have S_14 := Lib.hid (S_13.out.ex ee (fun h => h))
  have Aa_14 := Lib.hid (Aa_13.out.ex ee (fun h => h) (fun h => h))
  clear ee T_13 L_13 P_13 K_13 S_13 Aa_13 hb
  have Sq0 := (S_14.out).cell 0
  have Sq1 := (S_14.out).cell 1
  have Sq2 := (S_14.out).cell 2
  have Sq3 := (S_14.out).cell 3
  have Sq4 := (S_14.out).cell 4
  simp only [List.getElem?_toArray, List.getElem?_cons_succ, List.getElem?_cons_zero] at Sq0 Sq1 Sq2 Sq3 Sq4
  have Sf0 := (S_14.out).frozen 0
  have Sf1 := (S_14.out).frozen 1
  have Sf2 := (S_14.out).frozen 2
  have Sf3 := (S_14.out).frozen 3
  have Sf4 := (S_14.out).frozen 4
  go_upto_region 28 with fail
  clear Sq0 Sq1 Sq2 Sq3 Sq4 Sf0 Sf1 Sf2 Sf3 Sf4
  have hbb := set5_blk (x0 := .int .i64 0) (x1 := .int .i64 0) (x2 := .bool false) (x3 := .int .i64 0) (x4 := .int .u64 0) S_14.out
  have ee : Ex (fun k => k = sb) w13 (((((w13.setCell ⟨sb, 0, none⟩ (.int .i64 0)).setCell ⟨sb, 1, none⟩ (.int .i64 0)).setCell ⟨sb, 2, none⟩ (.bool false)).setCell ⟨sb, 3, none⟩ (.int .i64 0)).setCell ⟨sb, 4, none⟩ (.int .u64 0)) := ((((((Ex.refl (fun q => q = sb) w13).setCell (q := ⟨sb, 0, none⟩) (.inl rfl) (.int .i64 0)).setCell (q := ⟨sb, 1, none⟩) (.inl rfl) (.int .i64 0)).setCell (q := ⟨sb, 2, none⟩) (.inl rfl) (.bool false)).setCell (q := ⟨sb, 3, none⟩) (.inl rfl) (.int .i64 0)).setCell (q := ⟨sb, 4, none⟩) (.inl rfl) (.int .u64 0))
  have T_15 := Lib.hid (T_14.out.ex ee (by have o_ := ORD6.out; omega))
  have L_15 := Lib.hid (L_14.out.ex ee (fun b_ h_ => by have o_ := ORD6.out; have h_ : b_ = sb := h_; first | omega | (show _ ∨ _; omega)))
  have P_15 := Lib.hid (P_14.out.ex ee (by have o_ := ORD6.out; omega))
  have K_15 := Lib.hid (K_14.out.ex ee (by have o_ := ORD6.out; omega) (by have o_ := ORD6.out; omega))
  have Aa_15 := Lib.hid (Aa_14.out.ex ee (by have o_ := ORD6.out; omega) (by have o_ := ORD6.out; omega))
  have S_15 := Lib.hid (hbb)
  clear ee T_14 L_14 P_14 K_14 S_14 Aa_14 hbb
  generalize (((((w13.setCell ⟨sb, 0, none⟩ (.int .i64 0)).setCell ⟨sb, 1, none⟩ (.int .i64 0)).setCell ⟨sb, 2, none⟩ (.bool false)).setCell ⟨sb, 3, none⟩ (.int .i64 0)).setCell ⟨sb, 4, none⟩ (.int .u64 0)) = w14 at *
  have Sq0 := (S_15.out).cell 0
  have Sq1 := (S_15.out).cell 1
  have Sq2 := (S_15.out).cell 2
  have Sq3 := (S_15.out).cell 3
  have Sq4 := (S_15.out).cell 4
  simp only [List.getElem?_toArray, List.getElem?_cons_succ, List.getElem?_cons_zero] at Sq0 Sq1 Sq2 Sq3 Sq4
  go_wp2_with fail
  have IZ := Lib.hid (show AInv k m ⟨3, false, 0, St.zero, St.zero, 10, m, 0⟩ from by have := HIV.out; exact ⟨this.nn, by simp, fun h => by simp at h, fun h => by simp at h, fun _ => ⟨rfl, fun h => by simp at h⟩, fun h => by simp at h⟩)
  refine (At_not oa ba k a ⟨3, false, 0, St.zero, St.zero, 10, m, 0⟩ w14 Aa_15.out (show (3 : Int) ≠ 1 by decide)).mono ?_; rintro e w_ ⟨rfl, rfl⟩
  go_wp2_with fail
  refine (Steps_any oa ba k a ⟨3, false, 0, St.zero, St.zero, 10, m, 0⟩ w14 Aa_15.out).mono ?_; rintro e w_ ⟨rfl, rfl⟩
  go_wp2_with fail
  have hq := still_step (k := k) (at_ := a) (ws := [0, 0]) (t := 0) (x := ⟨3, false, 0, St.zero, St.zero, 10, m, 0⟩) (by simp)
  refine (Step_any g rr oa ba [0, 0] 0 k HOK.out m a ⟨3, false, 0, St.zero, St.zero, 10, m, 0⟩ IZ.out w14 Aa_15.out K_15.out T_15.out (by have o_ := ORD6.out; omega)).mono ?_; rintro e w15 ⟨rfl, hb, ha, hx⟩
  rw [hq.2.1, hq.2.2] at hb
  rw [hq.1] at ha ⊢
  clear Sq0 Sq1 Sq2 Sq3 Sq4
  have ee : Ex (fun k => k = g ∨ k = rr ∨ k = oa) w14 w15 := hx
  have T_16 := Lib.hid (T_15.out.ex ee (by have o_ := ORD6.out; omega))
  have L_16 := Lib.hid (L_15.out.ex ee (fun b_ h_ => by have o_ := ORD6.out; have h_ : b_ = g ∨ b_ = rr ∨ b_ = oa := h_; first | omega | (show _ ∨ _; omega)))
  have P_16 := Lib.hid (P_15.out.ex ee (by have o_ := ORD6.out; omega))
  have S_16 := Lib.hid (S_15.out.ex ee (by have o_ := ORD6.out; omega))
  have K_16 := Lib.hid (hb)
  have Aa_16 := Lib.hid (ha)
  clear ee T_15 L_15 P_15 K_15 S_15 Aa_15 hb ha hx hq
  go_wp2_with fail
  refine (Touches_any g rr [0, 0] 0 w15 K_16.out).mono ?_; rintro e w_ ⟨rfl, rfl⟩
  go_wp2_with fail
  refine (awake_any w15 T_16.out).mono ?_; rintro e w16 ⟨rfl, hb⟩
  have ee : Ex (fun _ => False) w15 w16 := Ex.of_below hb
  have T_17 := Lib.hid (T_16.out.ex ee (fun h => h))
  have L_17 := Lib.hid (L_16.out.ex ee (fun b_ h_ => h_.elim))
  have P_17 := Lib.hid (P_16.out.ex ee (fun h => h))
  have K_17 := Lib.hid (K_16.out.ex ee (fun h => h) (fun h => h))
  have S_17 := Lib.hid (S_16.out.ex ee (fun h => h))
  have Aa_17 := Lib.hid (Aa_16.out.ex ee (fun h => h) (fun h => h))
  clear ee T_16 L_16 P_16 K_16 S_16 Aa_16 hb
  go_wp2_with fail
  go_ret
  exact ⟨rfl, L_17.out.low.mono HBS.out⟩
set_option maxRecDepth 100000 in
set_option maxHeartbeats 1000000 in
theorem Nl_lo_big (a kd so mo : Int) (fr : Bool) (fl n : Int) (w : World) (ht : Tab w) (hn : n < 1) (hm : (⟨kd, so, mo, fr, fl⟩ : Pl).May n) (hp : (⟨kd, so, mo, fr, fl⟩ : Pl).Ok) (ha : 2 ≤ a) :
    Calls Tryd.prog 4 #[.int .i64 a, .agg #[.int .i64 kd, .int .i64 so, .int .i64 mo, .bool fr, .int .i64 fl], .int .i64 n] w fun e w' => e = .returned (.bool true) ∧ Below w.heap.size w w' := by
  have t1 : decide (n ≥ 1) = false := decide_eq_false (by omega)
  have ham := fun W => AMost_any n W
  simp only [show amostF n = 0 from if_neg (by omega)] at ham
  have HAM := Lib.hid ham
  clear ham hn
  have hpl := fun W => plain_any (⟨kd, so, mo, fr, fl⟩ : Pl) n W
  have hmy := fun W => May_any (⟨kd, so, mo, fr, fl⟩ : Pl) n W
  simp only [decide_eq_true hm] at hmy
  obtain ⟨C, hC⟩ : ∃ C, RX.cells (⟨kd, so, mo, fr, fl⟩ : Pl) n RX.zero = C := ⟨_, rfl⟩
  have HCS := Lib.hid (show C.size = 18 from hC ▸ RX.cells_size _ _ _)
  have HCO := Lib.hid (show C.all (·.oneCell') = true from hC ▸ RX.cells_one _ _ _)
  simp only [hC] at hpl hmy
  unfold Pl.val at hpl
  simp only at hpl
  have HPL := Lib.hid hpl
  have HMY := Lib.hid hmy
  clear hpl hmy hC
  have hbg := fun W hz => begin_in a n (⟨kd, so, mo, fr, fl⟩ : Pl) W hz hm
  unfold Pl.val at hbg
  simp only at hbg
  have hok := Pl.kd_ok hp
  have hiv := Pl.inv hm
  obtain ⟨k, hk⟩ : ∃ k, (⟨kd, so, mo, fr, fl⟩ : Pl).kd = k := ⟨_, rfl⟩
  obtain ⟨m, hmm⟩ : ∃ m, (⟨kd, so, mo, fr, fl⟩ : Pl).n n = m := ⟨_, rfl⟩
  simp only [hk, hmm] at hbg hok hiv
  have HBG := Lib.hid hbg
  have HOK := Lib.hid hok
  have HIV := Lib.hid hiv
  clear hbg hok hiv hk hmm hm hp
  have a1 : decide (a ≥ 0) = true := decide_eq_true (by omega)
  have a2 : decide (a < 2) = false := decide_eq_false (by omega)
  have HIN := Lib.hid (show ¬ inW [0, 0] a from fun h => by have := h.2; simp at this; omega)
  clear ha
  have hq0 := (blk_new' w (g := w.heap.size) (by simp) 41 #[.int .i64 kd, .int .i64 so, .int .i64 mo, .bool fr, .int .i64 fl])
  have hlo := ((Below.refl w.heap.size w).alloc (by first | exact Nat.le_refl _ | (simp; done) | (simp; omega)) (.cells #[.int .i64 kd, .int .i64 so, .int .i64 mo, .bool fr, .int .i64 fl] 41))
  have hz0 : 0 < w.heap.size := lt_of_cell (ht 0 (by decide))
  have ht1 := ht.below hlo
  go_enter Tryd.func4, Tryd.ntmps4
  go_upto_region 1 with fail
  generalize (w.alloc (.cells #[.int .i64 kd, .int .i64 so, .int .i64 mo, .bool fr, .int .i64 fl] 41)) = w1 at *
  obtain ⟨pb, hfb⟩ : ∃ pb, w.heap.size = pb := ⟨_, rfl⟩
  have hlo9 : Lo w.heap.size w w1 := ⟨hlo, hlo.size⟩
  have HBS := Lib.hid (Nat.le_of_eq hfb)
  simp only [hfb] at hlo9 hz0 hq0 ⊢
  have ORD0 := Lib.hid (show 0 < pb from hz0)
  have T0 := Lib.hid ht1
  have L0 := Lib.hid hlo9
  have P0 := Lib.hid hq0
  clear ht ht1 hlo hlo9 hz0 hfb  hq0
  go_wp2_with fail
  refine (New_in 2 (by decide) (by decide) w1).mono ?_; rintro e w2 ⟨rfl, hb, hl, hsz⟩
  have hb : BankAt w2 (w1.heap.size + 1) w1.heap.size [0, 0] 0 := hb
  obtain ⟨rr, hrr⟩ : ∃ rr, w1.heap.size = rr := ⟨_, rfl⟩
  have hlt : pb < rr := hrr ▸ P0.out.lt
  simp only [hrr] at hb ⊢
  obtain ⟨g, hg⟩ : ∃ g, rr + 1 = g := ⟨_, rfl⟩
  simp only [hg] at hb ⊢
  have ORD1 := Lib.hid (show 0 < pb ∧ pb < rr ∧ rr + 1 = g from by have o_ := ORD0.out; omega)
  have ee : Ex (fun _ => False) w1 w2 := Ex.of_below hl
  have T_2 := Lib.hid (T0.out.ex ee (fun h => h))
  have L_2 := Lib.hid (L0.out.ex ee (fun b_ h_ => h_.elim))
  have P_2 := Lib.hid (P0.out.ex ee (fun h => h))
  have K_2 := Lib.hid (hb)
  clear ee T0 L0 P0 hb hl hsz hrr hlt hg ORD0
  go_wp2_with fail
  have hgn := Got_nil w2
  unfold St.val at hgn
  simp only [St.zero] at hgn
  have HGN := Lib.hid hgn
  clear hgn
  refine (HGN.out).mono ?_; rintro e w3 ⟨rfl, hb⟩
  clear HGN
  have ee : Ex (fun _ => False) w2 w3 := Ex.of_below hb
  have T_3 := Lib.hid (T_2.out.ex ee (fun h => h))
  have L_3 := Lib.hid (L_2.out.ex ee (fun b_ h_ => h_.elim))
  have P_3 := Lib.hid (P_2.out.ex ee (fun h => h))
  have K_3 := Lib.hid (K_2.out.ex ee (fun h => h) (fun h => h))
  clear ee T_2 L_2 P_2 K_2 hb
  go_upto_region 6 with fail
  obtain ⟨sb, hsb, hM⟩ : ∃ sb : Nat, w3.heap.size = sb ∧ g < sb ∧ rr < sb := ⟨w3.heap.size, rfl, K_3.out.head.lt, K_3.out.row.lt⟩
  have ORD4 := Lib.hid (show 0 < pb ∧ pb < rr ∧ rr + 1 = g ∧ g < sb ∧ rr < sb from by have o_ := ORD1.out; omega)
  have hnb := Blk.new w3 34 #[.int .i64 0, .int .i64 0, .bool false, .int .i64 0, .int .u64 0]
  rw [hsb] at hnb
  simp only [hsb]
  have ee : Ex (fun _ => False) w3 (w3.alloc (.cells #[.int .i64 0, .int .i64 0, .bool false, .int .i64 0, .int .u64 0] 34)) := (Ex.refl (fun _ => False) w3).alloc (.cells #[.int .i64 0, .int .i64 0, .bool false, .int .i64 0, .int .u64 0] 34)
  have T_5 := Lib.hid (T_3.out.ex ee (fun h => h))
  have L_5 := Lib.hid (L_3.out.ex ee (fun b_ h_ => h_.elim))
  have P_5 := Lib.hid (P_3.out.ex ee (fun h => h))
  have K_5 := Lib.hid (K_3.out.ex ee (fun h => h) (fun h => h))
  have S_5 := Lib.hid (hnb)
  clear ee T_3 L_3 P_3 K_3 hnb hM ORD1
  generalize w3.alloc (.cells #[.int .i64 0, .int .i64 0, .bool false, .int .i64 0, .int .u64 0] 34) = w4 at *
  clear hsb
  go_wp2_with fail
  refine (Step_nil _ w4).mono ?_; rintro e w_ ⟨rfl, rfl⟩
  have Sq0 := (S_5.out).cell 0
  have Sq1 := (S_5.out).cell 1
  have Sq2 := (S_5.out).cell 2
  have Sq3 := (S_5.out).cell 3
  have Sq4 := (S_5.out).cell 4
  simp only [List.getElem?_toArray, List.getElem?_cons_succ, List.getElem?_cons_zero] at Sq0 Sq1 Sq2 Sq3 Sq4
  go_wp2_with fail
  refine (At_nil w4).mono ?_; rintro e w_ ⟨rfl, rfl⟩
  go_wp2_with fail
  refine (Steps_nil w4).mono ?_; rintro e w_ ⟨rfl, rfl⟩
  go_wp2_with fail
  refine (HAM.out w4).mono ?_; rintro e w_ ⟨rfl, rfl⟩
  clear Sq0 Sq1 Sq2 Sq3 Sq4
  have Pq0 := (P_5.out).cell 0
  have Pq1 := (P_5.out).cell 1
  have Pq2 := (P_5.out).cell 2
  have Pq3 := (P_5.out).cell 3
  have Pq4 := (P_5.out).cell 4
  simp only [List.getElem?_toArray, List.getElem?_cons_succ, List.getElem?_cons_zero] at Pq0 Pq1 Pq2 Pq3 Pq4
  go_wp2_with fail
  clear Pq0 Pq1 Pq2 Pq3 Pq4
  refine (HBG.out w4 (Nat.lt_of_le_of_lt (Nat.zero_le _) K_5.out.head.lt)).mono ?_; rintro e w6a ⟨oa, ba, rfl, ha, hs1, hs2, hs3, hs4, hb⟩
  obtain ⟨Ma, hM⟩ : ∃ Ma : Nat, g < Ma ∧ rr < Ma ∧ sb < Ma ∧ Ma ≤ oa ∧ (Ma ≤ ba ∨ ba = 0) := ⟨w4.heap.size, K_5.out.head.lt, K_5.out.row.lt, S_5.out.lt, hs1, hs2⟩
  have ORD6 := Lib.hid (show 0 < pb ∧ pb < rr ∧ rr + 1 = g ∧ g < sb ∧ rr < sb ∧ g < Ma ∧ rr < Ma ∧ sb < Ma ∧ Ma ≤ oa ∧ (Ma ≤ ba ∨ ba = 0) from by have o_ := ORD4.out; omega)
  have Ia_6 := Lib.hid (show AInv k m (AX.zero m) from HIV.out)
  have ee : Ex (fun _ => False) w4 w6a := Ex.of_below hb
  have T_7 := Lib.hid (T_5.out.ex ee (fun h => h))
  have L_7 := Lib.hid (L_5.out.ex ee (fun b_ h_ => h_.elim))
  have P_7 := Lib.hid (P_5.out.ex ee (fun h => h))
  have K_7 := Lib.hid (K_5.out.ex ee (fun h => h) (fun h => h))
  have S_7 := Lib.hid (S_5.out.ex ee (fun h => h))
  have Aa_7 := Lib.hid (ha)
  clear ee T_5 L_5 P_5 K_5 S_5 hb hs1 hs2 hs3 hs4 hM ORD4
  have Pq0 := (P_7.out).cell 0
  have Pq1 := (P_7.out).cell 1
  have Pq2 := (P_7.out).cell 2
  have Pq3 := (P_7.out).cell 3
  have Pq4 := (P_7.out).cell 4
  simp only [List.getElem?_toArray, List.getElem?_cons_succ, List.getElem?_cons_zero] at Pq0 Pq1 Pq2 Pq3 Pq4
  go_wp2_with fail
  refine (HPL.out w6a).mono ?_; rintro e w6 ⟨rfl, hb⟩
  clear Pq0 Pq1 Pq2 Pq3 Pq4
  have ee : Ex (fun _ => False) w6a w6 := Ex.of_below hb
  have T_8 := Lib.hid (T_7.out.ex ee (fun h => h))
  have L_8 := Lib.hid (L_7.out.ex ee (fun b_ h_ => h_.elim))
  have P_8 := Lib.hid (P_7.out.ex ee (fun h => h))
  have K_8 := Lib.hid (K_7.out.ex ee (fun h => h) (fun h => h))
  have S_8 := Lib.hid (S_7.out.ex ee (fun h => h))
  have Aa_8 := Lib.hid (Aa_7.out.ex ee (fun h => h) (fun h => h))
  clear ee T_7 L_7 P_7 K_7 S_7 Aa_7 hb
  have hBn := Blk.new w6 46 #[.int .i64 0, .int .i64 0, .int .i64 0, .bool false, .int .i64 0, .int .i64 0, .int .i64 0, .int .i64 0, .int .u64 0, .int .i64 0, .int .i64 0, .int .i64 0, .bool false, .int .i64 0, .int .u64 0, .int .i64 0, .int .i64 0, .int .i64 0]
  have hBm := Blk.rowed w6 46 #[.int .i64 0, .int .i64 0, .int .i64 0, .bool false, .int .i64 0, .int .i64 0, .int .i64 0, .int .i64 0, .int .u64 0, .int .i64 0, .int .i64 0, .int .i64 0, .bool false, .int .i64 0, .int .u64 0, .int .i64 0, .int .i64 0, .int .i64 0] C
  have hci : (Tryd.prog.info? 46).map (·.size) = some C.size := by rw [HCS.out]; kernel_rfl
  go_wp2_with (first | refine wpList_store_row rfl 46 _ _ rfl w6.heap.size C rfl rfl 46 #[.int .i64 0, .int .i64 0, .int .i64 0, .bool false, .int .i64 0, .int .i64 0, .int .i64 0, .int .i64 0, .int .u64 0, .int .i64 0, .int .i64 0, .int .i64 0, .bool false, .int .i64 0, .int .u64 0, .int .i64 0, .int .i64 0, .int .i64 0] hBn hci HCS.out.symm HCO.out ?_ | refine wpList_load_row rfl 46 _ rfl w6.heap.size rfl 46 C (0, 0) _ hBm Tryd.underlying46 rfl hci ?_)
  have ee : Ex (fun _ => False) w6 ((w6.alloc (.cells #[.int .i64 0, .int .i64 0, .int .i64 0, .bool false, .int .i64 0, .int .i64 0, .int .i64 0, .int .i64 0, .int .u64 0, .int .i64 0, .int .i64 0, .int .i64 0, .bool false, .int .i64 0, .int .u64 0, .int .i64 0, .int .i64 0, .int .i64 0] 46)).setRow w6.heap.size C) := Ex.rowed
  have T_9 := Lib.hid (T_8.out.ex ee (fun h => h))
  have L_9 := Lib.hid (L_8.out.ex ee (fun b_ h_ => h_.elim))
  have P_9 := Lib.hid (P_8.out.ex ee (fun h => h))
  have K_9 := Lib.hid (K_8.out.ex ee (fun h => h) (fun h => h))
  have S_9 := Lib.hid (S_8.out.ex ee (fun h => h))
  have Aa_9 := Lib.hid (Aa_8.out.ex ee (fun h => h) (fun h => h))
  clear ee T_8 L_8 P_8 K_8 S_8 Aa_8 hBn hBm hci
  generalize ((w6.alloc (.cells #[.int .i64 0, .int .i64 0, .int .i64 0, .bool false, .int .i64 0, .int .i64 0, .int .i64 0, .int .i64 0, .int .u64 0, .int .i64 0, .int .i64 0, .int .i64 0, .bool false, .int .i64 0, .int .u64 0, .int .i64 0, .int .i64 0, .int .i64 0] 46)).setRow w6.heap.size C) = w7 at *
  refine (HMY.out w7).mono ?_; rintro e w8 ⟨rfl, hb⟩
  have ee : Ex (fun _ => False) w7 w8 := Ex.of_below hb
  have T_10 := Lib.hid (T_9.out.ex ee (fun h => h))
  have L_10 := Lib.hid (L_9.out.ex ee (fun b_ h_ => h_.elim))
  have P_10 := Lib.hid (P_9.out.ex ee (fun h => h))
  have K_10 := Lib.hid (K_9.out.ex ee (fun h => h) (fun h => h))
  have S_10 := Lib.hid (S_9.out.ex ee (fun h => h))
  have Aa_10 := Lib.hid (Aa_9.out.ex ee (fun h => h) (fun h => h))
  clear ee T_9 L_9 P_9 K_9 S_9 Aa_9 hb
  go_wp2_with fail
  have HG := Lib.hid (Got_any oa ba k a ⟨0, false, 0, St.zero, St.zero, 0, m, 0⟩ w8 Aa_10.out)
  unfold St.val at HG
  simp only [AX.zero, St.zero] at HG
  refine (HG.out).mono ?_; rintro e w10 ⟨rfl, hb⟩
  clear HG
  have ee : Ex (fun _ => False) w8 w10 := Ex.of_below hb
  have T_11 := Lib.hid (T_10.out.ex ee (fun h => h))
  have L_11 := Lib.hid (L_10.out.ex ee (fun b_ h_ => h_.elim))
  have P_11 := Lib.hid (P_10.out.ex ee (fun h => h))
  have K_11 := Lib.hid (K_10.out.ex ee (fun h => h) (fun h => h))
  have S_11 := Lib.hid (S_10.out.ex ee (fun h => h))
  have Aa_11 := Lib.hid (Aa_10.out.ex ee (fun h => h) (fun h => h))
  clear ee T_10 L_10 P_10 K_10 S_10 Aa_10 hb
  have Sq0 := (S_11.out).cell 0
  have Sq1 := (S_11.out).cell 1
  have Sq2 := (S_11.out).cell 2
  have Sq3 := (S_11.out).cell 3
  have Sq4 := (S_11.out).cell 4
  simp only [List.getElem?_toArray, List.getElem?_cons_succ, List.getElem?_cons_zero] at Sq0 Sq1 Sq2 Sq3 Sq4
  have Sf0 := (S_11.out).frozen 0
  have Sf1 := (S_11.out).frozen 1
  have Sf2 := (S_11.out).frozen 2
  have Sf3 := (S_11.out).frozen 3
  have Sf4 := (S_11.out).frozen 4
  go_upto_region 20 with fail
  clear Sq0 Sq1 Sq2 Sq3 Sq4 Sf0 Sf1 Sf2 Sf3 Sf4
  have hbb := set5_blk (x0 := .int .i64 0) (x1 := .int .i64 0) (x2 := .bool false) (x3 := .int .i64 0) (x4 := .int .u64 0) S_11.out
  have ee : Ex (fun k => k = sb) w10 (((((w10.setCell ⟨sb, 0, none⟩ (.int .i64 0)).setCell ⟨sb, 1, none⟩ (.int .i64 0)).setCell ⟨sb, 2, none⟩ (.bool false)).setCell ⟨sb, 3, none⟩ (.int .i64 0)).setCell ⟨sb, 4, none⟩ (.int .u64 0)) := ((((((Ex.refl (fun q => q = sb) w10).setCell (q := ⟨sb, 0, none⟩) (.inl rfl) (.int .i64 0)).setCell (q := ⟨sb, 1, none⟩) (.inl rfl) (.int .i64 0)).setCell (q := ⟨sb, 2, none⟩) (.inl rfl) (.bool false)).setCell (q := ⟨sb, 3, none⟩) (.inl rfl) (.int .i64 0)).setCell (q := ⟨sb, 4, none⟩) (.inl rfl) (.int .u64 0))
  have T_12 := Lib.hid (T_11.out.ex ee (by have o_ := ORD6.out; omega))
  have L_12 := Lib.hid (L_11.out.ex ee (fun b_ h_ => by have o_ := ORD6.out; have h_ : b_ = sb := h_; first | omega | (show _ ∨ _; omega)))
  have P_12 := Lib.hid (P_11.out.ex ee (by have o_ := ORD6.out; omega))
  have K_12 := Lib.hid (K_11.out.ex ee (by have o_ := ORD6.out; omega) (by have o_ := ORD6.out; omega))
  have Aa_12 := Lib.hid (Aa_11.out.ex ee (by have o_ := ORD6.out; omega) (by have o_ := ORD6.out; omega))
  have S_12 := Lib.hid (hbb)
  clear ee T_11 L_11 P_11 K_11 S_11 Aa_11 hbb
  generalize (((((w10.setCell ⟨sb, 0, none⟩ (.int .i64 0)).setCell ⟨sb, 1, none⟩ (.int .i64 0)).setCell ⟨sb, 2, none⟩ (.bool false)).setCell ⟨sb, 3, none⟩ (.int .i64 0)).setCell ⟨sb, 4, none⟩ (.int .u64 0)) = w11 at *
  have Sq0 := (S_12.out).cell 0
  have Sq1 := (S_12.out).cell 1
  have Sq2 := (S_12.out).cell 2
  have Sq3 := (S_12.out).cell 3
  have Sq4 := (S_12.out).cell 4
  simp only [List.getElem?_toArray, List.getElem?_cons_succ, List.getElem?_cons_zero] at Sq0 Sq1 Sq2 Sq3 Sq4
  go_wp2_with fail
  refine (At_not oa ba k a ⟨0, false, 0, St.zero, St.zero, 0, m, 0⟩ w11 Aa_12.out (show (0 : Int) ≠ 1 by decide)).mono ?_; rintro e w_ ⟨rfl, rfl⟩
  go_wp2_with fail
  refine (Steps_any oa ba k a ⟨0, false, 0, St.zero, St.zero, 0, m, 0⟩ w11 Aa_12.out).mono ?_; rintro e w_ ⟨rfl, rfl⟩
  go_wp2_with fail
  clear Sq0 Sq1 Sq2 Sq3 Sq4
  have hs1 : aStep k a [0, 0] ⟨0, false, 0, St.zero, St.zero, 0, m, 0⟩ = ⟨3, false, 0, St.zero, St.zero, 10, m, 0⟩ := by unfold aStep; simp only [ne_eq, not_true_eq_false, if_false, if_true, if_neg HIN.out]
  have hs2 : aWs a [0, 0] ⟨0, false, 0, St.zero, St.zero, 0, m, 0⟩ = [0, 0] := by unfold aWs; simp
  have hs3 : aT a [0, 0] ⟨0, false, 0, St.zero, St.zero, 0, m, 0⟩ 0 = 0 := by unfold aT; simp only [if_true]; exact tickF_out HIN.out
  refine (Step_any g rr oa ba [0, 0] 0 k HOK.out m a ⟨0, false, 0, St.zero, St.zero, 0, m, 0⟩ Ia_6.out w11 Aa_12.out K_12.out T_12.out (by have o_ := ORD6.out; omega)).mono ?_; rintro e w12 ⟨rfl, hb, ha, hx⟩
  rw [hs2, hs3] at hb
  rw [hs1] at ha ⊢
  have ee : Ex (fun k => k = g ∨ k = rr ∨ k = oa) w11 w12 := hx
  have T_13 := Lib.hid (T_12.out.ex ee (by have o_ := ORD6.out; omega))
  have L_13 := Lib.hid (L_12.out.ex ee (fun b_ h_ => by have o_ := ORD6.out; have h_ : b_ = g ∨ b_ = rr ∨ b_ = oa := h_; first | omega | (show _ ∨ _; omega)))
  have P_13 := Lib.hid (P_12.out.ex ee (by have o_ := ORD6.out; omega))
  have S_13 := Lib.hid (S_12.out.ex ee (by have o_ := ORD6.out; omega))
  have K_13 := Lib.hid (hb)
  have Aa_13 := Lib.hid (ha)
  clear ee T_12 L_12 P_12 K_12 S_12 Aa_12 hb ha hx hs1 hs2 hs3
  go_wp2_with fail
  have HG := Lib.hid (Got_any oa ba k a ⟨3, false, 0, St.zero, St.zero, 10, m, 0⟩ w12 Aa_13.out)
  unfold St.val at HG
  simp only [AX.zero, St.zero] at HG
  refine (HG.out).mono ?_; rintro e w13 ⟨rfl, hb⟩
  clear HG
  have ee : Ex (fun _ => False) w12 w13 := Ex.of_below hb
  have T_14 := Lib.hid (T_13.out.ex ee (fun h => h))
  have L_14 := Lib.hid (L_13.out.ex ee (fun b_ h_ => h_.elim))
  have P_14 := Lib.hid (P_13.out.ex ee (fun h => h))
  have K_14 := Lib.hid (K_13.out.ex ee (fun h => h) (fun h => h))
  have S_14 := Lib.hid (S_13.out.ex ee (fun h => h))
  have Aa_14 := Lib.hid (Aa_13.out.ex ee (fun h => h) (fun h => h))
  clear ee T_13 L_13 P_13 K_13 S_13 Aa_13 hb
  have Sq0 := (S_14.out).cell 0
  have Sq1 := (S_14.out).cell 1
  have Sq2 := (S_14.out).cell 2
  have Sq3 := (S_14.out).cell 3
  have Sq4 := (S_14.out).cell 4
  simp only [List.getElem?_toArray, List.getElem?_cons_succ, List.getElem?_cons_zero] at Sq0 Sq1 Sq2 Sq3 Sq4
  have Sf0 := (S_14.out).frozen 0
  have Sf1 := (S_14.out).frozen 1
  have Sf2 := (S_14.out).frozen 2
  have Sf3 := (S_14.out).frozen 3
  have Sf4 := (S_14.out).frozen 4
  go_upto_region 28 with fail
  clear Sq0 Sq1 Sq2 Sq3 Sq4 Sf0 Sf1 Sf2 Sf3 Sf4
  have hbb := set5_blk (x0 := .int .i64 0) (x1 := .int .i64 0) (x2 := .bool false) (x3 := .int .i64 0) (x4 := .int .u64 0) S_14.out
  have ee : Ex (fun k => k = sb) w13 (((((w13.setCell ⟨sb, 0, none⟩ (.int .i64 0)).setCell ⟨sb, 1, none⟩ (.int .i64 0)).setCell ⟨sb, 2, none⟩ (.bool false)).setCell ⟨sb, 3, none⟩ (.int .i64 0)).setCell ⟨sb, 4, none⟩ (.int .u64 0)) := ((((((Ex.refl (fun q => q = sb) w13).setCell (q := ⟨sb, 0, none⟩) (.inl rfl) (.int .i64 0)).setCell (q := ⟨sb, 1, none⟩) (.inl rfl) (.int .i64 0)).setCell (q := ⟨sb, 2, none⟩) (.inl rfl) (.bool false)).setCell (q := ⟨sb, 3, none⟩) (.inl rfl) (.int .i64 0)).setCell (q := ⟨sb, 4, none⟩) (.inl rfl) (.int .u64 0))
  have T_15 := Lib.hid (T_14.out.ex ee (by have o_ := ORD6.out; omega))
  have L_15 := Lib.hid (L_14.out.ex ee (fun b_ h_ => by have o_ := ORD6.out; have h_ : b_ = sb := h_; first | omega | (show _ ∨ _; omega)))
  have P_15 := Lib.hid (P_14.out.ex ee (by have o_ := ORD6.out; omega))
  have K_15 := Lib.hid (K_14.out.ex ee (by have o_ := ORD6.out; omega) (by have o_ := ORD6.out; omega))
  have Aa_15 := Lib.hid (Aa_14.out.ex ee (by have o_ := ORD6.out; omega) (by have o_ := ORD6.out; omega))
  have S_15 := Lib.hid (hbb)
  clear ee T_14 L_14 P_14 K_14 S_14 Aa_14 hbb
  generalize (((((w13.setCell ⟨sb, 0, none⟩ (.int .i64 0)).setCell ⟨sb, 1, none⟩ (.int .i64 0)).setCell ⟨sb, 2, none⟩ (.bool false)).setCell ⟨sb, 3, none⟩ (.int .i64 0)).setCell ⟨sb, 4, none⟩ (.int .u64 0)) = w14 at *
  have Sq0 := (S_15.out).cell 0
  have Sq1 := (S_15.out).cell 1
  have Sq2 := (S_15.out).cell 2
  have Sq3 := (S_15.out).cell 3
  have Sq4 := (S_15.out).cell 4
  simp only [List.getElem?_toArray, List.getElem?_cons_succ, List.getElem?_cons_zero] at Sq0 Sq1 Sq2 Sq3 Sq4
  go_wp2_with fail
  have IZ := Lib.hid (show AInv k m ⟨3, false, 0, St.zero, St.zero, 10, m, 0⟩ from by have := HIV.out; exact ⟨this.nn, by simp, fun h => by simp at h, fun h => by simp at h, fun _ => ⟨rfl, fun h => by simp at h⟩, fun h => by simp at h⟩)
  refine (At_not oa ba k a ⟨3, false, 0, St.zero, St.zero, 10, m, 0⟩ w14 Aa_15.out (show (3 : Int) ≠ 1 by decide)).mono ?_; rintro e w_ ⟨rfl, rfl⟩
  go_wp2_with fail
  refine (Steps_any oa ba k a ⟨3, false, 0, St.zero, St.zero, 10, m, 0⟩ w14 Aa_15.out).mono ?_; rintro e w_ ⟨rfl, rfl⟩
  go_wp2_with fail
  have hq := still_step (k := k) (at_ := a) (ws := [0, 0]) (t := 0) (x := ⟨3, false, 0, St.zero, St.zero, 10, m, 0⟩) (by simp)
  refine (Step_any g rr oa ba [0, 0] 0 k HOK.out m a ⟨3, false, 0, St.zero, St.zero, 10, m, 0⟩ IZ.out w14 Aa_15.out K_15.out T_15.out (by have o_ := ORD6.out; omega)).mono ?_; rintro e w15 ⟨rfl, hb, ha, hx⟩
  rw [hq.2.1, hq.2.2] at hb
  rw [hq.1] at ha ⊢
  clear Sq0 Sq1 Sq2 Sq3 Sq4
  have ee : Ex (fun k => k = g ∨ k = rr ∨ k = oa) w14 w15 := hx
  have T_16 := Lib.hid (T_15.out.ex ee (by have o_ := ORD6.out; omega))
  have L_16 := Lib.hid (L_15.out.ex ee (fun b_ h_ => by have o_ := ORD6.out; have h_ : b_ = g ∨ b_ = rr ∨ b_ = oa := h_; first | omega | (show _ ∨ _; omega)))
  have P_16 := Lib.hid (P_15.out.ex ee (by have o_ := ORD6.out; omega))
  have S_16 := Lib.hid (S_15.out.ex ee (by have o_ := ORD6.out; omega))
  have K_16 := Lib.hid (hb)
  have Aa_16 := Lib.hid (ha)
  clear ee T_15 L_15 P_15 K_15 S_15 Aa_15 hb ha hx hq
  go_wp2_with fail
  refine (Touches_any g rr [0, 0] 0 w15 K_16.out).mono ?_; rintro e w_ ⟨rfl, rfl⟩
  go_wp2_with fail
  refine (awake_any w15 T_16.out).mono ?_; rintro e w16 ⟨rfl, hb⟩
  have ee : Ex (fun _ => False) w15 w16 := Ex.of_below hb
  have T_17 := Lib.hid (T_16.out.ex ee (fun h => h))
  have L_17 := Lib.hid (L_16.out.ex ee (fun b_ h_ => h_.elim))
  have P_17 := Lib.hid (P_16.out.ex ee (fun h => h))
  have K_17 := Lib.hid (K_16.out.ex ee (fun h => h) (fun h => h))
  have S_17 := Lib.hid (S_16.out.ex ee (fun h => h))
  have Aa_17 := Lib.hid (Aa_16.out.ex ee (fun h => h) (fun h => h))
  clear ee T_16 L_16 P_16 K_16 S_16 Aa_16 hb
  go_wp2_with fail
  go_ret
  exact ⟨rfl, L_17.out.low.mono HBS.out⟩
set_option maxRecDepth 100000 in
set_option maxHeartbeats 1000000 in
theorem Nl_in_bad (a kd so mo : Int) (fr : Bool) (fl n : Int) (w : World) (ht : Tab w) (hn : 1 ≤ n ∧ n ≤ 16) (hm : ¬ (⟨kd, so, mo, fr, fl⟩ : Pl).May n) :
    Calls Tryd.prog 4 #[.int .i64 a, .agg #[.int .i64 kd, .int .i64 so, .int .i64 mo, .bool fr, .int .i64 fl], .int .i64 n] w fun e w' => e = .returned (.bool true) ∧ Below w.heap.size w w' := by
  have t1 : decide (n ≥ 1) = true := decide_eq_true hn.1
  have t2 : decide (n ≤ 16) = true := decide_eq_true hn.2
  have t3 : wrap64 (2 * n) = 2 * n := by unfold wrap64; omega
  have ham := fun W => AMost_any n W
  simp only [show amostF n = 2 * n from if_pos hn] at ham
  obtain ⟨m2, hm2⟩ : ∃ m2 : Int, 2 * n = m2 := ⟨_, rfl⟩
  simp only [hm2] at ham t3
  have t4 : (m2 != m2) = false := by simp
  have HAM := Lib.hid ham
  clear ham hn
  have hpl := fun W => plain_any (⟨kd, so, mo, fr, fl⟩ : Pl) n W
  have hmy := fun W => May_any (⟨kd, so, mo, fr, fl⟩ : Pl) n W
  simp only [decide_eq_false hm] at hmy
  obtain ⟨C, hC⟩ : ∃ C, RX.cells (⟨kd, so, mo, fr, fl⟩ : Pl) n RX.zero = C := ⟨_, rfl⟩
  have HCS := Lib.hid (show C.size = 18 from hC ▸ RX.cells_size _ _ _)
  have HCO := Lib.hid (show C.all (·.oneCell') = true from hC ▸ RX.cells_one _ _ _)
  simp only [hC] at hpl hmy
  unfold Pl.val at hpl
  simp only at hpl
  have HPL := Lib.hid hpl
  have HMY := Lib.hid hmy
  clear hpl hmy hC
  have hbg := fun W => begin_bad a n (⟨kd, so, mo, fr, fl⟩ : Pl) W hm
  unfold Pl.val at hbg
  simp only at hbg
  have HBG := Lib.hid hbg
  clear hbg hm
  have hq0 := (blk_new' w (g := w.heap.size) (by simp) 41 #[.int .i64 kd, .int .i64 so, .int .i64 mo, .bool fr, .int .i64 fl])
  have hlo := ((Below.refl w.heap.size w).alloc (by first | exact Nat.le_refl _ | (simp; done) | (simp; omega)) (.cells #[.int .i64 kd, .int .i64 so, .int .i64 mo, .bool fr, .int .i64 fl] 41))
  have hz0 : 0 < w.heap.size := lt_of_cell (ht 0 (by decide))
  have ht1 := ht.below hlo
  go_enter Tryd.func4, Tryd.ntmps4
  go_upto_region 1 with fail
  generalize (w.alloc (.cells #[.int .i64 kd, .int .i64 so, .int .i64 mo, .bool fr, .int .i64 fl] 41)) = w1 at *
  obtain ⟨pb, hfb⟩ : ∃ pb, w.heap.size = pb := ⟨_, rfl⟩
  have hlo9 : Lo w.heap.size w w1 := ⟨hlo, hlo.size⟩
  have HBS := Lib.hid (Nat.le_of_eq hfb)
  simp only [hfb] at hlo9 hz0 hq0 ⊢
  have ORD0 := Lib.hid (show 0 < pb from hz0)
  have T0 := Lib.hid ht1
  have L0 := Lib.hid hlo9
  have P0 := Lib.hid hq0
  clear ht ht1 hlo hlo9 hz0 hfb  hq0
  go_wp2_with fail
  refine (New_in 2 (by decide) (by decide) w1).mono ?_; rintro e w2 ⟨rfl, hb, hl, hsz⟩
  have hb : BankAt w2 (w1.heap.size + 1) w1.heap.size [0, 0] 0 := hb
  obtain ⟨rr, hrr⟩ : ∃ rr, w1.heap.size = rr := ⟨_, rfl⟩
  have hlt : pb < rr := hrr ▸ P0.out.lt
  simp only [hrr] at hb ⊢
  obtain ⟨g, hg⟩ : ∃ g, rr + 1 = g := ⟨_, rfl⟩
  simp only [hg] at hb ⊢
  have ORD1 := Lib.hid (show 0 < pb ∧ pb < rr ∧ rr + 1 = g from by have o_ := ORD0.out; omega)
  have ee : Ex (fun _ => False) w1 w2 := Ex.of_below hl
  have T_2 := Lib.hid (T0.out.ex ee (fun h => h))
  have L_2 := Lib.hid (L0.out.ex ee (fun b_ h_ => h_.elim))
  have P_2 := Lib.hid (P0.out.ex ee (fun h => h))
  have K_2 := Lib.hid (hb)
  clear ee T0 L0 P0 hb hl hsz hrr hlt hg ORD0
  go_wp2_with fail
  have hgn := Got_nil w2
  unfold St.val at hgn
  simp only [St.zero] at hgn
  have HGN := Lib.hid hgn
  clear hgn
  refine (HGN.out).mono ?_; rintro e w3 ⟨rfl, hb⟩
  clear HGN
  have ee : Ex (fun _ => False) w2 w3 := Ex.of_below hb
  have T_3 := Lib.hid (T_2.out.ex ee (fun h => h))
  have L_3 := Lib.hid (L_2.out.ex ee (fun b_ h_ => h_.elim))
  have P_3 := Lib.hid (P_2.out.ex ee (fun h => h))
  have K_3 := Lib.hid (K_2.out.ex ee (fun h => h) (fun h => h))
  clear ee T_2 L_2 P_2 K_2 hb
  go_upto_region 6 with fail
  obtain ⟨sb, hsb, hM⟩ : ∃ sb : Nat, w3.heap.size = sb ∧ g < sb ∧ rr < sb := ⟨w3.heap.size, rfl, K_3.out.head.lt, K_3.out.row.lt⟩
  have ORD4 := Lib.hid (show 0 < pb ∧ pb < rr ∧ rr + 1 = g ∧ g < sb ∧ rr < sb from by have o_ := ORD1.out; omega)
  have hnb := Blk.new w3 34 #[.int .i64 0, .int .i64 0, .bool false, .int .i64 0, .int .u64 0]
  rw [hsb] at hnb
  simp only [hsb]
  have ee : Ex (fun _ => False) w3 (w3.alloc (.cells #[.int .i64 0, .int .i64 0, .bool false, .int .i64 0, .int .u64 0] 34)) := (Ex.refl (fun _ => False) w3).alloc (.cells #[.int .i64 0, .int .i64 0, .bool false, .int .i64 0, .int .u64 0] 34)
  have T_5 := Lib.hid (T_3.out.ex ee (fun h => h))
  have L_5 := Lib.hid (L_3.out.ex ee (fun b_ h_ => h_.elim))
  have P_5 := Lib.hid (P_3.out.ex ee (fun h => h))
  have K_5 := Lib.hid (K_3.out.ex ee (fun h => h) (fun h => h))
  have S_5 := Lib.hid (hnb)
  clear ee T_3 L_3 P_3 K_3 hnb hM ORD1
  generalize w3.alloc (.cells #[.int .i64 0, .int .i64 0, .bool false, .int .i64 0, .int .u64 0] 34) = w4 at *
  clear hsb
  go_wp2_with fail
  refine (Step_nil _ w4).mono ?_; rintro e w_ ⟨rfl, rfl⟩
  have Sq0 := (S_5.out).cell 0
  have Sq1 := (S_5.out).cell 1
  have Sq2 := (S_5.out).cell 2
  have Sq3 := (S_5.out).cell 3
  have Sq4 := (S_5.out).cell 4
  simp only [List.getElem?_toArray, List.getElem?_cons_succ, List.getElem?_cons_zero] at Sq0 Sq1 Sq2 Sq3 Sq4
  go_wp2_with fail
  refine (At_nil w4).mono ?_; rintro e w_ ⟨rfl, rfl⟩
  go_wp2_with fail
  refine (Steps_nil w4).mono ?_; rintro e w_ ⟨rfl, rfl⟩
  go_wp2_with fail
  refine (HAM.out w4).mono ?_; rintro e w_ ⟨rfl, rfl⟩
  clear Sq0 Sq1 Sq2 Sq3 Sq4
  have Pq0 := (P_5.out).cell 0
  have Pq1 := (P_5.out).cell 1
  have Pq2 := (P_5.out).cell 2
  have Pq3 := (P_5.out).cell 3
  have Pq4 := (P_5.out).cell 4
  simp only [List.getElem?_toArray, List.getElem?_cons_succ, List.getElem?_cons_zero] at Pq0 Pq1 Pq2 Pq3 Pq4
  go_wp2_with fail
  refine (HBG.out w4).mono ?_; rintro e w5 ⟨rfl, hb⟩
  clear Pq0 Pq1 Pq2 Pq3 Pq4
  have ee : Ex (fun _ => False) w4 w5 := Ex.of_below hb
  have T_6 := Lib.hid (T_5.out.ex ee (fun h => h))
  have L_6 := Lib.hid (L_5.out.ex ee (fun b_ h_ => h_.elim))
  have P_6 := Lib.hid (P_5.out.ex ee (fun h => h))
  have K_6 := Lib.hid (K_5.out.ex ee (fun h => h) (fun h => h))
  have S_6 := Lib.hid (S_5.out.ex ee (fun h => h))
  clear ee T_5 L_5 P_5 K_5 S_5 hb
  have Pq0 := (P_6.out).cell 0
  have Pq1 := (P_6.out).cell 1
  have Pq2 := (P_6.out).cell 2
  have Pq3 := (P_6.out).cell 3
  have Pq4 := (P_6.out).cell 4
  simp only [List.getElem?_toArray, List.getElem?_cons_succ, List.getElem?_cons_zero] at Pq0 Pq1 Pq2 Pq3 Pq4
  go_wp2_with fail
  refine (HPL.out w5).mono ?_; rintro e w6 ⟨rfl, hb⟩
  clear Pq0 Pq1 Pq2 Pq3 Pq4
  have ee : Ex (fun _ => False) w5 w6 := Ex.of_below hb
  have T_7 := Lib.hid (T_6.out.ex ee (fun h => h))
  have L_7 := Lib.hid (L_6.out.ex ee (fun b_ h_ => h_.elim))
  have P_7 := Lib.hid (P_6.out.ex ee (fun h => h))
  have K_7 := Lib.hid (K_6.out.ex ee (fun h => h) (fun h => h))
  have S_7 := Lib.hid (S_6.out.ex ee (fun h => h))
  clear ee T_6 L_6 P_6 K_6 S_6 hb
  have hBn := Blk.new w6 46 #[.int .i64 0, .int .i64 0, .int .i64 0, .bool false, .int .i64 0, .int .i64 0, .int .i64 0, .int .i64 0, .int .u64 0, .int .i64 0, .int .i64 0, .int .i64 0, .bool false, .int .i64 0, .int .u64 0, .int .i64 0, .int .i64 0, .int .i64 0]
  have hBm := Blk.rowed w6 46 #[.int .i64 0, .int .i64 0, .int .i64 0, .bool false, .int .i64 0, .int .i64 0, .int .i64 0, .int .i64 0, .int .u64 0, .int .i64 0, .int .i64 0, .int .i64 0, .bool false, .int .i64 0, .int .u64 0, .int .i64 0, .int .i64 0, .int .i64 0] C
  have hci : (Tryd.prog.info? 46).map (·.size) = some C.size := by rw [HCS.out]; kernel_rfl
  go_wp2_with (first | refine wpList_store_row rfl 46 _ _ rfl w6.heap.size C rfl rfl 46 #[.int .i64 0, .int .i64 0, .int .i64 0, .bool false, .int .i64 0, .int .i64 0, .int .i64 0, .int .i64 0, .int .u64 0, .int .i64 0, .int .i64 0, .int .i64 0, .bool false, .int .i64 0, .int .u64 0, .int .i64 0, .int .i64 0, .int .i64 0] hBn hci HCS.out.symm HCO.out ?_ | refine wpList_load_row rfl 46 _ rfl w6.heap.size rfl 46 C (0, 0) _ hBm Tryd.underlying46 rfl hci ?_)
  have ee : Ex (fun _ => False) w6 ((w6.alloc (.cells #[.int .i64 0, .int .i64 0, .int .i64 0, .bool false, .int .i64 0, .int .i64 0, .int .i64 0, .int .i64 0, .int .u64 0, .int .i64 0, .int .i64 0, .int .i64 0, .bool false, .int .i64 0, .int .u64 0, .int .i64 0, .int .i64 0, .int .i64 0] 46)).setRow w6.heap.size C) := Ex.rowed
  have T_8 := Lib.hid (T_7.out.ex ee (fun h => h))
  have L_8 := Lib.hid (L_7.out.ex ee (fun b_ h_ => h_.elim))
  have P_8 := Lib.hid (P_7.out.ex ee (fun h => h))
  have K_8 := Lib.hid (K_7.out.ex ee (fun h => h) (fun h => h))
  have S_8 := Lib.hid (S_7.out.ex ee (fun h => h))
  clear ee T_7 L_7 P_7 K_7 S_7 hBn hBm hci
  generalize ((w6.alloc (.cells #[.int .i64 0, .int .i64 0, .int .i64 0, .bool false, .int .i64 0, .int .i64 0, .int .i64 0, .int .i64 0, .int .u64 0, .int .i64 0, .int .i64 0, .int .i64 0, .bool false, .int .i64 0, .int .u64 0, .int .i64 0, .int .i64 0, .int .i64 0] 46)).setRow w6.heap.size C) = w7 at *
  refine (HMY.out w7).mono ?_; rintro e w8 ⟨rfl, hb⟩
  have ee : Ex (fun _ => False) w7 w8 := Ex.of_below hb
  have T_9 := Lib.hid (T_8.out.ex ee (fun h => h))
  have L_9 := Lib.hid (L_8.out.ex ee (fun b_ h_ => h_.elim))
  have P_9 := Lib.hid (P_8.out.ex ee (fun h => h))
  have K_9 := Lib.hid (K_8.out.ex ee (fun h => h) (fun h => h))
  have S_9 := Lib.hid (S_8.out.ex ee (fun h => h))
  clear ee T_8 L_8 P_8 K_8 S_8 hb
  go_wp2_with fail
  refine (awake_any w8 T_9.out).mono ?_; rintro e w9 ⟨rfl, hb⟩
  have ee : Ex (fun _ => False) w8 w9 := Ex.of_below hb
  have T_10 := Lib.hid (T_9.out.ex ee (fun h => h))
  have L_10 := Lib.hid (L_9.out.ex ee (fun b_ h_ => h_.elim))
  have P_10 := Lib.hid (P_9.out.ex ee (fun h => h))
  have K_10 := Lib.hid (K_9.out.ex ee (fun h => h) (fun h => h))
  have S_10 := Lib.hid (S_9.out.ex ee (fun h => h))
  clear ee T_9 L_9 P_9 K_9 S_9 hb
  go_wp2_with fail
  go_ret
  exact ⟨rfl, L_10.out.low.mono HBS.out⟩
set_option maxRecDepth 100000 in
set_option maxHeartbeats 1000000 in
theorem Nl_in_in (a kd so mo : Int) (fr : Bool) (fl n : Int) (w : World) (ht : Tab w) (hn : 1 ≤ n ∧ n ≤ 16) (hm : (⟨kd, so, mo, fr, fl⟩ : Pl).May n) (hp : (⟨kd, so, mo, fr, fl⟩ : Pl).Ok) (ha : 0 ≤ a ∧ a < 2) :
    Calls Tryd.prog 4 #[.int .i64 a, .agg #[.int .i64 kd, .int .i64 so, .int .i64 mo, .bool fr, .int .i64 fl], .int .i64 n] w fun e w' => e = .returned (.bool true) ∧ Below w.heap.size w w' := by
  have t1 : decide (n ≥ 1) = true := decide_eq_true hn.1
  have t2 : decide (n ≤ 16) = true := decide_eq_true hn.2
  have t3 : wrap64 (2 * n) = 2 * n := by unfold wrap64; omega
  have ham := fun W => AMost_any n W
  simp only [show amostF n = 2 * n from if_pos hn] at ham
  obtain ⟨m2, hm2⟩ : ∃ m2 : Int, 2 * n = m2 := ⟨_, rfl⟩
  simp only [hm2] at ham t3
  have t4 : (m2 != m2) = false := by simp
  have HAM := Lib.hid ham
  clear ham hn
  have hpl := fun W => plain_any (⟨kd, so, mo, fr, fl⟩ : Pl) n W
  have hmy := fun W => May_any (⟨kd, so, mo, fr, fl⟩ : Pl) n W
  simp only [decide_eq_true hm] at hmy
  obtain ⟨C, hC⟩ : ∃ C, RX.cells (⟨kd, so, mo, fr, fl⟩ : Pl) n RX.zero = C := ⟨_, rfl⟩
  have HCS := Lib.hid (show C.size = 18 from hC ▸ RX.cells_size _ _ _)
  have HCO := Lib.hid (show C.all (·.oneCell') = true from hC ▸ RX.cells_one _ _ _)
  simp only [hC] at hpl hmy
  unfold Pl.val at hpl
  simp only at hpl
  have HPL := Lib.hid hpl
  have HMY := Lib.hid hmy
  clear hpl hmy hC
  have hbg := fun W hz => begin_in a n (⟨kd, so, mo, fr, fl⟩ : Pl) W hz hm
  unfold Pl.val at hbg
  simp only at hbg
  have hok := Pl.kd_ok hp
  have hiv := Pl.inv hm
  obtain ⟨k, hk⟩ : ∃ k, (⟨kd, so, mo, fr, fl⟩ : Pl).kd = k := ⟨_, rfl⟩
  obtain ⟨m, hmm⟩ : ∃ m, (⟨kd, so, mo, fr, fl⟩ : Pl).n n = m := ⟨_, rfl⟩
  simp only [hk, hmm] at hbg hok hiv
  have HBG := Lib.hid hbg
  have HOK := Lib.hid hok
  have HIV := Lib.hid hiv
  clear hbg hok hiv hk hmm hm hp
  have a1 : decide (a ≥ 0) = true := decide_eq_true ha.1
  have a2 : decide (a < 2) = true := decide_eq_true ha.2
  clear ha
  have hq0 := (blk_new' w (g := w.heap.size) (by simp) 41 #[.int .i64 kd, .int .i64 so, .int .i64 mo, .bool fr, .int .i64 fl])
  have hlo := ((Below.refl w.heap.size w).alloc (by first | exact Nat.le_refl _ | (simp; done) | (simp; omega)) (.cells #[.int .i64 kd, .int .i64 so, .int .i64 mo, .bool fr, .int .i64 fl] 41))
  have hz0 : 0 < w.heap.size := lt_of_cell (ht 0 (by decide))
  have ht1 := ht.below hlo
  go_enter Tryd.func4, Tryd.ntmps4
  go_upto_region 1 with fail
  generalize (w.alloc (.cells #[.int .i64 kd, .int .i64 so, .int .i64 mo, .bool fr, .int .i64 fl] 41)) = w1 at *
  obtain ⟨pb, hfb⟩ : ∃ pb, w.heap.size = pb := ⟨_, rfl⟩
  have hlo9 : Lo w.heap.size w w1 := ⟨hlo, hlo.size⟩
  have HBS := Lib.hid (Nat.le_of_eq hfb)
  simp only [hfb] at hlo9 hz0 hq0 ⊢
  have ORD0 := Lib.hid (show 0 < pb from hz0)
  have T0 := Lib.hid ht1
  have L0 := Lib.hid hlo9
  have P0 := Lib.hid hq0
  clear ht ht1 hlo hlo9 hz0 hfb  hq0
  go_wp2_with fail
  refine (New_in 2 (by decide) (by decide) w1).mono ?_; rintro e w2 ⟨rfl, hb, hl, hsz⟩
  have hb : BankAt w2 (w1.heap.size + 1) w1.heap.size [0, 0] 0 := hb
  obtain ⟨rr, hrr⟩ : ∃ rr, w1.heap.size = rr := ⟨_, rfl⟩
  have hlt : pb < rr := hrr ▸ P0.out.lt
  simp only [hrr] at hb ⊢
  obtain ⟨g, hg⟩ : ∃ g, rr + 1 = g := ⟨_, rfl⟩
  simp only [hg] at hb ⊢
  have ORD1 := Lib.hid (show 0 < pb ∧ pb < rr ∧ rr + 1 = g from by have o_ := ORD0.out; omega)
  have ee : Ex (fun _ => False) w1 w2 := Ex.of_below hl
  have T_2 := Lib.hid (T0.out.ex ee (fun h => h))
  have L_2 := Lib.hid (L0.out.ex ee (fun b_ h_ => h_.elim))
  have P_2 := Lib.hid (P0.out.ex ee (fun h => h))
  have K_2 := Lib.hid (hb)
  clear ee T0 L0 P0 hb hl hsz hrr hlt hg ORD0
  go_wp2_with fail
  have hgn := Got_nil w2
  unfold St.val at hgn
  simp only [St.zero] at hgn
  have HGN := Lib.hid hgn
  clear hgn
  refine (HGN.out).mono ?_; rintro e w3 ⟨rfl, hb⟩
  clear HGN
  have ee : Ex (fun _ => False) w2 w3 := Ex.of_below hb
  have T_3 := Lib.hid (T_2.out.ex ee (fun h => h))
  have L_3 := Lib.hid (L_2.out.ex ee (fun b_ h_ => h_.elim))
  have P_3 := Lib.hid (P_2.out.ex ee (fun h => h))
  have K_3 := Lib.hid (K_2.out.ex ee (fun h => h) (fun h => h))
  clear ee T_2 L_2 P_2 K_2 hb
  go_upto_region 6 with fail
  obtain ⟨sb, hsb, hM⟩ : ∃ sb : Nat, w3.heap.size = sb ∧ g < sb ∧ rr < sb := ⟨w3.heap.size, rfl, K_3.out.head.lt, K_3.out.row.lt⟩
  have ORD4 := Lib.hid (show 0 < pb ∧ pb < rr ∧ rr + 1 = g ∧ g < sb ∧ rr < sb from by have o_ := ORD1.out; omega)
  have hnb := Blk.new w3 34 #[.int .i64 0, .int .i64 0, .bool false, .int .i64 0, .int .u64 0]
  rw [hsb] at hnb
  simp only [hsb]
  have ee : Ex (fun _ => False) w3 (w3.alloc (.cells #[.int .i64 0, .int .i64 0, .bool false, .int .i64 0, .int .u64 0] 34)) := (Ex.refl (fun _ => False) w3).alloc (.cells #[.int .i64 0, .int .i64 0, .bool false, .int .i64 0, .int .u64 0] 34)
  have T_5 := Lib.hid (T_3.out.ex ee (fun h => h))
  have L_5 := Lib.hid (L_3.out.ex ee (fun b_ h_ => h_.elim))
  have P_5 := Lib.hid (P_3.out.ex ee (fun h => h))
  have K_5 := Lib.hid (K_3.out.ex ee (fun h => h) (fun h => h))
  have S_5 := Lib.hid (hnb)
  clear ee T_3 L_3 P_3 K_3 hnb hM ORD1
  generalize w3.alloc (.cells #[.int .i64 0, .int .i64 0, .bool false, .int .i64 0, .int .u64 0] 34) = w4 at *
  clear hsb
  go_wp2_with fail
  refine (Step_nil _ w4).mono ?_; rintro e w_ ⟨rfl, rfl⟩
  have Sq0 := (S_5.out).cell 0
  have Sq1 := (S_5.out).cell 1
  have Sq2 := (S_5.out).cell 2
  have Sq3 := (S_5.out).cell 3
  have Sq4 := (S_5.out).cell 4
  simp only [List.getElem?_toArray, List.getElem?_cons_succ, List.getElem?_cons_zero] at Sq0 Sq1 Sq2 Sq3 Sq4
  go_wp2_with fail
  refine (At_nil w4).mono ?_; rintro e w_ ⟨rfl, rfl⟩
  go_wp2_with fail
  refine (Steps_nil w4).mono ?_; rintro e w_ ⟨rfl, rfl⟩
  go_wp2_with fail
  refine (HAM.out w4).mono ?_; rintro e w_ ⟨rfl, rfl⟩
  clear Sq0 Sq1 Sq2 Sq3 Sq4
  have Pq0 := (P_5.out).cell 0
  have Pq1 := (P_5.out).cell 1
  have Pq2 := (P_5.out).cell 2
  have Pq3 := (P_5.out).cell 3
  have Pq4 := (P_5.out).cell 4
  simp only [List.getElem?_toArray, List.getElem?_cons_succ, List.getElem?_cons_zero] at Pq0 Pq1 Pq2 Pq3 Pq4
  go_wp2_with fail
  clear Pq0 Pq1 Pq2 Pq3 Pq4
  refine (HBG.out w4 (Nat.lt_of_le_of_lt (Nat.zero_le _) K_5.out.head.lt)).mono ?_; rintro e w6a ⟨oa, ba, rfl, ha, hs1, hs2, hs3, hs4, hb⟩
  obtain ⟨Ma, hM⟩ : ∃ Ma : Nat, g < Ma ∧ rr < Ma ∧ sb < Ma ∧ Ma ≤ oa ∧ (Ma ≤ ba ∨ ba = 0) := ⟨w4.heap.size, K_5.out.head.lt, K_5.out.row.lt, S_5.out.lt, hs1, hs2⟩
  have ORD6 := Lib.hid (show 0 < pb ∧ pb < rr ∧ rr + 1 = g ∧ g < sb ∧ rr < sb ∧ g < Ma ∧ rr < Ma ∧ sb < Ma ∧ Ma ≤ oa ∧ (Ma ≤ ba ∨ ba = 0) from by have o_ := ORD4.out; omega)
  have Ia_6 := Lib.hid (show AInv k m (AX.zero m) from HIV.out)
  have ee : Ex (fun _ => False) w4 w6a := Ex.of_below hb
  have T_7 := Lib.hid (T_5.out.ex ee (fun h => h))
  have L_7 := Lib.hid (L_5.out.ex ee (fun b_ h_ => h_.elim))
  have P_7 := Lib.hid (P_5.out.ex ee (fun h => h))
  have K_7 := Lib.hid (K_5.out.ex ee (fun h => h) (fun h => h))
  have S_7 := Lib.hid (S_5.out.ex ee (fun h => h))
  have Aa_7 := Lib.hid (ha)
  clear ee T_5 L_5 P_5 K_5 S_5 hb hs1 hs2 hs3 hs4 hM ORD4
  have Pq0 := (P_7.out).cell 0
  have Pq1 := (P_7.out).cell 1
  have Pq2 := (P_7.out).cell 2
  have Pq3 := (P_7.out).cell 3
  have Pq4 := (P_7.out).cell 4
  simp only [List.getElem?_toArray, List.getElem?_cons_succ, List.getElem?_cons_zero] at Pq0 Pq1 Pq2 Pq3 Pq4
  go_wp2_with fail
  refine (HPL.out w6a).mono ?_; rintro e w6 ⟨rfl, hb⟩
  clear Pq0 Pq1 Pq2 Pq3 Pq4
  have ee : Ex (fun _ => False) w6a w6 := Ex.of_below hb
  have T_8 := Lib.hid (T_7.out.ex ee (fun h => h))
  have L_8 := Lib.hid (L_7.out.ex ee (fun b_ h_ => h_.elim))
  have P_8 := Lib.hid (P_7.out.ex ee (fun h => h))
  have K_8 := Lib.hid (K_7.out.ex ee (fun h => h) (fun h => h))
  have S_8 := Lib.hid (S_7.out.ex ee (fun h => h))
  have Aa_8 := Lib.hid (Aa_7.out.ex ee (fun h => h) (fun h => h))
  clear ee T_7 L_7 P_7 K_7 S_7 Aa_7 hb
  have hBn := Blk.new w6 46 #[.int .i64 0, .int .i64 0, .int .i64 0, .bool false, .int .i64 0, .int .i64 0, .int .i64 0, .int .i64 0, .int .u64 0, .int .i64 0, .int .i64 0, .int .i64 0, .bool false, .int .i64 0, .int .u64 0, .int .i64 0, .int .i64 0, .int .i64 0]
  have hBm := Blk.rowed w6 46 #[.int .i64 0, .int .i64 0, .int .i64 0, .bool false, .int .i64 0, .int .i64 0, .int .i64 0, .int .i64 0, .int .u64 0, .int .i64 0, .int .i64 0, .int .i64 0, .bool false, .int .i64 0, .int .u64 0, .int .i64 0, .int .i64 0, .int .i64 0] C
  have hci : (Tryd.prog.info? 46).map (·.size) = some C.size := by rw [HCS.out]; kernel_rfl
  go_wp2_with (first | refine wpList_store_row rfl 46 _ _ rfl w6.heap.size C rfl rfl 46 #[.int .i64 0, .int .i64 0, .int .i64 0, .bool false, .int .i64 0, .int .i64 0, .int .i64 0, .int .i64 0, .int .u64 0, .int .i64 0, .int .i64 0, .int .i64 0, .bool false, .int .i64 0, .int .u64 0, .int .i64 0, .int .i64 0, .int .i64 0] hBn hci HCS.out.symm HCO.out ?_ | refine wpList_load_row rfl 46 _ rfl w6.heap.size rfl 46 C (0, 0) _ hBm Tryd.underlying46 rfl hci ?_)
  have ee : Ex (fun _ => False) w6 ((w6.alloc (.cells #[.int .i64 0, .int .i64 0, .int .i64 0, .bool false, .int .i64 0, .int .i64 0, .int .i64 0, .int .i64 0, .int .u64 0, .int .i64 0, .int .i64 0, .int .i64 0, .bool false, .int .i64 0, .int .u64 0, .int .i64 0, .int .i64 0, .int .i64 0] 46)).setRow w6.heap.size C) := Ex.rowed
  have T_9 := Lib.hid (T_8.out.ex ee (fun h => h))
  have L_9 := Lib.hid (L_8.out.ex ee (fun b_ h_ => h_.elim))
  have P_9 := Lib.hid (P_8.out.ex ee (fun h => h))
  have K_9 := Lib.hid (K_8.out.ex ee (fun h => h) (fun h => h))
  have S_9 := Lib.hid (S_8.out.ex ee (fun h => h))
  have Aa_9 := Lib.hid (Aa_8.out.ex ee (fun h => h) (fun h => h))
  clear ee T_8 L_8 P_8 K_8 S_8 Aa_8 hBn hBm hci
  generalize ((w6.alloc (.cells #[.int .i64 0, .int .i64 0, .int .i64 0, .bool false, .int .i64 0, .int .i64 0, .int .i64 0, .int .i64 0, .int .u64 0, .int .i64 0, .int .i64 0, .int .i64 0, .bool false, .int .i64 0, .int .u64 0, .int .i64 0, .int .i64 0, .int .i64 0] 46)).setRow w6.heap.size C) = w7 at *
  refine (HMY.out w7).mono ?_; rintro e w8 ⟨rfl, hb⟩
  have ee : Ex (fun _ => False) w7 w8 := Ex.of_below hb
  have T_10 := Lib.hid (T_9.out.ex ee (fun h => h))
  have L_10 := Lib.hid (L_9.out.ex ee (fun b_ h_ => h_.elim))
  have P_10 := Lib.hid (P_9.out.ex ee (fun h => h))
  have K_10 := Lib.hid (K_9.out.ex ee (fun h => h) (fun h => h))
  have S_10 := Lib.hid (S_9.out.ex ee (fun h => h))
  have Aa_10 := Lib.hid (Aa_9.out.ex ee (fun h => h) (fun h => h))
  clear ee T_9 L_9 P_9 K_9 S_9 Aa_9 hb
  go_wp2_with fail
  have HG := Lib.hid (Got_any oa ba k a ⟨0, false, 0, St.zero, St.zero, 0, m, 0⟩ w8 Aa_10.out)
  unfold St.val at HG
  simp only [AX.zero, St.zero] at HG
  refine (HG.out).mono ?_; rintro e w10 ⟨rfl, hb⟩
  clear HG
  have ee : Ex (fun _ => False) w8 w10 := Ex.of_below hb
  have T_11 := Lib.hid (T_10.out.ex ee (fun h => h))
  have L_11 := Lib.hid (L_10.out.ex ee (fun b_ h_ => h_.elim))
  have P_11 := Lib.hid (P_10.out.ex ee (fun h => h))
  have K_11 := Lib.hid (K_10.out.ex ee (fun h => h) (fun h => h))
  have S_11 := Lib.hid (S_10.out.ex ee (fun h => h))
  have Aa_11 := Lib.hid (Aa_10.out.ex ee (fun h => h) (fun h => h))
  clear ee T_10 L_10 P_10 K_10 S_10 Aa_10 hb
  have Sq0 := (S_11.out).cell 0
  have Sq1 := (S_11.out).cell 1
  have Sq2 := (S_11.out).cell 2
  have Sq3 := (S_11.out).cell 3
  have Sq4 := (S_11.out).cell 4
  simp only [List.getElem?_toArray, List.getElem?_cons_succ, List.getElem?_cons_zero] at Sq0 Sq1 Sq2 Sq3 Sq4
  have Sf0 := (S_11.out).frozen 0
  have Sf1 := (S_11.out).frozen 1
  have Sf2 := (S_11.out).frozen 2
  have Sf3 := (S_11.out).frozen 3
  have Sf4 := (S_11.out).frozen 4
  go_upto_region 20 with fail
  clear Sq0 Sq1 Sq2 Sq3 Sq4 Sf0 Sf1 Sf2 Sf3 Sf4
  have hbb := set5_blk (x0 := .int .i64 0) (x1 := .int .i64 0) (x2 := .bool false) (x3 := .int .i64 0) (x4 := .int .u64 0) S_11.out
  have ee : Ex (fun k => k = sb) w10 (((((w10.setCell ⟨sb, 0, none⟩ (.int .i64 0)).setCell ⟨sb, 1, none⟩ (.int .i64 0)).setCell ⟨sb, 2, none⟩ (.bool false)).setCell ⟨sb, 3, none⟩ (.int .i64 0)).setCell ⟨sb, 4, none⟩ (.int .u64 0)) := ((((((Ex.refl (fun q => q = sb) w10).setCell (q := ⟨sb, 0, none⟩) (.inl rfl) (.int .i64 0)).setCell (q := ⟨sb, 1, none⟩) (.inl rfl) (.int .i64 0)).setCell (q := ⟨sb, 2, none⟩) (.inl rfl) (.bool false)).setCell (q := ⟨sb, 3, none⟩) (.inl rfl) (.int .i64 0)).setCell (q := ⟨sb, 4, none⟩) (.inl rfl) (.int .u64 0))
  have T_12 := Lib.hid (T_11.out.ex ee (by have o_ := ORD6.out; omega))
  have L_12 := Lib.hid (L_11.out.ex ee (fun b_ h_ => by have o_ := ORD6.out; have h_ : b_ = sb := h_; first | omega | (show _ ∨ _; omega)))
  have P_12 := Lib.hid (P_11.out.ex ee (by have o_ := ORD6.out; omega))
  have K_12 := Lib.hid (K_11.out.ex ee (by have o_ := ORD6.out; omega) (by have o_ := ORD6.out; omega))
  have Aa_12 := Lib.hid (Aa_11.out.ex ee (by have o_ := ORD6.out; omega) (by have o_ := ORD6.out; omega))
  have S_12 := Lib.hid (hbb)
  clear ee T_11 L_11 P_11 K_11 S_11 Aa_11 hbb
  generalize (((((w10.setCell ⟨sb, 0, none⟩ (.int .i64 0)).setCell ⟨sb, 1, none⟩ (.int .i64 0)).setCell ⟨sb, 2, none⟩ (.bool false)).setCell ⟨sb, 3, none⟩ (.int .i64 0)).setCell ⟨sb, 4, none⟩ (.int .u64 0)) = w11 at *
  have Sq0 := (S_12.out).cell 0
  have Sq1 := (S_12.out).cell 1
  have Sq2 := (S_12.out).cell 2
  have Sq3 := (S_12.out).cell 3
  have Sq4 := (S_12.out).cell 4
  simp only [List.getElem?_toArray, List.getElem?_cons_succ, List.getElem?_cons_zero] at Sq0 Sq1 Sq2 Sq3 Sq4
  go_wp2_with fail
  refine (At_not oa ba k a ⟨0, false, 0, St.zero, St.zero, 0, m, 0⟩ w11 Aa_12.out (show (0 : Int) ≠ 1 by decide)).mono ?_; rintro e w_ ⟨rfl, rfl⟩
  go_wp2_with fail
  refine (Steps_any oa ba k a ⟨0, false, 0, St.zero, St.zero, 0, m, 0⟩ w11 Aa_12.out).mono ?_; rintro e w_ ⟨rfl, rfl⟩
  go_wp2_with fail
  clear Sq0 Sq1 Sq2 Sq3 Sq4
  refine (Step_nilbank oa ba k a 0 St.zero St.zero 0 m 0 w11 Aa_12.out).mono ?_; rintro e w12 ⟨rfl, ha, hx⟩
  have ee : Ex (fun k => k = oa) w11 w12 := hx
  have T_13 := Lib.hid (T_12.out.ex ee (by have o_ := ORD6.out; omega))
  have L_13 := Lib.hid (L_12.out.ex ee (fun b_ h_ => by have o_ := ORD6.out; have h_ : b_ = oa := h_; first | omega | (show _ ∨ _; omega)))
  have P_13 := Lib.hid (P_12.out.ex ee (by have o_ := ORD6.out; omega))
  have K_13 := Lib.hid (K_12.out.ex ee (by have o_ := ORD6.out; omega) (by have o_ := ORD6.out; omega))
  have S_13 := Lib.hid (S_12.out.ex ee (by have o_ := ORD6.out; omega))
  have Aa_13 := Lib.hid (ha)
  clear ee T_12 L_12 P_12 K_12 S_12 Aa_12 ha hx
  go_wp2_with fail
  have HG := Lib.hid (Got_any oa ba k a ⟨3, false, 0, St.zero, St.zero, 2, m, 0⟩ w12 Aa_13.out)
  unfold St.val at HG
  simp only [AX.zero, St.zero] at HG
  refine (HG.out).mono ?_; rintro e w13 ⟨rfl, hb⟩
  clear HG
  have ee : Ex (fun _ => False) w12 w13 := Ex.of_below hb
  have T_14 := Lib.hid (T_13.out.ex ee (fun h => h))
  have L_14 := Lib.hid (L_13.out.ex ee (fun b_ h_ => h_.elim))
  have P_14 := Lib.hid (P_13.out.ex ee (fun h => h))
  have K_14 := Lib.hid (K_13.out.ex ee (fun h => h) (fun h => h))
  have S_14 := Lib.hid (S_13.out.ex ee (fun h => h))
  have Aa_14 := Lib.hid (Aa_13.out.ex ee (fun h => h) (fun h => h))
  clear ee T_13 L_13 P_13 K_13 S_13 Aa_13 hb
  have Sq0 := (S_14.out).cell 0
  have Sq1 := (S_14.out).cell 1
  have Sq2 := (S_14.out).cell 2
  have Sq3 := (S_14.out).cell 3
  have Sq4 := (S_14.out).cell 4
  simp only [List.getElem?_toArray, List.getElem?_cons_succ, List.getElem?_cons_zero] at Sq0 Sq1 Sq2 Sq3 Sq4
  have Sf0 := (S_14.out).frozen 0
  have Sf1 := (S_14.out).frozen 1
  have Sf2 := (S_14.out).frozen 2
  have Sf3 := (S_14.out).frozen 3
  have Sf4 := (S_14.out).frozen 4
  go_upto_region 25 with fail
  clear Sq0 Sq1 Sq2 Sq3 Sq4 Sf0 Sf1 Sf2 Sf3 Sf4
  have hbb := set5_blk (x0 := .int .i64 0) (x1 := .int .i64 0) (x2 := .bool false) (x3 := .int .i64 0) (x4 := .int .u64 0) S_14.out
  have ee : Ex (fun k => k = sb) w13 (((((w13.setCell ⟨sb, 0, none⟩ (.int .i64 0)).setCell ⟨sb, 1, none⟩ (.int .i64 0)).setCell ⟨sb, 2, none⟩ (.bool false)).setCell ⟨sb, 3, none⟩ (.int .i64 0)).setCell ⟨sb, 4, none⟩ (.int .u64 0)) := ((((((Ex.refl (fun q => q = sb) w13).setCell (q := ⟨sb, 0, none⟩) (.inl rfl) (.int .i64 0)).setCell (q := ⟨sb, 1, none⟩) (.inl rfl) (.int .i64 0)).setCell (q := ⟨sb, 2, none⟩) (.inl rfl) (.bool false)).setCell (q := ⟨sb, 3, none⟩) (.inl rfl) (.int .i64 0)).setCell (q := ⟨sb, 4, none⟩) (.inl rfl) (.int .u64 0))
  have T_15 := Lib.hid (T_14.out.ex ee (by have o_ := ORD6.out; omega))
  have L_15 := Lib.hid (L_14.out.ex ee (fun b_ h_ => by have o_ := ORD6.out; have h_ : b_ = sb := h_; first | omega | (show _ ∨ _; omega)))
  have P_15 := Lib.hid (P_14.out.ex ee (by have o_ := ORD6.out; omega))
  have K_15 := Lib.hid (K_14.out.ex ee (by have o_ := ORD6.out; omega) (by have o_ := ORD6.out; omega))
  have Aa_15 := Lib.hid (Aa_14.out.ex ee (by have o_ := ORD6.out; omega) (by have o_ := ORD6.out; omega))
  have S_15 := Lib.hid (hbb)
  clear ee T_14 L_14 P_14 K_14 S_14 Aa_14 hbb
  generalize (((((w13.setCell ⟨sb, 0, none⟩ (.int .i64 0)).setCell ⟨sb, 1, none⟩ (.int .i64 0)).setCell ⟨sb, 2, none⟩ (.bool false)).setCell ⟨sb, 3, none⟩ (.int .i64 0)).setCell ⟨sb, 4, none⟩ (.int .u64 0)) = w14 at *
  have Sq0 := (S_15.out).cell 0
  have Sq1 := (S_15.out).cell 1
  have Sq2 := (S_15.out).cell 2
  have Sq3 := (S_15.out).cell 3
  have Sq4 := (S_15.out).cell 4
  simp only [List.getElem?_toArray, List.getElem?_cons_succ, List.getElem?_cons_zero] at Sq0 Sq1 Sq2 Sq3 Sq4
  go_wp2_with fail
  have IZ := Lib.hid (show AInv k m ⟨3, false, 0, St.zero, St.zero, 2, m, 0⟩ from by have := HIV.out; exact ⟨this.nn, by simp, fun h => by simp at h, fun h => by simp at h, fun _ => ⟨rfl, fun h => by simp at h⟩, fun h => by simp at h⟩)
  have hq := still_step (k := k) (at_ := a) (ws := [0, 0]) (t := 0) (x := ⟨3, false, 0, St.zero, St.zero, 2, m, 0⟩) (by simp)
  refine (Step_any g rr oa ba [0, 0] 0 k HOK.out m a ⟨3, false, 0, St.zero, St.zero, 2, m, 0⟩ IZ.out w14 Aa_15.out K_15.out T_15.out (by have o_ := ORD6.out; omega)).mono ?_; rintro e w15 ⟨rfl, hb, ha, hx⟩
  rw [hq.2.1, hq.2.2] at hb
  rw [hq.1] at ha ⊢
  clear Sq0 Sq1 Sq2 Sq3 Sq4
  have ee : Ex (fun k => k = g ∨ k = rr ∨ k = oa) w14 w15 := hx
  have T_16 := Lib.hid (T_15.out.ex ee (by have o_ := ORD6.out; omega))
  have L_16 := Lib.hid (L_15.out.ex ee (fun b_ h_ => by have o_ := ORD6.out; have h_ : b_ = g ∨ b_ = rr ∨ b_ = oa := h_; first | omega | (show _ ∨ _; omega)))
  have P_16 := Lib.hid (P_15.out.ex ee (by have o_ := ORD6.out; omega))
  have S_16 := Lib.hid (S_15.out.ex ee (by have o_ := ORD6.out; omega))
  have K_16 := Lib.hid (hb)
  have Aa_16 := Lib.hid (ha)
  clear ee T_15 L_15 P_15 K_15 S_15 Aa_15 hb ha hx hq
  go_wp2_with fail
  refine (Touches_any g rr [0, 0] 0 w15 K_16.out).mono ?_; rintro e w_ ⟨rfl, rfl⟩
  go_wp2_with fail
  refine (awake_any w15 T_16.out).mono ?_; rintro e w16 ⟨rfl, hb⟩
  have ee : Ex (fun _ => False) w15 w16 := Ex.of_below hb
  have T_17 := Lib.hid (T_16.out.ex ee (fun h => h))
  have L_17 := Lib.hid (L_16.out.ex ee (fun b_ h_ => h_.elim))
  have P_17 := Lib.hid (P_16.out.ex ee (fun h => h))
  have K_17 := Lib.hid (K_16.out.ex ee (fun h => h) (fun h => h))
  have S_17 := Lib.hid (S_16.out.ex ee (fun h => h))
  have Aa_17 := Lib.hid (Aa_16.out.ex ee (fun h => h) (fun h => h))
  clear ee T_16 L_16 P_16 K_16 S_16 Aa_16 hb
  go_wp2_with fail
  go_ret
  exact ⟨rfl, L_17.out.low.mono HBS.out⟩
set_option maxRecDepth 100000 in
set_option maxHeartbeats 1000000 in
theorem Nl_in_neg (a kd so mo : Int) (fr : Bool) (fl n : Int) (w : World) (ht : Tab w) (hn : 1 ≤ n ∧ n ≤ 16) (hm : (⟨kd, so, mo, fr, fl⟩ : Pl).May n) (hp : (⟨kd, so, mo, fr, fl⟩ : Pl).Ok) (ha : a < 0) :
    Calls Tryd.prog 4 #[.int .i64 a, .agg #[.int .i64 kd, .int .i64 so, .int .i64 mo, .bool fr, .int .i64 fl], .int .i64 n] w fun e w' => e = .returned (.bool true) ∧ Below w.heap.size w w' := by
  have t1 : decide (n ≥ 1) = true := decide_eq_true hn.1
  have t2 : decide (n ≤ 16) = true := decide_eq_true hn.2
  have t3 : wrap64 (2 * n) = 2 * n := by unfold wrap64; omega
  have ham := fun W => AMost_any n W
  simp only [show amostF n = 2 * n from if_pos hn] at ham
  obtain ⟨m2, hm2⟩ : ∃ m2 : Int, 2 * n = m2 := ⟨_, rfl⟩
  simp only [hm2] at ham t3
  have t4 : (m2 != m2) = false := by simp
  have HAM := Lib.hid ham
  clear ham hn
  have hpl := fun W => plain_any (⟨kd, so, mo, fr, fl⟩ : Pl) n W
  have hmy := fun W => May_any (⟨kd, so, mo, fr, fl⟩ : Pl) n W
  simp only [decide_eq_true hm] at hmy
  obtain ⟨C, hC⟩ : ∃ C, RX.cells (⟨kd, so, mo, fr, fl⟩ : Pl) n RX.zero = C := ⟨_, rfl⟩
  have HCS := Lib.hid (show C.size = 18 from hC ▸ RX.cells_size _ _ _)
  have HCO := Lib.hid (show C.all (·.oneCell') = true from hC ▸ RX.cells_one _ _ _)
  simp only [hC] at hpl hmy
  unfold Pl.val at hpl
  simp only at hpl
  have HPL := Lib.hid hpl
  have HMY := Lib.hid hmy
  clear hpl hmy hC
  have hbg := fun W hz => begin_in a n (⟨kd, so, mo, fr, fl⟩ : Pl) W hz hm
  unfold Pl.val at hbg
  simp only at hbg
  have hok := Pl.kd_ok hp
  have hiv := Pl.inv hm
  obtain ⟨k, hk⟩ : ∃ k, (⟨kd, so, mo, fr, fl⟩ : Pl).kd = k := ⟨_, rfl⟩
  obtain ⟨m, hmm⟩ : ∃ m, (⟨kd, so, mo, fr, fl⟩ : Pl).n n = m := ⟨_, rfl⟩
  simp only [hk, hmm] at hbg hok hiv
  have HBG := Lib.hid hbg
  have HOK := Lib.hid hok
  have HIV := Lib.hid hiv
  clear hbg hok hiv hk hmm hm hp
  have a1 : decide (a ≥ 0) = false := decide_eq_false (by omega)
  have HIN := Lib.hid (show ¬ inW [0, 0] a from fun h => by have := h.1; omega)
  clear ha
  have hq0 := (blk_new' w (g := w.heap.size) (by simp) 41 #[.int .i64 kd, .int .i64 so, .int .i64 mo, .bool fr, .int .i64 fl])
  have hlo := ((Below.refl w.heap.size w).alloc (by first | exact Nat.le_refl _ | (simp; done) | (simp; omega)) (.cells #[.int .i64 kd, .int .i64 so, .int .i64 mo, .bool fr, .int .i64 fl] 41))
  have hz0 : 0 < w.heap.size := lt_of_cell (ht 0 (by decide))
  have ht1 := ht.below hlo
  go_enter Tryd.func4, Tryd.ntmps4
  go_upto_region 1 with fail
  generalize (w.alloc (.cells #[.int .i64 kd, .int .i64 so, .int .i64 mo, .bool fr, .int .i64 fl] 41)) = w1 at *
  obtain ⟨pb, hfb⟩ : ∃ pb, w.heap.size = pb := ⟨_, rfl⟩
  have hlo9 : Lo w.heap.size w w1 := ⟨hlo, hlo.size⟩
  have HBS := Lib.hid (Nat.le_of_eq hfb)
  simp only [hfb] at hlo9 hz0 hq0 ⊢
  have ORD0 := Lib.hid (show 0 < pb from hz0)
  have T0 := Lib.hid ht1
  have L0 := Lib.hid hlo9
  have P0 := Lib.hid hq0
  clear ht ht1 hlo hlo9 hz0 hfb  hq0
  go_wp2_with fail
  refine (New_in 2 (by decide) (by decide) w1).mono ?_; rintro e w2 ⟨rfl, hb, hl, hsz⟩
  have hb : BankAt w2 (w1.heap.size + 1) w1.heap.size [0, 0] 0 := hb
  obtain ⟨rr, hrr⟩ : ∃ rr, w1.heap.size = rr := ⟨_, rfl⟩
  have hlt : pb < rr := hrr ▸ P0.out.lt
  simp only [hrr] at hb ⊢
  obtain ⟨g, hg⟩ : ∃ g, rr + 1 = g := ⟨_, rfl⟩
  simp only [hg] at hb ⊢
  have ORD1 := Lib.hid (show 0 < pb ∧ pb < rr ∧ rr + 1 = g from by have o_ := ORD0.out; omega)
  have ee : Ex (fun _ => False) w1 w2 := Ex.of_below hl
  have T_2 := Lib.hid (T0.out.ex ee (fun h => h))
  have L_2 := Lib.hid (L0.out.ex ee (fun b_ h_ => h_.elim))
  have P_2 := Lib.hid (P0.out.ex ee (fun h => h))
  have K_2 := Lib.hid (hb)
  clear ee T0 L0 P0 hb hl hsz hrr hlt hg ORD0
  go_wp2_with fail
  have hgn := Got_nil w2
  unfold St.val at hgn
  simp only [St.zero] at hgn
  have HGN := Lib.hid hgn
  clear hgn
  refine (HGN.out).mono ?_; rintro e w3 ⟨rfl, hb⟩
  clear HGN
  have ee : Ex (fun _ => False) w2 w3 := Ex.of_below hb
  have T_3 := Lib.hid (T_2.out.ex ee (fun h => h))
  have L_3 := Lib.hid (L_2.out.ex ee (fun b_ h_ => h_.elim))
  have P_3 := Lib.hid (P_2.out.ex ee (fun h => h))
  have K_3 := Lib.hid (K_2.out.ex ee (fun h => h) (fun h => h))
  clear ee T_2 L_2 P_2 K_2 hb
  go_upto_region 6 with fail
  obtain ⟨sb, hsb, hM⟩ : ∃ sb : Nat, w3.heap.size = sb ∧ g < sb ∧ rr < sb := ⟨w3.heap.size, rfl, K_3.out.head.lt, K_3.out.row.lt⟩
  have ORD4 := Lib.hid (show 0 < pb ∧ pb < rr ∧ rr + 1 = g ∧ g < sb ∧ rr < sb from by have o_ := ORD1.out; omega)
  have hnb := Blk.new w3 34 #[.int .i64 0, .int .i64 0, .bool false, .int .i64 0, .int .u64 0]
  rw [hsb] at hnb
  simp only [hsb]
  have ee : Ex (fun _ => False) w3 (w3.alloc (.cells #[.int .i64 0, .int .i64 0, .bool false, .int .i64 0, .int .u64 0] 34)) := (Ex.refl (fun _ => False) w3).alloc (.cells #[.int .i64 0, .int .i64 0, .bool false, .int .i64 0, .int .u64 0] 34)
  have T_5 := Lib.hid (T_3.out.ex ee (fun h => h))
  have L_5 := Lib.hid (L_3.out.ex ee (fun b_ h_ => h_.elim))
  have P_5 := Lib.hid (P_3.out.ex ee (fun h => h))
  have K_5 := Lib.hid (K_3.out.ex ee (fun h => h) (fun h => h))
  have S_5 := Lib.hid (hnb)
  clear ee T_3 L_3 P_3 K_3 hnb hM ORD1
  generalize w3.alloc (.cells #[.int .i64 0, .int .i64 0, .bool false, .int .i64 0, .int .u64 0] 34) = w4 at *
  clear hsb
  go_wp2_with fail
  refine (Step_nil _ w4).mono ?_; rintro e w_ ⟨rfl, rfl⟩
  have Sq0 := (S_5.out).cell 0
  have Sq1 := (S_5.out).cell 1
  have Sq2 := (S_5.out).cell 2
  have Sq3 := (S_5.out).cell 3
  have Sq4 := (S_5.out).cell 4
  simp only [List.getElem?_toArray, List.getElem?_cons_succ, List.getElem?_cons_zero] at Sq0 Sq1 Sq2 Sq3 Sq4
  go_wp2_with fail
  refine (At_nil w4).mono ?_; rintro e w_ ⟨rfl, rfl⟩
  go_wp2_with fail
  refine (Steps_nil w4).mono ?_; rintro e w_ ⟨rfl, rfl⟩
  go_wp2_with fail
  refine (HAM.out w4).mono ?_; rintro e w_ ⟨rfl, rfl⟩
  clear Sq0 Sq1 Sq2 Sq3 Sq4
  have Pq0 := (P_5.out).cell 0
  have Pq1 := (P_5.out).cell 1
  have Pq2 := (P_5.out).cell 2
  have Pq3 := (P_5.out).cell 3
  have Pq4 := (P_5.out).cell 4
  simp only [List.getElem?_toArray, List.getElem?_cons_succ, List.getElem?_cons_zero] at Pq0 Pq1 Pq2 Pq3 Pq4
  go_wp2_with fail
  clear Pq0 Pq1 Pq2 Pq3 Pq4
  refine (HBG.out w4 (Nat.lt_of_le_of_lt (Nat.zero_le _) K_5.out.head.lt)).mono ?_; rintro e w6a ⟨oa, ba, rfl, ha, hs1, hs2, hs3, hs4, hb⟩
  obtain ⟨Ma, hM⟩ : ∃ Ma : Nat, g < Ma ∧ rr < Ma ∧ sb < Ma ∧ Ma ≤ oa ∧ (Ma ≤ ba ∨ ba = 0) := ⟨w4.heap.size, K_5.out.head.lt, K_5.out.row.lt, S_5.out.lt, hs1, hs2⟩
  have ORD6 := Lib.hid (show 0 < pb ∧ pb < rr ∧ rr + 1 = g ∧ g < sb ∧ rr < sb ∧ g < Ma ∧ rr < Ma ∧ sb < Ma ∧ Ma ≤ oa ∧ (Ma ≤ ba ∨ ba = 0) from by have o_ := ORD4.out; omega)
  have Ia_6 := Lib.hid (show AInv k m (AX.zero m) from HIV.out)
  have ee : Ex (fun _ => False) w4 w6a := Ex.of_below hb
  have T_7 := Lib.hid (T_5.out.ex ee (fun h => h))
  have L_7 := Lib.hid (L_5.out.ex ee (fun b_ h_ => h_.elim))
  have P_7 := Lib.hid (P_5.out.ex ee (fun h => h))
  have K_7 := Lib.hid (K_5.out.ex ee (fun h => h) (fun h => h))
  have S_7 := Lib.hid (S_5.out.ex ee (fun h => h))
  have Aa_7 := Lib.hid (ha)
  clear ee T_5 L_5 P_5 K_5 S_5 hb hs1 hs2 hs3 hs4 hM ORD4
  have Pq0 := (P_7.out).cell 0
  have Pq1 := (P_7.out).cell 1
  have Pq2 := (P_7.out).cell 2
  have Pq3 := (P_7.out).cell 3
  have Pq4 := (P_7.out).cell 4
  simp only [List.getElem?_toArray, List.getElem?_cons_succ, List.getElem?_cons_zero] at Pq0 Pq1 Pq2 Pq3 Pq4
  go_wp2_with fail
  refine (HPL.out w6a).mono ?_; rintro e w6 ⟨rfl, hb⟩
  clear Pq0 Pq1 Pq2 Pq3 Pq4
  have ee : Ex (fun _ => False) w6a w6 := Ex.of_below hb
  have T_8 := Lib.hid (T_7.out.ex ee (fun h => h))
  have L_8 := Lib.hid (L_7.out.ex ee (fun b_ h_ => h_.elim))
  have P_8 := Lib.hid (P_7.out.ex ee (fun h => h))
  have K_8 := Lib.hid (K_7.out.ex ee (fun h => h) (fun h => h))
  have S_8 := Lib.hid (S_7.out.ex ee (fun h => h))
  have Aa_8 := Lib.hid (Aa_7.out.ex ee (fun h => h) (fun h => h))
  clear ee T_7 L_7 P_7 K_7 S_7 Aa_7 hb
  have hBn := Blk.new w6 46 #[.int .i64 0, .int .i64 0, .int .i64 0, .bool false, .int .i64 0, .int .i64 0, .int .i64 0, .int .i64 0, .int .u64 0, .int .i64 0, .int .i64 0, .int .i64 0, .bool false, .int .i64 0, .int .u64 0, .int .i64 0, .int .i64 0, .int .i64 0]
  have hBm := Blk.rowed w6 46 #[.int .i64 0, .int .i64 0, .int .i64 0, .bool false, .int .i64 0, .int .i64 0, .int .i64 0, .int .i64 0, .int .u64 0, .int .i64 0, .int .i64 0, .int .i64 0, .bool false, .int .i64 0, .int .u64 0, .int .i64 0, .int .i64 0, .int .i64 0] C
  have hci : (Tryd.prog.info? 46).map (·.size) = some C.size := by rw [HCS.out]; kernel_rfl
  go_wp2_with (first | refine wpList_store_row rfl 46 _ _ rfl w6.heap.size C rfl rfl 46 #[.int .i64 0, .int .i64 0, .int .i64 0, .bool false, .int .i64 0, .int .i64 0, .int .i64 0, .int .i64 0, .int .u64 0, .int .i64 0, .int .i64 0, .int .i64 0, .bool false, .int .i64 0, .int .u64 0, .int .i64 0, .int .i64 0, .int .i64 0] hBn hci HCS.out.symm HCO.out ?_ | refine wpList_load_row rfl 46 _ rfl w6.heap.size rfl 46 C (0, 0) _ hBm Tryd.underlying46 rfl hci ?_)
  have ee : Ex (fun _ => False) w6 ((w6.alloc (.cells #[.int .i64 0, .int .i64 0, .int .i64 0, .bool false, .int .i64 0, .int .i64 0, .int .i64 0, .int .i64 0, .int .u64 0, .int .i64 0, .int .i64 0, .int .i64 0, .bool false, .int .i64 0, .int .u64 0, .int .i64 0, .int .i64 0, .int .i64 0] 46)).setRow w6.heap.size C) := Ex.rowed
  have T_9 := Lib.hid (T_8.out.ex ee (fun h => h))
  have L_9 := Lib.hid (L_8.out.ex ee (fun b_ h_ => h_.elim))
  have P_9 := Lib.hid (P_8.out.ex ee (fun h => h))
  have K_9 := Lib.hid (K_8.out.ex ee (fun h => h) (fun h => h))
  have S_9 := Lib.hid (S_8.out.ex ee (fun h => h))
  have Aa_9 := Lib.hid (Aa_8.out.ex ee (fun h => h) (fun h => h))
  clear ee T_8 L_8 P_8 K_8 S_8 Aa_8 hBn hBm hci
  generalize ((w6.alloc (.cells #[.int .i64 0, .int .i64 0, .int .i64 0, .bool false, .int .i64 0, .int .i64 0, .int .i64 0, .int .i64 0, .int .u64 0, .int .i64 0, .int .i64 0, .int .i64 0, .bool false, .int .i64 0, .int .u64 0, .int .i64 0, .int .i64 0, .int .i64 0] 46)).setRow w6.heap.size C) = w7 at *
  refine (HMY.out w7).mono ?_; rintro e w8 ⟨rfl, hb⟩
  have ee : Ex (fun _ => False) w7 w8 := Ex.of_below hb
  have T_10 := Lib.hid (T_9.out.ex ee (fun h => h))
  have L_10 := Lib.hid (L_9.out.ex ee (fun b_ h_ => h_.elim))
  have P_10 := Lib.hid (P_9.out.ex ee (fun h => h))
  have K_10 := Lib.hid (K_9.out.ex ee (fun h => h) (fun h => h))
  have S_10 := Lib.hid (S_9.out.ex ee (fun h => h))
  have Aa_10 := Lib.hid (Aa_9.out.ex ee (fun h => h) (fun h => h))
  clear ee T_9 L_9 P_9 K_9 S_9 Aa_9 hb
  go_wp2_with fail
  have HG := Lib.hid (Got_any oa ba k a ⟨0, false, 0, St.zero, St.zero, 0, m, 0⟩ w8 Aa_10.out)
  unfold St.val at HG
  simp only [AX.zero, St.zero] at HG
  refine (HG.out).mono ?_; rintro e w10 ⟨rfl, hb⟩
  clear HG
  have ee : Ex (fun _ => False) w8 w10 := Ex.of_below hb
  have T_11 := Lib.hid (T_10.out.ex ee (fun h => h))
  have L_11 := Lib.hid (L_10.out.ex ee (fun b_ h_ => h_.elim))
  have P_11 := Lib.hid (P_10.out.ex ee (fun h => h))
  have K_11 := Lib.hid (K_10.out.ex ee (fun h => h) (fun h => h))
  have S_11 := Lib.hid (S_10.out.ex ee (fun h => h))
  have Aa_11 := Lib.hid (Aa_10.out.ex ee (fun h => h) (fun h => h))
  clear ee T_10 L_10 P_10 K_10 S_10 Aa_10 hb
  have Sq0 := (S_11.out).cell 0
  have Sq1 := (S_11.out).cell 1
  have Sq2 := (S_11.out).cell 2
  have Sq3 := (S_11.out).cell 3
  have Sq4 := (S_11.out).cell 4
  simp only [List.getElem?_toArray, List.getElem?_cons_succ, List.getElem?_cons_zero] at Sq0 Sq1 Sq2 Sq3 Sq4
  have Sf0 := (S_11.out).frozen 0
  have Sf1 := (S_11.out).frozen 1
  have Sf2 := (S_11.out).frozen 2
  have Sf3 := (S_11.out).frozen 3
  have Sf4 := (S_11.out).frozen 4
  go_upto_region 20 with fail
  clear Sq0 Sq1 Sq2 Sq3 Sq4 Sf0 Sf1 Sf2 Sf3 Sf4
  have hbb := set5_blk (x0 := .int .i64 0) (x1 := .int .i64 0) (x2 := .bool false) (x3 := .int .i64 0) (x4 := .int .u64 0) S_11.out
  have ee : Ex (fun k => k = sb) w10 (((((w10.setCell ⟨sb, 0, none⟩ (.int .i64 0)).setCell ⟨sb, 1, none⟩ (.int .i64 0)).setCell ⟨sb, 2, none⟩ (.bool false)).setCell ⟨sb, 3, none⟩ (.int .i64 0)).setCell ⟨sb, 4, none⟩ (.int .u64 0)) := ((((((Ex.refl (fun q => q = sb) w10).setCell (q := ⟨sb, 0, none⟩) (.inl rfl) (.int .i64 0)).setCell (q := ⟨sb, 1, none⟩) (.inl rfl) (.int .i64 0)).setCell (q := ⟨sb, 2, none⟩) (.inl rfl) (.bool false)).setCell (q := ⟨sb, 3, none⟩) (.inl rfl) (.int .i64 0)).setCell (q := ⟨sb, 4, none⟩) (.inl rfl) (.int .u64 0))
  have T_12 := Lib.hid (T_11.out.ex ee (by have o_ := ORD6.out; omega))
  have L_12 := Lib.hid (L_11.out.ex ee (fun b_ h_ => by have o_ := ORD6.out; have h_ : b_ = sb := h_; first | omega | (show _ ∨ _; omega)))
  have P_12 := Lib.hid (P_11.out.ex ee (by have o_ := ORD6.out; omega))
  have K_12 := Lib.hid (K_11.out.ex ee (by have o_ := ORD6.out; omega) (by have o_ := ORD6.out; omega))
  have Aa_12 := Lib.hid (Aa_11.out.ex ee (by have o_ := ORD6.out; omega) (by have o_ := ORD6.out; omega))
  have S_12 := Lib.hid (hbb)
  clear ee T_11 L_11 P_11 K_11 S_11 Aa_11 hbb
  generalize (((((w10.setCell ⟨sb, 0, none⟩ (.int .i64 0)).setCell ⟨sb, 1, none⟩ (.int .i64 0)).setCell ⟨sb, 2, none⟩ (.bool false)).setCell ⟨sb, 3, none⟩ (.int .i64 0)).setCell ⟨sb, 4, none⟩ (.int .u64 0)) = w11 at *
  have Sq0 := (S_12.out).cell 0
  have Sq1 := (S_12.out).cell 1
  have Sq2 := (S_12.out).cell 2
  have Sq3 := (S_12.out).cell 3
  have Sq4 := (S_12.out).cell 4
  simp only [List.getElem?_toArray, List.getElem?_cons_succ, List.getElem?_cons_zero] at Sq0 Sq1 Sq2 Sq3 Sq4
  go_wp2_with fail
  refine (At_not oa ba k a ⟨0, false, 0, St.zero, St.zero, 0, m, 0⟩ w11 Aa_12.out (show (0 : Int) ≠ 1 by decide)).mono ?_; rintro e w_ ⟨rfl, rfl⟩
  go_wp2_with fail
  refine (Steps_any oa ba k a ⟨0, false, 0, St.zero, St.zero, 0, m, 0⟩ w11 Aa_12.out).mono ?_; rintro e w_ ⟨rfl, rfl⟩
  go_wp2_with fail
  clear Sq0 Sq1 Sq2 Sq3 Sq4
  have hs1 : aStep k a [0, 0] ⟨0, false, 0, St.zero, St.zero, 0, m, 0⟩ = ⟨3, false, 0, St.zero, St.zero, 10, m, 0⟩ := by unfold aStep; simp only [ne_eq, not_true_eq_false, if_false, if_true, if_neg HIN.out]
  have hs2 : aWs a [0, 0] ⟨0, false, 0, St.zero, St.zero, 0, m, 0⟩ = [0, 0] := by unfold aWs; simp
  have hs3 : aT a [0, 0] ⟨0, false, 0, St.zero, St.zero, 0, m, 0⟩ 0 = 0 := by unfold aT; simp only [if_true]; exact tickF_out HIN.out
  refine (Step_any g rr oa ba [0, 0] 0 k HOK.out m a ⟨0, false, 0, St.zero, St.zero, 0, m, 0⟩ Ia_6.out w11 Aa_12.out K_12.out T_12.out (by have o_ := ORD6.out; omega)).mono ?_; rintro e w12 ⟨rfl, hb, ha, hx⟩
  rw [hs2, hs3] at hb
  rw [hs1] at ha ⊢
  have ee : Ex (fun k => k = g ∨ k = rr ∨ k = oa) w11 w12 := hx
  have T_13 := Lib.hid (T_12.out.ex ee (by have o_ := ORD6.out; omega))
  have L_13 := Lib.hid (L_12.out.ex ee (fun b_ h_ => by have o_ := ORD6.out; have h_ : b_ = g ∨ b_ = rr ∨ b_ = oa := h_; first | omega | (show _ ∨ _; omega)))
  have P_13 := Lib.hid (P_12.out.ex ee (by have o_ := ORD6.out; omega))
  have S_13 := Lib.hid (S_12.out.ex ee (by have o_ := ORD6.out; omega))
  have K_13 := Lib.hid (hb)
  have Aa_13 := Lib.hid (ha)
  clear ee T_12 L_12 P_12 K_12 S_12 Aa_12 hb ha hx hs1 hs2 hs3
  go_wp2_with fail
  have HG := Lib.hid (Got_any oa ba k a ⟨3, false, 0, St.zero, St.zero, 10, m, 0⟩ w12 Aa_13.out)
  unfold St.val at HG
  simp only [AX.zero, St.zero] at HG
  refine (HG.out).mono ?_; rintro e w13 ⟨rfl, hb⟩
  clear HG
  have ee : Ex (fun _ => False) w12 w13 := Ex.of_below hb
  have T_14 := Lib.hid (T_13.out.ex ee (fun h => h))
  have L_14 := Lib.hid (L_13.out.ex ee (fun b_ h_ => h_.elim))
  have P_14 := Lib.hid (P_13.out.ex ee (fun h => h))
  have K_14 := Lib.hid (K_13.out.ex ee (fun h => h) (fun h => h))
  have S_14 := Lib.hid (S_13.out.ex ee (fun h => h))
  have Aa_14 := Lib.hid (Aa_13.out.ex ee (fun h => h) (fun h => h))
  clear ee T_13 L_13 P_13 K_13 S_13 Aa_13 hb
  have Sq0 := (S_14.out).cell 0
  have Sq1 := (S_14.out).cell 1
  have Sq2 := (S_14.out).cell 2
  have Sq3 := (S_14.out).cell 3
  have Sq4 := (S_14.out).cell 4
  simp only [List.getElem?_toArray, List.getElem?_cons_succ, List.getElem?_cons_zero] at Sq0 Sq1 Sq2 Sq3 Sq4
  have Sf0 := (S_14.out).frozen 0
  have Sf1 := (S_14.out).frozen 1
  have Sf2 := (S_14.out).frozen 2
  have Sf3 := (S_14.out).frozen 3
  have Sf4 := (S_14.out).frozen 4
  go_upto_region 28 with fail
  clear Sq0 Sq1 Sq2 Sq3 Sq4 Sf0 Sf1 Sf2 Sf3 Sf4
  have hbb := set5_blk (x0 := .int .i64 0) (x1 := .int .i64 0) (x2 := .bool false) (x3 := .int .i64 0) (x4 := .int .u64 0) S_14.out
  have ee : Ex (fun k => k = sb) w13 (((((w13.setCell ⟨sb, 0, none⟩ (.int .i64 0)).setCell ⟨sb, 1, none⟩ (.int .i64 0)).setCell ⟨sb, 2, none⟩ (.bool false)).setCell ⟨sb, 3, none⟩ (.int .i64 0)).setCell ⟨sb, 4, none⟩ (.int .u64 0)) := ((((((Ex.refl (fun q => q = sb) w13).setCell (q := ⟨sb, 0, none⟩) (.inl rfl) (.int .i64 0)).setCell (q := ⟨sb, 1, none⟩) (.inl rfl) (.int .i64 0)).setCell (q := ⟨sb, 2, none⟩) (.inl rfl) (.bool false)).setCell (q := ⟨sb, 3, none⟩) (.inl rfl) (.int .i64 0)).setCell (q := ⟨sb, 4, none⟩) (.inl rfl) (.int .u64 0))
  have T_15 := Lib.hid (T_14.out.ex ee (by have o_ := ORD6.out; omega))
  have L_15 := Lib.hid (L_14.out.ex ee (fun b_ h_ => by have o_ := ORD6.out; have h_ : b_ = sb := h_; first | omega | (show _ ∨ _; omega)))
  have P_15 := Lib.hid (P_14.out.ex ee (by have o_ := ORD6.out; omega))
  have K_15 := Lib.hid (K_14.out.ex ee (by have o_ := ORD6.out; omega) (by have o_ := ORD6.out; omega))
  have Aa_15 := Lib.hid (Aa_14.out.ex ee (by have o_ := ORD6.out; omega) (by have o_ := ORD6.out; omega))
  have S_15 := Lib.hid (hbb)
  clear ee T_14 L_14 P_14 K_14 S_14 Aa_14 hbb
  generalize (((((w13.setCell ⟨sb, 0, none⟩ (.int .i64 0)).setCell ⟨sb, 1, none⟩ (.int .i64 0)).setCell ⟨sb, 2, none⟩ (.bool false)).setCell ⟨sb, 3, none⟩ (.int .i64 0)).setCell ⟨sb, 4, none⟩ (.int .u64 0)) = w14 at *
  have Sq0 := (S_15.out).cell 0
  have Sq1 := (S_15.out).cell 1
  have Sq2 := (S_15.out).cell 2
  have Sq3 := (S_15.out).cell 3
  have Sq4 := (S_15.out).cell 4
  simp only [List.getElem?_toArray, List.getElem?_cons_succ, List.getElem?_cons_zero] at Sq0 Sq1 Sq2 Sq3 Sq4
  go_wp2_with fail
  have IZ := Lib.hid (show AInv k m ⟨3, false, 0, St.zero, St.zero, 10, m, 0⟩ from by have := HIV.out; exact ⟨this.nn, by simp, fun h => by simp at h, fun h => by simp at h, fun _ => ⟨rfl, fun h => by simp at h⟩, fun h => by simp at h⟩)
  refine (At_not oa ba k a ⟨3, false, 0, St.zero, St.zero, 10, m, 0⟩ w14 Aa_15.out (show (3 : Int) ≠ 1 by decide)).mono ?_; rintro e w_ ⟨rfl, rfl⟩
  go_wp2_with fail
  refine (Steps_any oa ba k a ⟨3, false, 0, St.zero, St.zero, 10, m, 0⟩ w14 Aa_15.out).mono ?_; rintro e w_ ⟨rfl, rfl⟩
  go_wp2_with fail
  have hq := still_step (k := k) (at_ := a) (ws := [0, 0]) (t := 0) (x := ⟨3, false, 0, St.zero, St.zero, 10, m, 0⟩) (by simp)
  refine (Step_any g rr oa ba [0, 0] 0 k HOK.out m a ⟨3, false, 0, St.zero, St.zero, 10, m, 0⟩ IZ.out w14 Aa_15.out K_15.out T_15.out (by have o_ := ORD6.out; omega)).mono ?_; rintro e w15 ⟨rfl, hb, ha, hx⟩
  rw [hq.2.1, hq.2.2] at hb
  rw [hq.1] at ha ⊢
  clear Sq0 Sq1 Sq2 Sq3 Sq4
  have ee : Ex (fun k => k = g ∨ k = rr ∨ k = oa) w14 w15 := hx
  have T_16 := Lib.hid (T_15.out.ex ee (by have o_ := ORD6.out; omega))
  have L_16 := Lib.hid (L_15.out.ex ee (fun b_ h_ => by have o_ := ORD6.out; have h_ : b_ = g ∨ b_ = rr ∨ b_ = oa := h_; first | omega | (show _ ∨ _; omega)))
  have P_16 := Lib.hid (P_15.out.ex ee (by have o_ := ORD6.out; omega))
  have S_16 := Lib.hid (S_15.out.ex ee (by have o_ := ORD6.out; omega))
  have K_16 := Lib.hid (hb)
  have Aa_16 := Lib.hid (ha)
  clear ee T_15 L_15 P_15 K_15 S_15 Aa_15 hb ha hx hq
  go_wp2_with fail
  refine (Touches_any g rr [0, 0] 0 w15 K_16.out).mono ?_; rintro e w_ ⟨rfl, rfl⟩
  go_wp2_with fail
  refine (awake_any w15 T_16.out).mono ?_; rintro e w16 ⟨rfl, hb⟩
  have ee : Ex (fun _ => False) w15 w16 := Ex.of_below hb
  have T_17 := Lib.hid (T_16.out.ex ee (fun h => h))
  have L_17 := Lib.hid (L_16.out.ex ee (fun b_ h_ => h_.elim))
  have P_17 := Lib.hid (P_16.out.ex ee (fun h => h))
  have K_17 := Lib.hid (K_16.out.ex ee (fun h => h) (fun h => h))
  have S_17 := Lib.hid (S_16.out.ex ee (fun h => h))
  have Aa_17 := Lib.hid (Aa_16.out.ex ee (fun h => h) (fun h => h))
  clear ee T_16 L_16 P_16 K_16 S_16 Aa_16 hb
  go_wp2_with fail
  go_ret
  exact ⟨rfl, L_17.out.low.mono HBS.out⟩
set_option maxRecDepth 100000 in
set_option maxHeartbeats 1000000 in
theorem Nl_in_big (a kd so mo : Int) (fr : Bool) (fl n : Int) (w : World) (ht : Tab w) (hn : 1 ≤ n ∧ n ≤ 16) (hm : (⟨kd, so, mo, fr, fl⟩ : Pl).May n) (hp : (⟨kd, so, mo, fr, fl⟩ : Pl).Ok) (ha : 2 ≤ a) :
    Calls Tryd.prog 4 #[.int .i64 a, .agg #[.int .i64 kd, .int .i64 so, .int .i64 mo, .bool fr, .int .i64 fl], .int .i64 n] w fun e w' => e = .returned (.bool true) ∧ Below w.heap.size w w' := by
  have t1 : decide (n ≥ 1) = true := decide_eq_true hn.1
  have t2 : decide (n ≤ 16) = true := decide_eq_true hn.2
  have t3 : wrap64 (2 * n) = 2 * n := by unfold wrap64; omega
  have ham := fun W => AMost_any n W
  simp only [show amostF n = 2 * n from if_pos hn] at ham
  obtain ⟨m2, hm2⟩ : ∃ m2 : Int, 2 * n = m2 := ⟨_, rfl⟩
  simp only [hm2] at ham t3
  have t4 : (m2 != m2) = false := by simp
  have HAM := Lib.hid ham
  clear ham hn
  have hpl := fun W => plain_any (⟨kd, so, mo, fr, fl⟩ : Pl) n W
  have hmy := fun W => May_any (⟨kd, so, mo, fr, fl⟩ : Pl) n W
  simp only [decide_eq_true hm] at hmy
  obtain ⟨C, hC⟩ : ∃ C, RX.cells (⟨kd, so, mo, fr, fl⟩ : Pl) n RX.zero = C := ⟨_, rfl⟩
  have HCS := Lib.hid (show C.size = 18 from hC ▸ RX.cells_size _ _ _)
  have HCO := Lib.hid (show C.all (·.oneCell') = true from hC ▸ RX.cells_one _ _ _)
  simp only [hC] at hpl hmy
  unfold Pl.val at hpl
  simp only at hpl
  have HPL := Lib.hid hpl
  have HMY := Lib.hid hmy
  clear hpl hmy hC
  have hbg := fun W hz => begin_in a n (⟨kd, so, mo, fr, fl⟩ : Pl) W hz hm
  unfold Pl.val at hbg
  simp only at hbg
  have hok := Pl.kd_ok hp
  have hiv := Pl.inv hm
  obtain ⟨k, hk⟩ : ∃ k, (⟨kd, so, mo, fr, fl⟩ : Pl).kd = k := ⟨_, rfl⟩
  obtain ⟨m, hmm⟩ : ∃ m, (⟨kd, so, mo, fr, fl⟩ : Pl).n n = m := ⟨_, rfl⟩
  simp only [hk, hmm] at hbg hok hiv
  have HBG := Lib.hid hbg
  have HOK := Lib.hid hok
  have HIV := Lib.hid hiv
  clear hbg hok hiv hk hmm hm hp
  have a1 : decide (a ≥ 0) = true := decide_eq_true (by omega)
  have a2 : decide (a < 2) = false := decide_eq_false (by omega)
  have HIN := Lib.hid (show ¬ inW [0, 0] a from fun h => by have := h.2; simp at this; omega)
  clear ha
  have hq0 := (blk_new' w (g := w.heap.size) (by simp) 41 #[.int .i64 kd, .int .i64 so, .int .i64 mo, .bool fr, .int .i64 fl])
  have hlo := ((Below.refl w.heap.size w).alloc (by first | exact Nat.le_refl _ | (simp; done) | (simp; omega)) (.cells #[.int .i64 kd, .int .i64 so, .int .i64 mo, .bool fr, .int .i64 fl] 41))
  have hz0 : 0 < w.heap.size := lt_of_cell (ht 0 (by decide))
  have ht1 := ht.below hlo
  go_enter Tryd.func4, Tryd.ntmps4
  go_upto_region 1 with fail
  generalize (w.alloc (.cells #[.int .i64 kd, .int .i64 so, .int .i64 mo, .bool fr, .int .i64 fl] 41)) = w1 at *
  obtain ⟨pb, hfb⟩ : ∃ pb, w.heap.size = pb := ⟨_, rfl⟩
  have hlo9 : Lo w.heap.size w w1 := ⟨hlo, hlo.size⟩
  have HBS := Lib.hid (Nat.le_of_eq hfb)
  simp only [hfb] at hlo9 hz0 hq0 ⊢
  have ORD0 := Lib.hid (show 0 < pb from hz0)
  have T0 := Lib.hid ht1
  have L0 := Lib.hid hlo9
  have P0 := Lib.hid hq0
  clear ht ht1 hlo hlo9 hz0 hfb  hq0
  go_wp2_with fail
  refine (New_in 2 (by decide) (by decide) w1).mono ?_; rintro e w2 ⟨rfl, hb, hl, hsz⟩
  have hb : BankAt w2 (w1.heap.size + 1) w1.heap.size [0, 0] 0 := hb
  obtain ⟨rr, hrr⟩ : ∃ rr, w1.heap.size = rr := ⟨_, rfl⟩
  have hlt : pb < rr := hrr ▸ P0.out.lt
  simp only [hrr] at hb ⊢
  obtain ⟨g, hg⟩ : ∃ g, rr + 1 = g := ⟨_, rfl⟩
  simp only [hg] at hb ⊢
  have ORD1 := Lib.hid (show 0 < pb ∧ pb < rr ∧ rr + 1 = g from by have o_ := ORD0.out; omega)
  have ee : Ex (fun _ => False) w1 w2 := Ex.of_below hl
  have T_2 := Lib.hid (T0.out.ex ee (fun h => h))
  have L_2 := Lib.hid (L0.out.ex ee (fun b_ h_ => h_.elim))
  have P_2 := Lib.hid (P0.out.ex ee (fun h => h))
  have K_2 := Lib.hid (hb)
  clear ee T0 L0 P0 hb hl hsz hrr hlt hg ORD0
  go_wp2_with fail
  have hgn := Got_nil w2
  unfold St.val at hgn
  simp only [St.zero] at hgn
  have HGN := Lib.hid hgn
  clear hgn
  refine (HGN.out).mono ?_; rintro e w3 ⟨rfl, hb⟩
  clear HGN
  have ee : Ex (fun _ => False) w2 w3 := Ex.of_below hb
  have T_3 := Lib.hid (T_2.out.ex ee (fun h => h))
  have L_3 := Lib.hid (L_2.out.ex ee (fun b_ h_ => h_.elim))
  have P_3 := Lib.hid (P_2.out.ex ee (fun h => h))
  have K_3 := Lib.hid (K_2.out.ex ee (fun h => h) (fun h => h))
  clear ee T_2 L_2 P_2 K_2 hb
  go_upto_region 6 with fail
  obtain ⟨sb, hsb, hM⟩ : ∃ sb : Nat, w3.heap.size = sb ∧ g < sb ∧ rr < sb := ⟨w3.heap.size, rfl, K_3.out.head.lt, K_3.out.row.lt⟩
  have ORD4 := Lib.hid (show 0 < pb ∧ pb < rr ∧ rr + 1 = g ∧ g < sb ∧ rr < sb from by have o_ := ORD1.out; omega)
  have hnb := Blk.new w3 34 #[.int .i64 0, .int .i64 0, .bool false, .int .i64 0, .int .u64 0]
  rw [hsb] at hnb
  simp only [hsb]
  have ee : Ex (fun _ => False) w3 (w3.alloc (.cells #[.int .i64 0, .int .i64 0, .bool false, .int .i64 0, .int .u64 0] 34)) := (Ex.refl (fun _ => False) w3).alloc (.cells #[.int .i64 0, .int .i64 0, .bool false, .int .i64 0, .int .u64 0] 34)
  have T_5 := Lib.hid (T_3.out.ex ee (fun h => h))
  have L_5 := Lib.hid (L_3.out.ex ee (fun b_ h_ => h_.elim))
  have P_5 := Lib.hid (P_3.out.ex ee (fun h => h))
  have K_5 := Lib.hid (K_3.out.ex ee (fun h => h) (fun h => h))
  have S_5 := Lib.hid (hnb)
  clear ee T_3 L_3 P_3 K_3 hnb hM ORD1
  generalize w3.alloc (.cells #[.int .i64 0, .int .i64 0, .bool false, .int .i64 0, .int .u64 0] 34) = w4 at *
  clear hsb
  go_wp2_with fail
  refine (Step_nil _ w4).mono ?_; rintro e w_ ⟨rfl, rfl⟩
  have Sq0 := (S_5.out).cell 0
  have Sq1 := (S_5.out).cell 1
  have Sq2 := (S_5.out).cell 2
  have Sq3 := (S_5.out).cell 3
  have Sq4 := (S_5.out).cell 4
  simp only [List.getElem?_toArray, List.getElem?_cons_succ, List.getElem?_cons_zero] at Sq0 Sq1 Sq2 Sq3 Sq4
  go_wp2_with fail
  refine (At_nil w4).mono ?_; rintro e w_ ⟨rfl, rfl⟩
  go_wp2_with fail
  refine (Steps_nil w4).mono ?_; rintro e w_ ⟨rfl, rfl⟩
  go_wp2_with fail
  refine (HAM.out w4).mono ?_; rintro e w_ ⟨rfl, rfl⟩
  clear Sq0 Sq1 Sq2 Sq3 Sq4
  have Pq0 := (P_5.out).cell 0
  have Pq1 := (P_5.out).cell 1
  have Pq2 := (P_5.out).cell 2
  have Pq3 := (P_5.out).cell 3
  have Pq4 := (P_5.out).cell 4
  simp only [List.getElem?_toArray, List.getElem?_cons_succ, List.getElem?_cons_zero] at Pq0 Pq1 Pq2 Pq3 Pq4
  go_wp2_with fail
  clear Pq0 Pq1 Pq2 Pq3 Pq4
  refine (HBG.out w4 (Nat.lt_of_le_of_lt (Nat.zero_le _) K_5.out.head.lt)).mono ?_; rintro e w6a ⟨oa, ba, rfl, ha, hs1, hs2, hs3, hs4, hb⟩
  obtain ⟨Ma, hM⟩ : ∃ Ma : Nat, g < Ma ∧ rr < Ma ∧ sb < Ma ∧ Ma ≤ oa ∧ (Ma ≤ ba ∨ ba = 0) := ⟨w4.heap.size, K_5.out.head.lt, K_5.out.row.lt, S_5.out.lt, hs1, hs2⟩
  have ORD6 := Lib.hid (show 0 < pb ∧ pb < rr ∧ rr + 1 = g ∧ g < sb ∧ rr < sb ∧ g < Ma ∧ rr < Ma ∧ sb < Ma ∧ Ma ≤ oa ∧ (Ma ≤ ba ∨ ba = 0) from by have o_ := ORD4.out; omega)
  have Ia_6 := Lib.hid (show AInv k m (AX.zero m) from HIV.out)
  have ee : Ex (fun _ => False) w4 w6a := Ex.of_below hb
  have T_7 := Lib.hid (T_5.out.ex ee (fun h => h))
  have L_7 := Lib.hid (L_5.out.ex ee (fun b_ h_ => h_.elim))
  have P_7 := Lib.hid (P_5.out.ex ee (fun h => h))
  have K_7 := Lib.hid (K_5.out.ex ee (fun h => h) (fun h => h))
  have S_7 := Lib.hid (S_5.out.ex ee (fun h => h))
  have Aa_7 := Lib.hid (ha)
  clear ee T_5 L_5 P_5 K_5 S_5 hb hs1 hs2 hs3 hs4 hM ORD4
  have Pq0 := (P_7.out).cell 0
  have Pq1 := (P_7.out).cell 1
  have Pq2 := (P_7.out).cell 2
  have Pq3 := (P_7.out).cell 3
  have Pq4 := (P_7.out).cell 4
  simp only [List.getElem?_toArray, List.getElem?_cons_succ, List.getElem?_cons_zero] at Pq0 Pq1 Pq2 Pq3 Pq4
  go_wp2_with fail
  refine (HPL.out w6a).mono ?_; rintro e w6 ⟨rfl, hb⟩
  clear Pq0 Pq1 Pq2 Pq3 Pq4
  have ee : Ex (fun _ => False) w6a w6 := Ex.of_below hb
  have T_8 := Lib.hid (T_7.out.ex ee (fun h => h))
  have L_8 := Lib.hid (L_7.out.ex ee (fun b_ h_ => h_.elim))
  have P_8 := Lib.hid (P_7.out.ex ee (fun h => h))
  have K_8 := Lib.hid (K_7.out.ex ee (fun h => h) (fun h => h))
  have S_8 := Lib.hid (S_7.out.ex ee (fun h => h))
  have Aa_8 := Lib.hid (Aa_7.out.ex ee (fun h => h) (fun h => h))
  clear ee T_7 L_7 P_7 K_7 S_7 Aa_7 hb
  have hBn := Blk.new w6 46 #[.int .i64 0, .int .i64 0, .int .i64 0, .bool false, .int .i64 0, .int .i64 0, .int .i64 0, .int .i64 0, .int .u64 0, .int .i64 0, .int .i64 0, .int .i64 0, .bool false, .int .i64 0, .int .u64 0, .int .i64 0, .int .i64 0, .int .i64 0]
  have hBm := Blk.rowed w6 46 #[.int .i64 0, .int .i64 0, .int .i64 0, .bool false, .int .i64 0, .int .i64 0, .int .i64 0, .int .i64 0, .int .u64 0, .int .i64 0, .int .i64 0, .int .i64 0, .bool false, .int .i64 0, .int .u64 0, .int .i64 0, .int .i64 0, .int .i64 0] C
  have hci : (Tryd.prog.info? 46).map (·.size) = some C.size := by rw [HCS.out]; kernel_rfl
  go_wp2_with (first | refine wpList_store_row rfl 46 _ _ rfl w6.heap.size C rfl rfl 46 #[.int .i64 0, .int .i64 0, .int .i64 0, .bool false, .int .i64 0, .int .i64 0, .int .i64 0, .int .i64 0, .int .u64 0, .int .i64 0, .int .i64 0, .int .i64 0, .bool false, .int .i64 0, .int .u64 0, .int .i64 0, .int .i64 0, .int .i64 0] hBn hci HCS.out.symm HCO.out ?_ | refine wpList_load_row rfl 46 _ rfl w6.heap.size rfl 46 C (0, 0) _ hBm Tryd.underlying46 rfl hci ?_)
  have ee : Ex (fun _ => False) w6 ((w6.alloc (.cells #[.int .i64 0, .int .i64 0, .int .i64 0, .bool false, .int .i64 0, .int .i64 0, .int .i64 0, .int .i64 0, .int .u64 0, .int .i64 0, .int .i64 0, .int .i64 0, .bool false, .int .i64 0, .int .u64 0, .int .i64 0, .int .i64 0, .int .i64 0] 46)).setRow w6.heap.size C) := Ex.rowed
  have T_9 := Lib.hid (T_8.out.ex ee (fun h => h))
  have L_9 := Lib.hid (L_8.out.ex ee (fun b_ h_ => h_.elim))
  have P_9 := Lib.hid (P_8.out.ex ee (fun h => h))
  have K_9 := Lib.hid (K_8.out.ex ee (fun h => h) (fun h => h))
  have S_9 := Lib.hid (S_8.out.ex ee (fun h => h))
  have Aa_9 := Lib.hid (Aa_8.out.ex ee (fun h => h) (fun h => h))
  clear ee T_8 L_8 P_8 K_8 S_8 Aa_8 hBn hBm hci
  generalize ((w6.alloc (.cells #[.int .i64 0, .int .i64 0, .int .i64 0, .bool false, .int .i64 0, .int .i64 0, .int .i64 0, .int .i64 0, .int .u64 0, .int .i64 0, .int .i64 0, .int .i64 0, .bool false, .int .i64 0, .int .u64 0, .int .i64 0, .int .i64 0, .int .i64 0] 46)).setRow w6.heap.size C) = w7 at *
  refine (HMY.out w7).mono ?_; rintro e w8 ⟨rfl, hb⟩
  have ee : Ex (fun _ => False) w7 w8 := Ex.of_below hb
  have T_10 := Lib.hid (T_9.out.ex ee (fun h => h))
  have L_10 := Lib.hid (L_9.out.ex ee (fun b_ h_ => h_.elim))
  have P_10 := Lib.hid (P_9.out.ex ee (fun h => h))
  have K_10 := Lib.hid (K_9.out.ex ee (fun h => h) (fun h => h))
  have S_10 := Lib.hid (S_9.out.ex ee (fun h => h))
  have Aa_10 := Lib.hid (Aa_9.out.ex ee (fun h => h) (fun h => h))
  clear ee T_9 L_9 P_9 K_9 S_9 Aa_9 hb
  go_wp2_with fail
  have HG := Lib.hid (Got_any oa ba k a ⟨0, false, 0, St.zero, St.zero, 0, m, 0⟩ w8 Aa_10.out)
  unfold St.val at HG
  simp only [AX.zero, St.zero] at HG
  refine (HG.out).mono ?_; rintro e w10 ⟨rfl, hb⟩
  clear HG
  have ee : Ex (fun _ => False) w8 w10 := Ex.of_below hb
  have T_11 := Lib.hid (T_10.out.ex ee (fun h => h))
  have L_11 := Lib.hid (L_10.out.ex ee (fun b_ h_ => h_.elim))
  have P_11 := Lib.hid (P_10.out.ex ee (fun h => h))
  have K_11 := Lib.hid (K_10.out.ex ee (fun h => h) (fun h => h))
  have S_11 := Lib.hid (S_10.out.ex ee (fun h => h))
  have Aa_11 := Lib.hid (Aa_10.out.ex ee (fun h => h) (fun h => h))
  clear ee T_10 L_10 P_10 K_10 S_10 Aa_10 hb
  have Sq0 := (S_11.out).cell 0
  have Sq1 := (S_11.out).cell 1
  have Sq2 := (S_11.out).cell 2
  have Sq3 := (S_11.out).cell 3
  have Sq4 := (S_11.out).cell 4
  simp only [List.getElem?_toArray, List.getElem?_cons_succ, List.getElem?_cons_zero] at Sq0 Sq1 Sq2 Sq3 Sq4
  have Sf0 := (S_11.out).frozen 0
  have Sf1 := (S_11.out).frozen 1
  have Sf2 := (S_11.out).frozen 2
  have Sf3 := (S_11.out).frozen 3
  have Sf4 := (S_11.out).frozen 4
  go_upto_region 20 with fail
  clear Sq0 Sq1 Sq2 Sq3 Sq4 Sf0 Sf1 Sf2 Sf3 Sf4
  have hbb := set5_blk (x0 := .int .i64 0) (x1 := .int .i64 0) (x2 := .bool false) (x3 := .int .i64 0) (x4 := .int .u64 0) S_11.out
  have ee : Ex (fun k => k = sb) w10 (((((w10.setCell ⟨sb, 0, none⟩ (.int .i64 0)).setCell ⟨sb, 1, none⟩ (.int .i64 0)).setCell ⟨sb, 2, none⟩ (.bool false)).setCell ⟨sb, 3, none⟩ (.int .i64 0)).setCell ⟨sb, 4, none⟩ (.int .u64 0)) := ((((((Ex.refl (fun q => q = sb) w10).setCell (q := ⟨sb, 0, none⟩) (.inl rfl) (.int .i64 0)).setCell (q := ⟨sb, 1, none⟩) (.inl rfl) (.int .i64 0)).setCell (q := ⟨sb, 2, none⟩) (.inl rfl) (.bool false)).setCell (q := ⟨sb, 3, none⟩) (.inl rfl) (.int .i64 0)).setCell (q := ⟨sb, 4, none⟩) (.inl rfl) (.int .u64 0))
  have T_12 := Lib.hid (T_11.out.ex ee (by have o_ := ORD6.out; omega))
  have L_12 := Lib.hid (L_11.out.ex ee (fun b_ h_ => by have o_ := ORD6.out; have h_ : b_ = sb := h_; first | omega | (show _ ∨ _; omega)))
  have P_12 := Lib.hid (P_11.out.ex ee (by have o_ := ORD6.out; omega))
  have K_12 := Lib.hid (K_11.out.ex ee (by have o_ := ORD6.out; omega) (by have o_ := ORD6.out; omega))
  have Aa_12 := Lib.hid (Aa_11.out.ex ee (by have o_ := ORD6.out; omega) (by have o_ := ORD6.out; omega))
  have S_12 := Lib.hid (hbb)
  clear ee T_11 L_11 P_11 K_11 S_11 Aa_11 hbb
  generalize (((((w10.setCell ⟨sb, 0, none⟩ (.int .i64 0)).setCell ⟨sb, 1, none⟩ (.int .i64 0)).setCell ⟨sb, 2, none⟩ (.bool false)).setCell ⟨sb, 3, none⟩ (.int .i64 0)).setCell ⟨sb, 4, none⟩ (.int .u64 0)) = w11 at *
  have Sq0 := (S_12.out).cell 0
  have Sq1 := (S_12.out).cell 1
  have Sq2 := (S_12.out).cell 2
  have Sq3 := (S_12.out).cell 3
  have Sq4 := (S_12.out).cell 4
  simp only [List.getElem?_toArray, List.getElem?_cons_succ, List.getElem?_cons_zero] at Sq0 Sq1 Sq2 Sq3 Sq4
  go_wp2_with fail
  refine (At_not oa ba k a ⟨0, false, 0, St.zero, St.zero, 0, m, 0⟩ w11 Aa_12.out (show (0 : Int) ≠ 1 by decide)).mono ?_; rintro e w_ ⟨rfl, rfl⟩
  go_wp2_with fail
  refine (Steps_any oa ba k a ⟨0, false, 0, St.zero, St.zero, 0, m, 0⟩ w11 Aa_12.out).mono ?_; rintro e w_ ⟨rfl, rfl⟩
  go_wp2_with fail
  clear Sq0 Sq1 Sq2 Sq3 Sq4
  have hs1 : aStep k a [0, 0] ⟨0, false, 0, St.zero, St.zero, 0, m, 0⟩ = ⟨3, false, 0, St.zero, St.zero, 10, m, 0⟩ := by unfold aStep; simp only [ne_eq, not_true_eq_false, if_false, if_true, if_neg HIN.out]
  have hs2 : aWs a [0, 0] ⟨0, false, 0, St.zero, St.zero, 0, m, 0⟩ = [0, 0] := by unfold aWs; simp
  have hs3 : aT a [0, 0] ⟨0, false, 0, St.zero, St.zero, 0, m, 0⟩ 0 = 0 := by unfold aT; simp only [if_true]; exact tickF_out HIN.out
  refine (Step_any g rr oa ba [0, 0] 0 k HOK.out m a ⟨0, false, 0, St.zero, St.zero, 0, m, 0⟩ Ia_6.out w11 Aa_12.out K_12.out T_12.out (by have o_ := ORD6.out; omega)).mono ?_; rintro e w12 ⟨rfl, hb, ha, hx⟩
  rw [hs2, hs3] at hb
  rw [hs1] at ha ⊢
  have ee : Ex (fun k => k = g ∨ k = rr ∨ k = oa) w11 w12 := hx
  have T_13 := Lib.hid (T_12.out.ex ee (by have o_ := ORD6.out; omega))
  have L_13 := Lib.hid (L_12.out.ex ee (fun b_ h_ => by have o_ := ORD6.out; have h_ : b_ = g ∨ b_ = rr ∨ b_ = oa := h_; first | omega | (show _ ∨ _; omega)))
  have P_13 := Lib.hid (P_12.out.ex ee (by have o_ := ORD6.out; omega))
  have S_13 := Lib.hid (S_12.out.ex ee (by have o_ := ORD6.out; omega))
  have K_13 := Lib.hid (hb)
  have Aa_13 := Lib.hid (ha)
  clear ee T_12 L_12 P_12 K_12 S_12 Aa_12 hb ha hx hs1 hs2 hs3
  go_wp2_with fail
  have HG := Lib.hid (Got_any oa ba k a ⟨3, false, 0, St.zero, St.zero, 10, m, 0⟩ w12 Aa_13.out)
  unfold St.val at HG
  simp only [AX.zero, St.zero] at HG
  refine (HG.out).mono ?_; rintro e w13 ⟨rfl, hb⟩
  clear HG
  have ee : Ex (fun _ => False) w12 w13 := Ex.of_below hb
  have T_14 := Lib.hid (T_13.out.ex ee (fun h => h))
  have L_14 := Lib.hid (L_13.out.ex ee (fun b_ h_ => h_.elim))
  have P_14 := Lib.hid (P_13.out.ex ee (fun h => h))
  have K_14 := Lib.hid (K_13.out.ex ee (fun h => h) (fun h => h))
  have S_14 := Lib.hid (S_13.out.ex ee (fun h => h))
  have Aa_14 := Lib.hid (Aa_13.out.ex ee (fun h => h) (fun h => h))
  clear ee T_13 L_13 P_13 K_13 S_13 Aa_13 hb
  have Sq0 := (S_14.out).cell 0
  have Sq1 := (S_14.out).cell 1
  have Sq2 := (S_14.out).cell 2
  have Sq3 := (S_14.out).cell 3
  have Sq4 := (S_14.out).cell 4
  simp only [List.getElem?_toArray, List.getElem?_cons_succ, List.getElem?_cons_zero] at Sq0 Sq1 Sq2 Sq3 Sq4
  have Sf0 := (S_14.out).frozen 0
  have Sf1 := (S_14.out).frozen 1
  have Sf2 := (S_14.out).frozen 2
  have Sf3 := (S_14.out).frozen 3
  have Sf4 := (S_14.out).frozen 4
  go_upto_region 28 with fail
  clear Sq0 Sq1 Sq2 Sq3 Sq4 Sf0 Sf1 Sf2 Sf3 Sf4
  have hbb := set5_blk (x0 := .int .i64 0) (x1 := .int .i64 0) (x2 := .bool false) (x3 := .int .i64 0) (x4 := .int .u64 0) S_14.out
  have ee : Ex (fun k => k = sb) w13 (((((w13.setCell ⟨sb, 0, none⟩ (.int .i64 0)).setCell ⟨sb, 1, none⟩ (.int .i64 0)).setCell ⟨sb, 2, none⟩ (.bool false)).setCell ⟨sb, 3, none⟩ (.int .i64 0)).setCell ⟨sb, 4, none⟩ (.int .u64 0)) := ((((((Ex.refl (fun q => q = sb) w13).setCell (q := ⟨sb, 0, none⟩) (.inl rfl) (.int .i64 0)).setCell (q := ⟨sb, 1, none⟩) (.inl rfl) (.int .i64 0)).setCell (q := ⟨sb, 2, none⟩) (.inl rfl) (.bool false)).setCell (q := ⟨sb, 3, none⟩) (.inl rfl) (.int .i64 0)).setCell (q := ⟨sb, 4, none⟩) (.inl rfl) (.int .u64 0))
  have T_15 := Lib.hid (T_14.out.ex ee (by have o_ := ORD6.out; omega))
  have L_15 := Lib.hid (L_14.out.ex ee (fun b_ h_ => by have o_ := ORD6.out; have h_ : b_ = sb := h_; first | omega | (show _ ∨ _; omega)))
  have P_15 := Lib.hid (P_14.out.ex ee (by have o_ := ORD6.out; omega))
  have K_15 := Lib.hid (K_14.out.ex ee (by have o_ := ORD6.out; omega) (by have o_ := ORD6.out; omega))
  have Aa_15 := Lib.hid (Aa_14.out.ex ee (by have o_ := ORD6.out; omega) (by have o_ := ORD6.out; omega))
  have S_15 := Lib.hid (hbb)
  clear ee T_14 L_14 P_14 K_14 S_14 Aa_14 hbb
  generalize (((((w13.setCell ⟨sb, 0, none⟩ (.int .i64 0)).setCell ⟨sb, 1, none⟩ (.int .i64 0)).setCell ⟨sb, 2, none⟩ (.bool false)).setCell ⟨sb, 3, none⟩ (.int .i64 0)).setCell ⟨sb, 4, none⟩ (.int .u64 0)) = w14 at *
  have Sq0 := (S_15.out).cell 0
  have Sq1 := (S_15.out).cell 1
  have Sq2 := (S_15.out).cell 2
  have Sq3 := (S_15.out).cell 3
  have Sq4 := (S_15.out).cell 4
  simp only [List.getElem?_toArray, List.getElem?_cons_succ, List.getElem?_cons_zero] at Sq0 Sq1 Sq2 Sq3 Sq4
  go_wp2_with fail
  have IZ := Lib.hid (show AInv k m ⟨3, false, 0, St.zero, St.zero, 10, m, 0⟩ from by have := HIV.out; exact ⟨this.nn, by simp, fun h => by simp at h, fun h => by simp at h, fun _ => ⟨rfl, fun h => by simp at h⟩, fun h => by simp at h⟩)
  refine (At_not oa ba k a ⟨3, false, 0, St.zero, St.zero, 10, m, 0⟩ w14 Aa_15.out (show (3 : Int) ≠ 1 by decide)).mono ?_; rintro e w_ ⟨rfl, rfl⟩
  go_wp2_with fail
  refine (Steps_any oa ba k a ⟨3, false, 0, St.zero, St.zero, 10, m, 0⟩ w14 Aa_15.out).mono ?_; rintro e w_ ⟨rfl, rfl⟩
  go_wp2_with fail
  have hq := still_step (k := k) (at_ := a) (ws := [0, 0]) (t := 0) (x := ⟨3, false, 0, St.zero, St.zero, 10, m, 0⟩) (by simp)
  refine (Step_any g rr oa ba [0, 0] 0 k HOK.out m a ⟨3, false, 0, St.zero, St.zero, 10, m, 0⟩ IZ.out w14 Aa_15.out K_15.out T_15.out (by have o_ := ORD6.out; omega)).mono ?_; rintro e w15 ⟨rfl, hb, ha, hx⟩
  rw [hq.2.1, hq.2.2] at hb
  rw [hq.1] at ha ⊢
  clear Sq0 Sq1 Sq2 Sq3 Sq4
  have ee : Ex (fun k => k = g ∨ k = rr ∨ k = oa) w14 w15 := hx
  have T_16 := Lib.hid (T_15.out.ex ee (by have o_ := ORD6.out; omega))
  have L_16 := Lib.hid (L_15.out.ex ee (fun b_ h_ => by have o_ := ORD6.out; have h_ : b_ = g ∨ b_ = rr ∨ b_ = oa := h_; first | omega | (show _ ∨ _; omega)))
  have P_16 := Lib.hid (P_15.out.ex ee (by have o_ := ORD6.out; omega))
  have S_16 := Lib.hid (S_15.out.ex ee (by have o_ := ORD6.out; omega))
  have K_16 := Lib.hid (hb)
  have Aa_16 := Lib.hid (ha)
  clear ee T_15 L_15 P_15 K_15 S_15 Aa_15 hb ha hx hq
  go_wp2_with fail
  refine (Touches_any g rr [0, 0] 0 w15 K_16.out).mono ?_; rintro e w_ ⟨rfl, rfl⟩
  go_wp2_with fail
  refine (awake_any w15 T_16.out).mono ?_; rintro e w16 ⟨rfl, hb⟩
  have ee : Ex (fun _ => False) w15 w16 := Ex.of_below hb
  have T_17 := Lib.hid (T_16.out.ex ee (fun h => h))
  have L_17 := Lib.hid (L_16.out.ex ee (fun b_ h_ => h_.elim))
  have P_17 := Lib.hid (P_16.out.ex ee (fun h => h))
  have K_17 := Lib.hid (K_16.out.ex ee (fun h => h) (fun h => h))
  have S_17 := Lib.hid (S_16.out.ex ee (fun h => h))
  have Aa_17 := Lib.hid (Aa_16.out.ex ee (fun h => h) (fun h => h))
  clear ee T_16 L_16 P_16 K_16 S_16 Aa_16 hb
  go_wp2_with fail
  go_ret
  exact ⟨rfl, L_17.out.low.mono HBS.out⟩
set_option maxRecDepth 100000 in
set_option maxHeartbeats 1000000 in
theorem Nl_hi_bad (a kd so mo : Int) (fr : Bool) (fl n : Int) (w : World) (ht : Tab w) (hn : 16 < n) (hm : ¬ (⟨kd, so, mo, fr, fl⟩ : Pl).May n) :
    Calls Tryd.prog 4 #[.int .i64 a, .agg #[.int .i64 kd, .int .i64 so, .int .i64 mo, .bool fr, .int .i64 fl], .int .i64 n] w fun e w' => e = .returned (.bool true) ∧ Below w.heap.size w w' := by
  have t1 : decide (n ≥ 1) = true := decide_eq_true (by omega)
  have t2 : decide (n ≤ 16) = false := decide_eq_false (by omega)
  have ham := fun W => AMost_any n W
  simp only [show amostF n = 0 from if_neg (by omega)] at ham
  have HAM := Lib.hid ham
  clear ham hn
  have hpl := fun W => plain_any (⟨kd, so, mo, fr, fl⟩ : Pl) n W
  have hmy := fun W => May_any (⟨kd, so, mo, fr, fl⟩ : Pl) n W
  simp only [decide_eq_false hm] at hmy
  obtain ⟨C, hC⟩ : ∃ C, RX.cells (⟨kd, so, mo, fr, fl⟩ : Pl) n RX.zero = C := ⟨_, rfl⟩
  have HCS := Lib.hid (show C.size = 18 from hC ▸ RX.cells_size _ _ _)
  have HCO := Lib.hid (show C.all (·.oneCell') = true from hC ▸ RX.cells_one _ _ _)
  simp only [hC] at hpl hmy
  unfold Pl.val at hpl
  simp only at hpl
  have HPL := Lib.hid hpl
  have HMY := Lib.hid hmy
  clear hpl hmy hC
  have hbg := fun W => begin_bad a n (⟨kd, so, mo, fr, fl⟩ : Pl) W hm
  unfold Pl.val at hbg
  simp only at hbg
  have HBG := Lib.hid hbg
  clear hbg hm
  have hq0 := (blk_new' w (g := w.heap.size) (by simp) 41 #[.int .i64 kd, .int .i64 so, .int .i64 mo, .bool fr, .int .i64 fl])
  have hlo := ((Below.refl w.heap.size w).alloc (by first | exact Nat.le_refl _ | (simp; done) | (simp; omega)) (.cells #[.int .i64 kd, .int .i64 so, .int .i64 mo, .bool fr, .int .i64 fl] 41))
  have hz0 : 0 < w.heap.size := lt_of_cell (ht 0 (by decide))
  have ht1 := ht.below hlo
  go_enter Tryd.func4, Tryd.ntmps4
  go_upto_region 1 with fail
  generalize (w.alloc (.cells #[.int .i64 kd, .int .i64 so, .int .i64 mo, .bool fr, .int .i64 fl] 41)) = w1 at *
  obtain ⟨pb, hfb⟩ : ∃ pb, w.heap.size = pb := ⟨_, rfl⟩
  have hlo9 : Lo w.heap.size w w1 := ⟨hlo, hlo.size⟩
  have HBS := Lib.hid (Nat.le_of_eq hfb)
  simp only [hfb] at hlo9 hz0 hq0 ⊢
  have ORD0 := Lib.hid (show 0 < pb from hz0)
  have T0 := Lib.hid ht1
  have L0 := Lib.hid hlo9
  have P0 := Lib.hid hq0
  clear ht ht1 hlo hlo9 hz0 hfb  hq0
  go_wp2_with fail
  refine (New_in 2 (by decide) (by decide) w1).mono ?_; rintro e w2 ⟨rfl, hb, hl, hsz⟩
  have hb : BankAt w2 (w1.heap.size + 1) w1.heap.size [0, 0] 0 := hb
  obtain ⟨rr, hrr⟩ : ∃ rr, w1.heap.size = rr := ⟨_, rfl⟩
  have hlt : pb < rr := hrr ▸ P0.out.lt
  simp only [hrr] at hb ⊢
  obtain ⟨g, hg⟩ : ∃ g, rr + 1 = g := ⟨_, rfl⟩
  simp only [hg] at hb ⊢
  have ORD1 := Lib.hid (show 0 < pb ∧ pb < rr ∧ rr + 1 = g from by have o_ := ORD0.out; omega)
  have ee : Ex (fun _ => False) w1 w2 := Ex.of_below hl
  have T_2 := Lib.hid (T0.out.ex ee (fun h => h))
  have L_2 := Lib.hid (L0.out.ex ee (fun b_ h_ => h_.elim))
  have P_2 := Lib.hid (P0.out.ex ee (fun h => h))
  have K_2 := Lib.hid (hb)
  clear ee T0 L0 P0 hb hl hsz hrr hlt hg ORD0
  go_wp2_with fail
  have hgn := Got_nil w2
  unfold St.val at hgn
  simp only [St.zero] at hgn
  have HGN := Lib.hid hgn
  clear hgn
  refine (HGN.out).mono ?_; rintro e w3 ⟨rfl, hb⟩
  clear HGN
  have ee : Ex (fun _ => False) w2 w3 := Ex.of_below hb
  have T_3 := Lib.hid (T_2.out.ex ee (fun h => h))
  have L_3 := Lib.hid (L_2.out.ex ee (fun b_ h_ => h_.elim))
  have P_3 := Lib.hid (P_2.out.ex ee (fun h => h))
  have K_3 := Lib.hid (K_2.out.ex ee (fun h => h) (fun h => h))
  clear ee T_2 L_2 P_2 K_2 hb
  go_upto_region 6 with fail
  obtain ⟨sb, hsb, hM⟩ : ∃ sb : Nat, w3.heap.size = sb ∧ g < sb ∧ rr < sb := ⟨w3.heap.size, rfl, K_3.out.head.lt, K_3.out.row.lt⟩
  have ORD4 := Lib.hid (show 0 < pb ∧ pb < rr ∧ rr + 1 = g ∧ g < sb ∧ rr < sb from by have o_ := ORD1.out; omega)
  have hnb := Blk.new w3 34 #[.int .i64 0, .int .i64 0, .bool false, .int .i64 0, .int .u64 0]
  rw [hsb] at hnb
  simp only [hsb]
  have ee : Ex (fun _ => False) w3 (w3.alloc (.cells #[.int .i64 0, .int .i64 0, .bool false, .int .i64 0, .int .u64 0] 34)) := (Ex.refl (fun _ => False) w3).alloc (.cells #[.int .i64 0, .int .i64 0, .bool false, .int .i64 0, .int .u64 0] 34)
  have T_5 := Lib.hid (T_3.out.ex ee (fun h => h))
  have L_5 := Lib.hid (L_3.out.ex ee (fun b_ h_ => h_.elim))
  have P_5 := Lib.hid (P_3.out.ex ee (fun h => h))
  have K_5 := Lib.hid (K_3.out.ex ee (fun h => h) (fun h => h))
  have S_5 := Lib.hid (hnb)
  clear ee T_3 L_3 P_3 K_3 hnb hM ORD1
  generalize w3.alloc (.cells #[.int .i64 0, .int .i64 0, .bool false, .int .i64 0, .int .u64 0] 34) = w4 at *
  clear hsb
  go_wp2_with fail
  refine (Step_nil _ w4).mono ?_; rintro e w_ ⟨rfl, rfl⟩
  have Sq0 := (S_5.out).cell 0
  have Sq1 := (S_5.out).cell 1
  have Sq2 := (S_5.out).cell 2
  have Sq3 := (S_5.out).cell 3
  have Sq4 := (S_5.out).cell 4
  simp only [List.getElem?_toArray, List.getElem?_cons_succ, List.getElem?_cons_zero] at Sq0 Sq1 Sq2 Sq3 Sq4
  go_wp2_with fail
  refine (At_nil w4).mono ?_; rintro e w_ ⟨rfl, rfl⟩
  go_wp2_with fail
  refine (Steps_nil w4).mono ?_; rintro e w_ ⟨rfl, rfl⟩
  go_wp2_with fail
  refine (HAM.out w4).mono ?_; rintro e w_ ⟨rfl, rfl⟩
  clear Sq0 Sq1 Sq2 Sq3 Sq4
  have Pq0 := (P_5.out).cell 0
  have Pq1 := (P_5.out).cell 1
  have Pq2 := (P_5.out).cell 2
  have Pq3 := (P_5.out).cell 3
  have Pq4 := (P_5.out).cell 4
  simp only [List.getElem?_toArray, List.getElem?_cons_succ, List.getElem?_cons_zero] at Pq0 Pq1 Pq2 Pq3 Pq4
  go_wp2_with fail
  refine (HBG.out w4).mono ?_; rintro e w5 ⟨rfl, hb⟩
  clear Pq0 Pq1 Pq2 Pq3 Pq4
  have ee : Ex (fun _ => False) w4 w5 := Ex.of_below hb
  have T_6 := Lib.hid (T_5.out.ex ee (fun h => h))
  have L_6 := Lib.hid (L_5.out.ex ee (fun b_ h_ => h_.elim))
  have P_6 := Lib.hid (P_5.out.ex ee (fun h => h))
  have K_6 := Lib.hid (K_5.out.ex ee (fun h => h) (fun h => h))
  have S_6 := Lib.hid (S_5.out.ex ee (fun h => h))
  clear ee T_5 L_5 P_5 K_5 S_5 hb
  have Pq0 := (P_6.out).cell 0
  have Pq1 := (P_6.out).cell 1
  have Pq2 := (P_6.out).cell 2
  have Pq3 := (P_6.out).cell 3
  have Pq4 := (P_6.out).cell 4
  simp only [List.getElem?_toArray, List.getElem?_cons_succ, List.getElem?_cons_zero] at Pq0 Pq1 Pq2 Pq3 Pq4
  go_wp2_with fail
  refine (HPL.out w5).mono ?_; rintro e w6 ⟨rfl, hb⟩
  clear Pq0 Pq1 Pq2 Pq3 Pq4
  have ee : Ex (fun _ => False) w5 w6 := Ex.of_below hb
  have T_7 := Lib.hid (T_6.out.ex ee (fun h => h))
  have L_7 := Lib.hid (L_6.out.ex ee (fun b_ h_ => h_.elim))
  have P_7 := Lib.hid (P_6.out.ex ee (fun h => h))
  have K_7 := Lib.hid (K_6.out.ex ee (fun h => h) (fun h => h))
  have S_7 := Lib.hid (S_6.out.ex ee (fun h => h))
  clear ee T_6 L_6 P_6 K_6 S_6 hb
  have hBn := Blk.new w6 46 #[.int .i64 0, .int .i64 0, .int .i64 0, .bool false, .int .i64 0, .int .i64 0, .int .i64 0, .int .i64 0, .int .u64 0, .int .i64 0, .int .i64 0, .int .i64 0, .bool false, .int .i64 0, .int .u64 0, .int .i64 0, .int .i64 0, .int .i64 0]
  have hBm := Blk.rowed w6 46 #[.int .i64 0, .int .i64 0, .int .i64 0, .bool false, .int .i64 0, .int .i64 0, .int .i64 0, .int .i64 0, .int .u64 0, .int .i64 0, .int .i64 0, .int .i64 0, .bool false, .int .i64 0, .int .u64 0, .int .i64 0, .int .i64 0, .int .i64 0] C
  have hci : (Tryd.prog.info? 46).map (·.size) = some C.size := by rw [HCS.out]; kernel_rfl
  go_wp2_with (first | refine wpList_store_row rfl 46 _ _ rfl w6.heap.size C rfl rfl 46 #[.int .i64 0, .int .i64 0, .int .i64 0, .bool false, .int .i64 0, .int .i64 0, .int .i64 0, .int .i64 0, .int .u64 0, .int .i64 0, .int .i64 0, .int .i64 0, .bool false, .int .i64 0, .int .u64 0, .int .i64 0, .int .i64 0, .int .i64 0] hBn hci HCS.out.symm HCO.out ?_ | refine wpList_load_row rfl 46 _ rfl w6.heap.size rfl 46 C (0, 0) _ hBm Tryd.underlying46 rfl hci ?_)
  have ee : Ex (fun _ => False) w6 ((w6.alloc (.cells #[.int .i64 0, .int .i64 0, .int .i64 0, .bool false, .int .i64 0, .int .i64 0, .int .i64 0, .int .i64 0, .int .u64 0, .int .i64 0, .int .i64 0, .int .i64 0, .bool false, .int .i64 0, .int .u64 0, .int .i64 0, .int .i64 0, .int .i64 0] 46)).setRow w6.heap.size C) := Ex.rowed
  have T_8 := Lib.hid (T_7.out.ex ee (fun h => h))
  have L_8 := Lib.hid (L_7.out.ex ee (fun b_ h_ => h_.elim))
  have P_8 := Lib.hid (P_7.out.ex ee (fun h => h))
  have K_8 := Lib.hid (K_7.out.ex ee (fun h => h) (fun h => h))
  have S_8 := Lib.hid (S_7.out.ex ee (fun h => h))
  clear ee T_7 L_7 P_7 K_7 S_7 hBn hBm hci
  generalize ((w6.alloc (.cells #[.int .i64 0, .int .i64 0, .int .i64 0, .bool false, .int .i64 0, .int .i64 0, .int .i64 0, .int .i64 0, .int .u64 0, .int .i64 0, .int .i64 0, .int .i64 0, .bool false, .int .i64 0, .int .u64 0, .int .i64 0, .int .i64 0, .int .i64 0] 46)).setRow w6.heap.size C) = w7 at *
  refine (HMY.out w7).mono ?_; rintro e w8 ⟨rfl, hb⟩
  have ee : Ex (fun _ => False) w7 w8 := Ex.of_below hb
  have T_9 := Lib.hid (T_8.out.ex ee (fun h => h))
  have L_9 := Lib.hid (L_8.out.ex ee (fun b_ h_ => h_.elim))
  have P_9 := Lib.hid (P_8.out.ex ee (fun h => h))
  have K_9 := Lib.hid (K_8.out.ex ee (fun h => h) (fun h => h))
  have S_9 := Lib.hid (S_8.out.ex ee (fun h => h))
  clear ee T_8 L_8 P_8 K_8 S_8 hb
  go_wp2_with fail
  refine (awake_any w8 T_9.out).mono ?_; rintro e w9 ⟨rfl, hb⟩
  have ee : Ex (fun _ => False) w8 w9 := Ex.of_below hb
  have T_10 := Lib.hid (T_9.out.ex ee (fun h => h))
  have L_10 := Lib.hid (L_9.out.ex ee (fun b_ h_ => h_.elim))
  have P_10 := Lib.hid (P_9.out.ex ee (fun h => h))
  have K_10 := Lib.hid (K_9.out.ex ee (fun h => h) (fun h => h))
  have S_10 := Lib.hid (S_9.out.ex ee (fun h => h))
  clear ee T_9 L_9 P_9 K_9 S_9 hb
  go_wp2_with fail
  go_ret
  exact ⟨rfl, L_10.out.low.mono HBS.out⟩
set_option maxRecDepth 100000 in
set_option maxHeartbeats 1000000 in
theorem Nl_hi_in (a kd so mo : Int) (fr : Bool) (fl n : Int) (w : World) (ht : Tab w) (hn : 16 < n) (hm : (⟨kd, so, mo, fr, fl⟩ : Pl).May n) (hp : (⟨kd, so, mo, fr, fl⟩ : Pl).Ok) (ha : 0 ≤ a ∧ a < 2) :
    Calls Tryd.prog 4 #[.int .i64 a, .agg #[.int .i64 kd, .int .i64 so, .int .i64 mo, .bool fr, .int .i64 fl], .int .i64 n] w fun e w' => e = .returned (.bool true) ∧ Below w.heap.size w w' := by
  have t1 : decide (n ≥ 1) = true := decide_eq_true (by omega)
  have t2 : decide (n ≤ 16) = false := decide_eq_false (by omega)
  have ham := fun W => AMost_any n W
  simp only [show amostF n = 0 from if_neg (by omega)] at ham
  have HAM := Lib.hid ham
  clear ham hn
  have hpl := fun W => plain_any (⟨kd, so, mo, fr, fl⟩ : Pl) n W
  have hmy := fun W => May_any (⟨kd, so, mo, fr, fl⟩ : Pl) n W
  simp only [decide_eq_true hm] at hmy
  obtain ⟨C, hC⟩ : ∃ C, RX.cells (⟨kd, so, mo, fr, fl⟩ : Pl) n RX.zero = C := ⟨_, rfl⟩
  have HCS := Lib.hid (show C.size = 18 from hC ▸ RX.cells_size _ _ _)
  have HCO := Lib.hid (show C.all (·.oneCell') = true from hC ▸ RX.cells_one _ _ _)
  simp only [hC] at hpl hmy
  unfold Pl.val at hpl
  simp only at hpl
  have HPL := Lib.hid hpl
  have HMY := Lib.hid hmy
  clear hpl hmy hC
  have hbg := fun W hz => begin_in a n (⟨kd, so, mo, fr, fl⟩ : Pl) W hz hm
  unfold Pl.val at hbg
  simp only at hbg
  have hok := Pl.kd_ok hp
  have hiv := Pl.inv hm
  obtain ⟨k, hk⟩ : ∃ k, (⟨kd, so, mo, fr, fl⟩ : Pl).kd = k := ⟨_, rfl⟩
  obtain ⟨m, hmm⟩ : ∃ m, (⟨kd, so, mo, fr, fl⟩ : Pl).n n = m := ⟨_, rfl⟩
  simp only [hk, hmm] at hbg hok hiv
  have HBG := Lib.hid hbg
  have HOK := Lib.hid hok
  have HIV := Lib.hid hiv
  clear hbg hok hiv hk hmm hm hp
  have a1 : decide (a ≥ 0) = true := decide_eq_true ha.1
  have a2 : decide (a < 2) = true := decide_eq_true ha.2
  clear ha
  have hq0 := (blk_new' w (g := w.heap.size) (by simp) 41 #[.int .i64 kd, .int .i64 so, .int .i64 mo, .bool fr, .int .i64 fl])
  have hlo := ((Below.refl w.heap.size w).alloc (by first | exact Nat.le_refl _ | (simp; done) | (simp; omega)) (.cells #[.int .i64 kd, .int .i64 so, .int .i64 mo, .bool fr, .int .i64 fl] 41))
  have hz0 : 0 < w.heap.size := lt_of_cell (ht 0 (by decide))
  have ht1 := ht.below hlo
  go_enter Tryd.func4, Tryd.ntmps4
  go_upto_region 1 with fail
  generalize (w.alloc (.cells #[.int .i64 kd, .int .i64 so, .int .i64 mo, .bool fr, .int .i64 fl] 41)) = w1 at *
  obtain ⟨pb, hfb⟩ : ∃ pb, w.heap.size = pb := ⟨_, rfl⟩
  have hlo9 : Lo w.heap.size w w1 := ⟨hlo, hlo.size⟩
  have HBS := Lib.hid (Nat.le_of_eq hfb)
  simp only [hfb] at hlo9 hz0 hq0 ⊢
  have ORD0 := Lib.hid (show 0 < pb from hz0)
  have T0 := Lib.hid ht1
  have L0 := Lib.hid hlo9
  have P0 := Lib.hid hq0
  clear ht ht1 hlo hlo9 hz0 hfb  hq0
  go_wp2_with fail
  refine (New_in 2 (by decide) (by decide) w1).mono ?_; rintro e w2 ⟨rfl, hb, hl, hsz⟩
  have hb : BankAt w2 (w1.heap.size + 1) w1.heap.size [0, 0] 0 := hb
  obtain ⟨rr, hrr⟩ : ∃ rr, w1.heap.size = rr := ⟨_, rfl⟩
  have hlt : pb < rr := hrr ▸ P0.out.lt
  simp only [hrr] at hb ⊢
  obtain ⟨g, hg⟩ : ∃ g, rr + 1 = g := ⟨_, rfl⟩
  simp only [hg] at hb ⊢
  have ORD1 := Lib.hid (show 0 < pb ∧ pb < rr ∧ rr + 1 = g from by have o_ := ORD0.out; omega)
  have ee : Ex (fun _ => False) w1 w2 := Ex.of_below hl
  have T_2 := Lib.hid (T0.out.ex ee (fun h => h))
  have L_2 := Lib.hid (L0.out.ex ee (fun b_ h_ => h_.elim))
  have P_2 := Lib.hid (P0.out.ex ee (fun h => h))
  have K_2 := Lib.hid (hb)
  clear ee T0 L0 P0 hb hl hsz hrr hlt hg ORD0
  go_wp2_with fail
  have hgn := Got_nil w2
  unfold St.val at hgn
  simp only [St.zero] at hgn
  have HGN := Lib.hid hgn
  clear hgn
  refine (HGN.out).mono ?_; rintro e w3 ⟨rfl, hb⟩
  clear HGN
  have ee : Ex (fun _ => False) w2 w3 := Ex.of_below hb
  have T_3 := Lib.hid (T_2.out.ex ee (fun h => h))
  have L_3 := Lib.hid (L_2.out.ex ee (fun b_ h_ => h_.elim))
  have P_3 := Lib.hid (P_2.out.ex ee (fun h => h))
  have K_3 := Lib.hid (K_2.out.ex ee (fun h => h) (fun h => h))
  clear ee T_2 L_2 P_2 K_2 hb
  go_upto_region 6 with fail
  obtain ⟨sb, hsb, hM⟩ : ∃ sb : Nat, w3.heap.size = sb ∧ g < sb ∧ rr < sb := ⟨w3.heap.size, rfl, K_3.out.head.lt, K_3.out.row.lt⟩
  have ORD4 := Lib.hid (show 0 < pb ∧ pb < rr ∧ rr + 1 = g ∧ g < sb ∧ rr < sb from by have o_ := ORD1.out; omega)
  have hnb := Blk.new w3 34 #[.int .i64 0, .int .i64 0, .bool false, .int .i64 0, .int .u64 0]
  rw [hsb] at hnb
  simp only [hsb]
  have ee : Ex (fun _ => False) w3 (w3.alloc (.cells #[.int .i64 0, .int .i64 0, .bool false, .int .i64 0, .int .u64 0] 34)) := (Ex.refl (fun _ => False) w3).alloc (.cells #[.int .i64 0, .int .i64 0, .bool false, .int .i64 0, .int .u64 0] 34)
  have T_5 := Lib.hid (T_3.out.ex ee (fun h => h))
  have L_5 := Lib.hid (L_3.out.ex ee (fun b_ h_ => h_.elim))
  have P_5 := Lib.hid (P_3.out.ex ee (fun h => h))
  have K_5 := Lib.hid (K_3.out.ex ee (fun h => h) (fun h => h))
  have S_5 := Lib.hid (hnb)
  clear ee T_3 L_3 P_3 K_3 hnb hM ORD1
  generalize w3.alloc (.cells #[.int .i64 0, .int .i64 0, .bool false, .int .i64 0, .int .u64 0] 34) = w4 at *
  clear hsb
  go_wp2_with fail
  refine (Step_nil _ w4).mono ?_; rintro e w_ ⟨rfl, rfl⟩
  have Sq0 := (S_5.out).cell 0
  have Sq1 := (S_5.out).cell 1
  have Sq2 := (S_5.out).cell 2
  have Sq3 := (S_5.out).cell 3
  have Sq4 := (S_5.out).cell 4
  simp only [List.getElem?_toArray, List.getElem?_cons_succ, List.getElem?_cons_zero] at Sq0 Sq1 Sq2 Sq3 Sq4
  go_wp2_with fail
  refine (At_nil w4).mono ?_; rintro e w_ ⟨rfl, rfl⟩
  go_wp2_with fail
  refine (Steps_nil w4).mono ?_; rintro e w_ ⟨rfl, rfl⟩
  go_wp2_with fail
  refine (HAM.out w4).mono ?_; rintro e w_ ⟨rfl, rfl⟩
  clear Sq0 Sq1 Sq2 Sq3 Sq4
  have Pq0 := (P_5.out).cell 0
  have Pq1 := (P_5.out).cell 1
  have Pq2 := (P_5.out).cell 2
  have Pq3 := (P_5.out).cell 3
  have Pq4 := (P_5.out).cell 4
  simp only [List.getElem?_toArray, List.getElem?_cons_succ, List.getElem?_cons_zero] at Pq0 Pq1 Pq2 Pq3 Pq4
  go_wp2_with fail
  clear Pq0 Pq1 Pq2 Pq3 Pq4
  refine (HBG.out w4 (Nat.lt_of_le_of_lt (Nat.zero_le _) K_5.out.head.lt)).mono ?_; rintro e w6a ⟨oa, ba, rfl, ha, hs1, hs2, hs3, hs4, hb⟩
  obtain ⟨Ma, hM⟩ : ∃ Ma : Nat, g < Ma ∧ rr < Ma ∧ sb < Ma ∧ Ma ≤ oa ∧ (Ma ≤ ba ∨ ba = 0) := ⟨w4.heap.size, K_5.out.head.lt, K_5.out.row.lt, S_5.out.lt, hs1, hs2⟩
  have ORD6 := Lib.hid (show 0 < pb ∧ pb < rr ∧ rr + 1 = g ∧ g < sb ∧ rr < sb ∧ g < Ma ∧ rr < Ma ∧ sb < Ma ∧ Ma ≤ oa ∧ (Ma ≤ ba ∨ ba = 0) from by have o_ := ORD4.out; omega)
  have Ia_6 := Lib.hid (show AInv k m (AX.zero m) from HIV.out)
  have ee : Ex (fun _ => False) w4 w6a := Ex.of_below hb
  have T_7 := Lib.hid (T_5.out.ex ee (fun h => h))
  have L_7 := Lib.hid (L_5.out.ex ee (fun b_ h_ => h_.elim))
  have P_7 := Lib.hid (P_5.out.ex ee (fun h => h))
  have K_7 := Lib.hid (K_5.out.ex ee (fun h => h) (fun h => h))
  have S_7 := Lib.hid (S_5.out.ex ee (fun h => h))
  have Aa_7 := Lib.hid (ha)
  clear ee T_5 L_5 P_5 K_5 S_5 hb hs1 hs2 hs3 hs4 hM ORD4
  have Pq0 := (P_7.out).cell 0
  have Pq1 := (P_7.out).cell 1
  have Pq2 := (P_7.out).cell 2
  have Pq3 := (P_7.out).cell 3
  have Pq4 := (P_7.out).cell 4
  simp only [List.getElem?_toArray, List.getElem?_cons_succ, List.getElem?_cons_zero] at Pq0 Pq1 Pq2 Pq3 Pq4
  go_wp2_with fail
  refine (HPL.out w6a).mono ?_; rintro e w6 ⟨rfl, hb⟩
  clear Pq0 Pq1 Pq2 Pq3 Pq4
  have ee : Ex (fun _ => False) w6a w6 := Ex.of_below hb
  have T_8 := Lib.hid (T_7.out.ex ee (fun h => h))
  have L_8 := Lib.hid (L_7.out.ex ee (fun b_ h_ => h_.elim))
  have P_8 := Lib.hid (P_7.out.ex ee (fun h => h))
  have K_8 := Lib.hid (K_7.out.ex ee (fun h => h) (fun h => h))
  have S_8 := Lib.hid (S_7.out.ex ee (fun h => h))
  have Aa_8 := Lib.hid (Aa_7.out.ex ee (fun h => h) (fun h => h))
  clear ee T_7 L_7 P_7 K_7 S_7 Aa_7 hb
  have hBn := Blk.new w6 46 #[.int .i64 0, .int .i64 0, .int .i64 0, .bool false, .int .i64 0, .int .i64 0, .int .i64 0, .int .i64 0, .int .u64 0, .int .i64 0, .int .i64 0, .int .i64 0, .bool false, .int .i64 0, .int .u64 0, .int .i64 0, .int .i64 0, .int .i64 0]
  have hBm := Blk.rowed w6 46 #[.int .i64 0, .int .i64 0, .int .i64 0, .bool false, .int .i64 0, .int .i64 0, .int .i64 0, .int .i64 0, .int .u64 0, .int .i64 0, .int .i64 0, .int .i64 0, .bool false, .int .i64 0, .int .u64 0, .int .i64 0, .int .i64 0, .int .i64 0] C
  have hci : (Tryd.prog.info? 46).map (·.size) = some C.size := by rw [HCS.out]; kernel_rfl
  go_wp2_with (first | refine wpList_store_row rfl 46 _ _ rfl w6.heap.size C rfl rfl 46 #[.int .i64 0, .int .i64 0, .int .i64 0, .bool false, .int .i64 0, .int .i64 0, .int .i64 0, .int .i64 0, .int .u64 0, .int .i64 0, .int .i64 0, .int .i64 0, .bool false, .int .i64 0, .int .u64 0, .int .i64 0, .int .i64 0, .int .i64 0] hBn hci HCS.out.symm HCO.out ?_ | refine wpList_load_row rfl 46 _ rfl w6.heap.size rfl 46 C (0, 0) _ hBm Tryd.underlying46 rfl hci ?_)
  have ee : Ex (fun _ => False) w6 ((w6.alloc (.cells #[.int .i64 0, .int .i64 0, .int .i64 0, .bool false, .int .i64 0, .int .i64 0, .int .i64 0, .int .i64 0, .int .u64 0, .int .i64 0, .int .i64 0, .int .i64 0, .bool false, .int .i64 0, .int .u64 0, .int .i64 0, .int .i64 0, .int .i64 0] 46)).setRow w6.heap.size C) := Ex.rowed
  have T_9 := Lib.hid (T_8.out.ex ee (fun h => h))
  have L_9 := Lib.hid (L_8.out.ex ee (fun b_ h_ => h_.elim))
  have P_9 := Lib.hid (P_8.out.ex ee (fun h => h))
  have K_9 := Lib.hid (K_8.out.ex ee (fun h => h) (fun h => h))
  have S_9 := Lib.hid (S_8.out.ex ee (fun h => h))
  have Aa_9 := Lib.hid (Aa_8.out.ex ee (fun h => h) (fun h => h))
  clear ee T_8 L_8 P_8 K_8 S_8 Aa_8 hBn hBm hci
  generalize ((w6.alloc (.cells #[.int .i64 0, .int .i64 0, .int .i64 0, .bool false, .int .i64 0, .int .i64 0, .int .i64 0, .int .i64 0, .int .u64 0, .int .i64 0, .int .i64 0, .int .i64 0, .bool false, .int .i64 0, .int .u64 0, .int .i64 0, .int .i64 0, .int .i64 0] 46)).setRow w6.heap.size C) = w7 at *
  refine (HMY.out w7).mono ?_; rintro e w8 ⟨rfl, hb⟩
  have ee : Ex (fun _ => False) w7 w8 := Ex.of_below hb
  have T_10 := Lib.hid (T_9.out.ex ee (fun h => h))
  have L_10 := Lib.hid (L_9.out.ex ee (fun b_ h_ => h_.elim))
  have P_10 := Lib.hid (P_9.out.ex ee (fun h => h))
  have K_10 := Lib.hid (K_9.out.ex ee (fun h => h) (fun h => h))
  have S_10 := Lib.hid (S_9.out.ex ee (fun h => h))
  have Aa_10 := Lib.hid (Aa_9.out.ex ee (fun h => h) (fun h => h))
  clear ee T_9 L_9 P_9 K_9 S_9 Aa_9 hb
  go_wp2_with fail
  have HG := Lib.hid (Got_any oa ba k a ⟨0, false, 0, St.zero, St.zero, 0, m, 0⟩ w8 Aa_10.out)
  unfold St.val at HG
  simp only [AX.zero, St.zero] at HG
  refine (HG.out).mono ?_; rintro e w10 ⟨rfl, hb⟩
  clear HG
  have ee : Ex (fun _ => False) w8 w10 := Ex.of_below hb
  have T_11 := Lib.hid (T_10.out.ex ee (fun h => h))
  have L_11 := Lib.hid (L_10.out.ex ee (fun b_ h_ => h_.elim))
  have P_11 := Lib.hid (P_10.out.ex ee (fun h => h))
  have K_11 := Lib.hid (K_10.out.ex ee (fun h => h) (fun h => h))
  have S_11 := Lib.hid (S_10.out.ex ee (fun h => h))
  have Aa_11 := Lib.hid (Aa_10.out.ex ee (fun h => h) (fun h => h))
  clear ee T_10 L_10 P_10 K_10 S_10 Aa_10 hb
  have Sq0 := (S_11.out).cell 0
  have Sq1 := (S_11.out).cell 1
  have Sq2 := (S_11.out).cell 2
  have Sq3 := (S_11.out).cell 3
  have Sq4 := (S_11.out).cell 4
  simp only [List.getElem?_toArray, List.getElem?_cons_succ, List.getElem?_cons_zero] at Sq0 Sq1 Sq2 Sq3 Sq4
  have Sf0 := (S_11.out).frozen 0
  have Sf1 := (S_11.out).frozen 1
  have Sf2 := (S_11.out).frozen 2
  have Sf3 := (S_11.out).frozen 3
  have Sf4 := (S_11.out).frozen 4
  go_upto_region 20 with fail
  clear Sq0 Sq1 Sq2 Sq3 Sq4 Sf0 Sf1 Sf2 Sf3 Sf4
  have hbb := set5_blk (x0 := .int .i64 0) (x1 := .int .i64 0) (x2 := .bool false) (x3 := .int .i64 0) (x4 := .int .u64 0) S_11.out
  have ee : Ex (fun k => k = sb) w10 (((((w10.setCell ⟨sb, 0, none⟩ (.int .i64 0)).setCell ⟨sb, 1, none⟩ (.int .i64 0)).setCell ⟨sb, 2, none⟩ (.bool false)).setCell ⟨sb, 3, none⟩ (.int .i64 0)).setCell ⟨sb, 4, none⟩ (.int .u64 0)) := ((((((Ex.refl (fun q => q = sb) w10).setCell (q := ⟨sb, 0, none⟩) (.inl rfl) (.int .i64 0)).setCell (q := ⟨sb, 1, none⟩) (.inl rfl) (.int .i64 0)).setCell (q := ⟨sb, 2, none⟩) (.inl rfl) (.bool false)).setCell (q := ⟨sb, 3, none⟩) (.inl rfl) (.int .i64 0)).setCell (q := ⟨sb, 4, none⟩) (.inl rfl) (.int .u64 0))
  have T_12 := Lib.hid (T_11.out.ex ee (by have o_ := ORD6.out; omega))
  have L_12 := Lib.hid (L_11.out.ex ee (fun b_ h_ => by have o_ := ORD6.out; have h_ : b_ = sb := h_; first | omega | (show _ ∨ _; omega)))
  have P_12 := Lib.hid (P_11.out.ex ee (by have o_ := ORD6.out; omega))
  have K_12 := Lib.hid (K_11.out.ex ee (by have o_ := ORD6.out; omega) (by have o_ := ORD6.out; omega))
  have Aa_12 := Lib.hid (Aa_11.out.ex ee (by have o_ := ORD6.out; omega) (by have o_ := ORD6.out; omega))
  have S_12 := Lib.hid (hbb)
  clear ee T_11 L_11 P_11 K_11 S_11 Aa_11 hbb
  generalize (((((w10.setCell ⟨sb, 0, none⟩ (.int .i64 0)).setCell ⟨sb, 1, none⟩ (.int .i64 0)).setCell ⟨sb, 2, none⟩ (.bool false)).setCell ⟨sb, 3, none⟩ (.int .i64 0)).setCell ⟨sb, 4, none⟩ (.int .u64 0)) = w11 at *
  have Sq0 := (S_12.out).cell 0
  have Sq1 := (S_12.out).cell 1
  have Sq2 := (S_12.out).cell 2
  have Sq3 := (S_12.out).cell 3
  have Sq4 := (S_12.out).cell 4
  simp only [List.getElem?_toArray, List.getElem?_cons_succ, List.getElem?_cons_zero] at Sq0 Sq1 Sq2 Sq3 Sq4
  go_wp2_with fail
  refine (At_not oa ba k a ⟨0, false, 0, St.zero, St.zero, 0, m, 0⟩ w11 Aa_12.out (show (0 : Int) ≠ 1 by decide)).mono ?_; rintro e w_ ⟨rfl, rfl⟩
  go_wp2_with fail
  refine (Steps_any oa ba k a ⟨0, false, 0, St.zero, St.zero, 0, m, 0⟩ w11 Aa_12.out).mono ?_; rintro e w_ ⟨rfl, rfl⟩
  go_wp2_with fail
  clear Sq0 Sq1 Sq2 Sq3 Sq4
  refine (Step_nilbank oa ba k a 0 St.zero St.zero 0 m 0 w11 Aa_12.out).mono ?_; rintro e w12 ⟨rfl, ha, hx⟩
  have ee : Ex (fun k => k = oa) w11 w12 := hx
  have T_13 := Lib.hid (T_12.out.ex ee (by have o_ := ORD6.out; omega))
  have L_13 := Lib.hid (L_12.out.ex ee (fun b_ h_ => by have o_ := ORD6.out; have h_ : b_ = oa := h_; first | omega | (show _ ∨ _; omega)))
  have P_13 := Lib.hid (P_12.out.ex ee (by have o_ := ORD6.out; omega))
  have K_13 := Lib.hid (K_12.out.ex ee (by have o_ := ORD6.out; omega) (by have o_ := ORD6.out; omega))
  have S_13 := Lib.hid (S_12.out.ex ee (by have o_ := ORD6.out; omega))
  have Aa_13 := Lib.hid (ha)
  clear ee T_12 L_12 P_12 K_12 S_12 Aa_12 ha hx
  go_wp2_with fail
  have HG := Lib.hid (Got_any oa ba k a ⟨3, false, 0, St.zero, St.zero, 2, m, 0⟩ w12 Aa_13.out)
  unfold St.val at HG
  simp only [AX.zero, St.zero] at HG
  refine (HG.out).mono ?_; rintro e w13 ⟨rfl, hb⟩
  clear HG
  have ee : Ex (fun _ => False) w12 w13 := Ex.of_below hb
  have T_14 := Lib.hid (T_13.out.ex ee (fun h => h))
  have L_14 := Lib.hid (L_13.out.ex ee (fun b_ h_ => h_.elim))
  have P_14 := Lib.hid (P_13.out.ex ee (fun h => h))
  have K_14 := Lib.hid (K_13.out.ex ee (fun h => h) (fun h => h))
  have S_14 := Lib.hid (S_13.out.ex ee (fun h => h))
  have Aa_14 := Lib.hid (Aa_13.out.ex ee (fun h => h) (fun h => h))
  clear ee T_13 L_13 P_13 K_13 S_13 Aa_13 hb
  have Sq0 := (S_14.out).cell 0
  have Sq1 := (S_14.out).cell 1
  have Sq2 := (S_14.out).cell 2
  have Sq3 := (S_14.out).cell 3
  have Sq4 := (S_14.out).cell 4
  simp only [List.getElem?_toArray, List.getElem?_cons_succ, List.getElem?_cons_zero] at Sq0 Sq1 Sq2 Sq3 Sq4
  have Sf0 := (S_14.out).frozen 0
  have Sf1 := (S_14.out).frozen 1
  have Sf2 := (S_14.out).frozen 2
  have Sf3 := (S_14.out).frozen 3
  have Sf4 := (S_14.out).frozen 4
  go_upto_region 25 with fail
  clear Sq0 Sq1 Sq2 Sq3 Sq4 Sf0 Sf1 Sf2 Sf3 Sf4
  have hbb := set5_blk (x0 := .int .i64 0) (x1 := .int .i64 0) (x2 := .bool false) (x3 := .int .i64 0) (x4 := .int .u64 0) S_14.out
  have ee : Ex (fun k => k = sb) w13 (((((w13.setCell ⟨sb, 0, none⟩ (.int .i64 0)).setCell ⟨sb, 1, none⟩ (.int .i64 0)).setCell ⟨sb, 2, none⟩ (.bool false)).setCell ⟨sb, 3, none⟩ (.int .i64 0)).setCell ⟨sb, 4, none⟩ (.int .u64 0)) := ((((((Ex.refl (fun q => q = sb) w13).setCell (q := ⟨sb, 0, none⟩) (.inl rfl) (.int .i64 0)).setCell (q := ⟨sb, 1, none⟩) (.inl rfl) (.int .i64 0)).setCell (q := ⟨sb, 2, none⟩) (.inl rfl) (.bool false)).setCell (q := ⟨sb, 3, none⟩) (.inl rfl) (.int .i64 0)).setCell (q := ⟨sb, 4, none⟩) (.inl rfl) (.int .u64 0))
  have T_15 := Lib.hid (T_14.out.ex ee (by have o_ := ORD6.out; omega))
  have L_15 := Lib.hid (L_14.out.ex ee (fun b_ h_ => by have o_ := ORD6.out; have h_ : b_ = sb := h_; first | omega | (show _ ∨ _; omega)))
  have P_15 := Lib.hid (P_14.out.ex ee (by have o_ := ORD6.out; omega))
  have K_15 := Lib.hid (K_14.out.ex ee (by have o_ := ORD6.out; omega) (by have o_ := ORD6.out; omega))
  have Aa_15 := Lib.hid (Aa_14.out.ex ee (by have o_ := ORD6.out; omega) (by have o_ := ORD6.out; omega))
  have S_15 := Lib.hid (hbb)
  clear ee T_14 L_14 P_14 K_14 S_14 Aa_14 hbb
  generalize (((((w13.setCell ⟨sb, 0, none⟩ (.int .i64 0)).setCell ⟨sb, 1, none⟩ (.int .i64 0)).setCell ⟨sb, 2, none⟩ (.bool false)).setCell ⟨sb, 3, none⟩ (.int .i64 0)).setCell ⟨sb, 4, none⟩ (.int .u64 0)) = w14 at *
  have Sq0 := (S_15.out).cell 0
  have Sq1 := (S_15.out).cell 1
  have Sq2 := (S_15.out).cell 2
  have Sq3 := (S_15.out).cell 3
  have Sq4 := (S_15.out).cell 4
  simp only [List.getElem?_toArray, List.getElem?_cons_succ, List.getElem?_cons_zero] at Sq0 Sq1 Sq2 Sq3 Sq4
  go_wp2_with fail
  have IZ := Lib.hid (show AInv k m ⟨3, false, 0, St.zero, St.zero, 2, m, 0⟩ from by have := HIV.out; exact ⟨this.nn, by simp, fun h => by simp at h, fun h => by simp at h, fun _ => ⟨rfl, fun h => by simp at h⟩, fun h => by simp at h⟩)
  have hq := still_step (k := k) (at_ := a) (ws := [0, 0]) (t := 0) (x := ⟨3, false, 0, St.zero, St.zero, 2, m, 0⟩) (by simp)
  refine (Step_any g rr oa ba [0, 0] 0 k HOK.out m a ⟨3, false, 0, St.zero, St.zero, 2, m, 0⟩ IZ.out w14 Aa_15.out K_15.out T_15.out (by have o_ := ORD6.out; omega)).mono ?_; rintro e w15 ⟨rfl, hb, ha, hx⟩
  rw [hq.2.1, hq.2.2] at hb
  rw [hq.1] at ha ⊢
  clear Sq0 Sq1 Sq2 Sq3 Sq4
  have ee : Ex (fun k => k = g ∨ k = rr ∨ k = oa) w14 w15 := hx
  have T_16 := Lib.hid (T_15.out.ex ee (by have o_ := ORD6.out; omega))
  have L_16 := Lib.hid (L_15.out.ex ee (fun b_ h_ => by have o_ := ORD6.out; have h_ : b_ = g ∨ b_ = rr ∨ b_ = oa := h_; first | omega | (show _ ∨ _; omega)))
  have P_16 := Lib.hid (P_15.out.ex ee (by have o_ := ORD6.out; omega))
  have S_16 := Lib.hid (S_15.out.ex ee (by have o_ := ORD6.out; omega))
  have K_16 := Lib.hid (hb)
  have Aa_16 := Lib.hid (ha)
  clear ee T_15 L_15 P_15 K_15 S_15 Aa_15 hb ha hx hq
  go_wp2_with fail
  refine (Touches_any g rr [0, 0] 0 w15 K_16.out).mono ?_; rintro e w_ ⟨rfl, rfl⟩
  go_wp2_with fail
  refine (awake_any w15 T_16.out).mono ?_; rintro e w16 ⟨rfl, hb⟩
  have ee : Ex (fun _ => False) w15 w16 := Ex.of_below hb
  have T_17 := Lib.hid (T_16.out.ex ee (fun h => h))
  have L_17 := Lib.hid (L_16.out.ex ee (fun b_ h_ => h_.elim))
  have P_17 := Lib.hid (P_16.out.ex ee (fun h => h))
  have K_17 := Lib.hid (K_16.out.ex ee (fun h => h) (fun h => h))
  have S_17 := Lib.hid (S_16.out.ex ee (fun h => h))
  have Aa_17 := Lib.hid (Aa_16.out.ex ee (fun h => h) (fun h => h))
  clear ee T_16 L_16 P_16 K_16 S_16 Aa_16 hb
  go_wp2_with fail
  go_ret
  exact ⟨rfl, L_17.out.low.mono HBS.out⟩
set_option maxRecDepth 100000 in
set_option maxHeartbeats 1000000 in
theorem Nl_hi_neg (a kd so mo : Int) (fr : Bool) (fl n : Int) (w : World) (ht : Tab w) (hn : 16 < n) (hm : (⟨kd, so, mo, fr, fl⟩ : Pl).May n) (hp : (⟨kd, so, mo, fr, fl⟩ : Pl).Ok) (ha : a < 0) :
    Calls Tryd.prog 4 #[.int .i64 a, .agg #[.int .i64 kd, .int .i64 so, .int .i64 mo, .bool fr, .int .i64 fl], .int .i64 n] w fun e w' => e = .returned (.bool true) ∧ Below w.heap.size w w' := by
  have t1 : decide (n ≥ 1) = true := decide_eq_true (by omega)
  have t2 : decide (n ≤ 16) = false := decide_eq_false (by omega)
  have ham := fun W => AMost_any n W
  simp only [show amostF n = 0 from if_neg (by omega)] at ham
  have HAM := Lib.hid ham
  clear ham hn
  have hpl := fun W => plain_any (⟨kd, so, mo, fr, fl⟩ : Pl) n W
  have hmy := fun W => May_any (⟨kd, so, mo, fr, fl⟩ : Pl) n W
  simp only [decide_eq_true hm] at hmy
  obtain ⟨C, hC⟩ : ∃ C, RX.cells (⟨kd, so, mo, fr, fl⟩ : Pl) n RX.zero = C := ⟨_, rfl⟩
  have HCS := Lib.hid (show C.size = 18 from hC ▸ RX.cells_size _ _ _)
  have HCO := Lib.hid (show C.all (·.oneCell') = true from hC ▸ RX.cells_one _ _ _)
  simp only [hC] at hpl hmy
  unfold Pl.val at hpl
  simp only at hpl
  have HPL := Lib.hid hpl
  have HMY := Lib.hid hmy
  clear hpl hmy hC
  have hbg := fun W hz => begin_in a n (⟨kd, so, mo, fr, fl⟩ : Pl) W hz hm
  unfold Pl.val at hbg
  simp only at hbg
  have hok := Pl.kd_ok hp
  have hiv := Pl.inv hm
  obtain ⟨k, hk⟩ : ∃ k, (⟨kd, so, mo, fr, fl⟩ : Pl).kd = k := ⟨_, rfl⟩
  obtain ⟨m, hmm⟩ : ∃ m, (⟨kd, so, mo, fr, fl⟩ : Pl).n n = m := ⟨_, rfl⟩
  simp only [hk, hmm] at hbg hok hiv
  have HBG := Lib.hid hbg
  have HOK := Lib.hid hok
  have HIV := Lib.hid hiv
  clear hbg hok hiv hk hmm hm hp
  have a1 : decide (a ≥ 0) = false := decide_eq_false (by omega)
  have HIN := Lib.hid (show ¬ inW [0, 0] a from fun h => by have := h.1; omega)
  clear ha
  have hq0 := (blk_new' w (g := w.heap.size) (by simp) 41 #[.int .i64 kd, .int .i64 so, .int .i64 mo, .bool fr, .int .i64 fl])
  have hlo := ((Below.refl w.heap.size w).alloc (by first | exact Nat.le_refl _ | (simp; done) | (simp; omega)) (.cells #[.int .i64 kd, .int .i64 so, .int .i64 mo, .bool fr, .int .i64 fl] 41))
  have hz0 : 0 < w.heap.size := lt_of_cell (ht 0 (by decide))
  have ht1 := ht.below hlo
  go_enter Tryd.func4, Tryd.ntmps4
  go_upto_region 1 with fail
  generalize (w.alloc (.cells #[.int .i64 kd, .int .i64 so, .int .i64 mo, .bool fr, .int .i64 fl] 41)) = w1 at *
  obtain ⟨pb, hfb⟩ : ∃ pb, w.heap.size = pb := ⟨_, rfl⟩
  have hlo9 : Lo w.heap.size w w1 := ⟨hlo, hlo.size⟩
  have HBS := Lib.hid (Nat.le_of_eq hfb)
  simp only [hfb] at hlo9 hz0 hq0 ⊢
  have ORD0 := Lib.hid (show 0 < pb from hz0)
  have T0 := Lib.hid ht1
  have L0 := Lib.hid hlo9
  have P0 := Lib.hid hq0
  clear ht ht1 hlo hlo9 hz0 hfb  hq0
  go_wp2_with fail
  refine (New_in 2 (by decide) (by decide) w1).mono ?_; rintro e w2 ⟨rfl, hb, hl, hsz⟩
  have hb : BankAt w2 (w1.heap.size + 1) w1.heap.size [0, 0] 0 := hb
  obtain ⟨rr, hrr⟩ : ∃ rr, w1.heap.size = rr := ⟨_, rfl⟩
  have hlt : pb < rr := hrr ▸ P0.out.lt
  simp only [hrr] at hb ⊢
  obtain ⟨g, hg⟩ : ∃ g, rr + 1 = g := ⟨_, rfl⟩
  simp only [hg] at hb ⊢
  have ORD1 := Lib.hid (show 0 < pb ∧ pb < rr ∧ rr + 1 = g from by have o_ := ORD0.out; omega)
  have ee : Ex (fun _ => False) w1 w2 := Ex.of_below hl
  have T_2 := Lib.hid (T0.out.ex ee (fun h => h))
  have L_2 := Lib.hid (L0.out.ex ee (fun b_ h_ => h_.elim))
  have P_2 := Lib.hid (P0.out.ex ee (fun h => h))
  have K_2 := Lib.hid (hb)
  clear ee T0 L0 P0 hb hl hsz hrr hlt hg ORD0
  go_wp2_with fail
  have hgn := Got_nil w2
  unfold St.val at hgn
  simp only [St.zero] at hgn
  have HGN := Lib.hid hgn
  clear hgn
  refine (HGN.out).mono ?_; rintro e w3 ⟨rfl, hb⟩
  clear HGN
  have ee : Ex (fun _ => False) w2 w3 := Ex.of_below hb
  have T_3 := Lib.hid (T_2.out.ex ee (fun h => h))
  have L_3 := Lib.hid (L_2.out.ex ee (fun b_ h_ => h_.elim))
  have P_3 := Lib.hid (P_2.out.ex ee (fun h => h))
  have K_3 := Lib.hid (K_2.out.ex ee (fun h => h) (fun h => h))
  clear ee T_2 L_2 P_2 K_2 hb
  go_upto_region 6 with fail
  obtain ⟨sb, hsb, hM⟩ : ∃ sb : Nat, w3.heap.size = sb ∧ g < sb ∧ rr < sb := ⟨w3.heap.size, rfl, K_3.out.head.lt, K_3.out.row.lt⟩
  have ORD4 := Lib.hid (show 0 < pb ∧ pb < rr ∧ rr + 1 = g ∧ g < sb ∧ rr < sb from by have o_ := ORD1.out; omega)
  have hnb := Blk.new w3 34 #[.int .i64 0, .int .i64 0, .bool false, .int .i64 0, .int .u64 0]
  rw [hsb] at hnb
  simp only [hsb]
  have ee : Ex (fun _ => False) w3 (w3.alloc (.cells #[.int .i64 0, .int .i64 0, .bool false, .int .i64 0, .int .u64 0] 34)) := (Ex.refl (fun _ => False) w3).alloc (.cells #[.int .i64 0, .int .i64 0, .bool false, .int .i64 0, .int .u64 0] 34)
  have T_5 := Lib.hid (T_3.out.ex ee (fun h => h))
  have L_5 := Lib.hid (L_3.out.ex ee (fun b_ h_ => h_.elim))
  have P_5 := Lib.hid (P_3.out.ex ee (fun h => h))
  have K_5 := Lib.hid (K_3.out.ex ee (fun h => h) (fun h => h))
  have S_5 := Lib.hid (hnb)
  clear ee T_3 L_3 P_3 K_3 hnb hM ORD1
  generalize w3.alloc (.cells #[.int .i64 0, .int .i64 0, .bool false, .int .i64 0, .int .u64 0] 34) = w4 at *
  clear hsb
  go_wp2_with fail
  refine (Step_nil _ w4).mono ?_; rintro e w_ ⟨rfl, rfl⟩
  have Sq0 := (S_5.out).cell 0
  have Sq1 := (S_5.out).cell 1
  have Sq2 := (S_5.out).cell 2
  have Sq3 := (S_5.out).cell 3
  have Sq4 := (S_5.out).cell 4
  simp only [List.getElem?_toArray, List.getElem?_cons_succ, List.getElem?_cons_zero] at Sq0 Sq1 Sq2 Sq3 Sq4
  go_wp2_with fail
  refine (At_nil w4).mono ?_; rintro e w_ ⟨rfl, rfl⟩
  go_wp2_with fail
  refine (Steps_nil w4).mono ?_; rintro e w_ ⟨rfl, rfl⟩
  go_wp2_with fail
  refine (HAM.out w4).mono ?_; rintro e w_ ⟨rfl, rfl⟩
  clear Sq0 Sq1 Sq2 Sq3 Sq4
  have Pq0 := (P_5.out).cell 0
  have Pq1 := (P_5.out).cell 1
  have Pq2 := (P_5.out).cell 2
  have Pq3 := (P_5.out).cell 3
  have Pq4 := (P_5.out).cell 4
  simp only [List.getElem?_toArray, List.getElem?_cons_succ, List.getElem?_cons_zero] at Pq0 Pq1 Pq2 Pq3 Pq4
  go_wp2_with fail
  clear Pq0 Pq1 Pq2 Pq3 Pq4
  refine (HBG.out w4 (Nat.lt_of_le_of_lt (Nat.zero_le _) K_5.out.head.lt)).mono ?_; rintro e w6a ⟨oa, ba, rfl, ha, hs1, hs2, hs3, hs4, hb⟩
  obtain ⟨Ma, hM⟩ : ∃ Ma : Nat, g < Ma ∧ rr < Ma ∧ sb < Ma ∧ Ma ≤ oa ∧ (Ma ≤ ba ∨ ba = 0) := ⟨w4.heap.size, K_5.out.head.lt, K_5.out.row.lt, S_5.out.lt, hs1, hs2⟩
  have ORD6 := Lib.hid (show 0 < pb ∧ pb < rr ∧ rr + 1 = g ∧ g < sb ∧ rr < sb ∧ g < Ma ∧ rr < Ma ∧ sb < Ma ∧ Ma ≤ oa ∧ (Ma ≤ ba ∨ ba = 0) from by have o_ := ORD4.out; omega)
  have Ia_6 := Lib.hid (show AInv k m (AX.zero m) from HIV.out)
  have ee : Ex (fun _ => False) w4 w6a := Ex.of_below hb
  have T_7 := Lib.hid (T_5.out.ex ee (fun h => h))
  have L_7 := Lib.hid (L_5.out.ex ee (fun b_ h_ => h_.elim))
  have P_7 := Lib.hid (P_5.out.ex ee (fun h => h))
  have K_7 := Lib.hid (K_5.out.ex ee (fun h => h) (fun h => h))
  have S_7 := Lib.hid (S_5.out.ex ee (fun h => h))
  have Aa_7 := Lib.hid (ha)
  clear ee T_5 L_5 P_5 K_5 S_5 hb hs1 hs2 hs3 hs4 hM ORD4
  have Pq0 := (P_7.out).cell 0
  have Pq1 := (P_7.out).cell 1
  have Pq2 := (P_7.out).cell 2
  have Pq3 := (P_7.out).cell 3
  have Pq4 := (P_7.out).cell 4
  simp only [List.getElem?_toArray, List.getElem?_cons_succ, List.getElem?_cons_zero] at Pq0 Pq1 Pq2 Pq3 Pq4
  go_wp2_with fail
  refine (HPL.out w6a).mono ?_; rintro e w6 ⟨rfl, hb⟩
  clear Pq0 Pq1 Pq2 Pq3 Pq4
  have ee : Ex (fun _ => False) w6a w6 := Ex.of_below hb
  have T_8 := Lib.hid (T_7.out.ex ee (fun h => h))
  have L_8 := Lib.hid (L_7.out.ex ee (fun b_ h_ => h_.elim))
  have P_8 := Lib.hid (P_7.out.ex ee (fun h => h))
  have K_8 := Lib.hid (K_7.out.ex ee (fun h => h) (fun h => h))
  have S_8 := Lib.hid (S_7.out.ex ee (fun h => h))
  have Aa_8 := Lib.hid (Aa_7.out.ex ee (fun h => h) (fun h => h))
  clear ee T_7 L_7 P_7 K_7 S_7 Aa_7 hb
  have hBn := Blk.new w6 46 #[.int .i64 0, .int .i64 0, .int .i64 0, .bool false, .int .i64 0, .int .i64 0, .int .i64 0, .int .i64 0, .int .u64 0, .int .i64 0, .int .i64 0, .int .i64 0, .bool false, .int .i64 0, .int .u64 0, .int .i64 0, .int .i64 0, .int .i64 0]
  have hBm := Blk.rowed w6 46 #[.int .i64 0, .int .i64 0, .int .i64 0, .bool false, .int .i64 0, .int .i64 0, .int .i64 0, .int .i64 0, .int .u64 0, .int .i64 0, .int .i64 0, .int .i64 0, .bool false, .int .i64 0, .int .u64 0, .int .i64 0, .int .i64 0, .int .i64 0] C
  have hci : (Tryd.prog.info? 46).map (·.size) = some C.size := by rw [HCS.out]; kernel_rfl
  go_wp2_with (first | refine wpList_store_row rfl 46 _ _ rfl w6.heap.size C rfl rfl 46 #[.int .i64 0, .int .i64 0, .int .i64 0, .bool false, .int .i64 0, .int .i64 0, .int .i64 0, .int .i64 0, .int .u64 0, .int .i64 0, .int .i64 0, .int .i64 0, .bool false, .int .i64 0, .int .u64 0, .int .i64 0, .int .i64 0, .int .i64 0] hBn hci HCS.out.symm HCO.out ?_ | refine wpList_load_row rfl 46 _ rfl w6.heap.size rfl 46 C (0, 0) _ hBm Tryd.underlying46 rfl hci ?_)
  have ee : Ex (fun _ => False) w6 ((w6.alloc (.cells #[.int .i64 0, .int .i64 0, .int .i64 0, .bool false, .int .i64 0, .int .i64 0, .int .i64 0, .int .i64 0, .int .u64 0, .int .i64 0, .int .i64 0, .int .i64 0, .bool false, .int .i64 0, .int .u64 0, .int .i64 0, .int .i64 0, .int .i64 0] 46)).setRow w6.heap.size C) := Ex.rowed
  have T_9 := Lib.hid (T_8.out.ex ee (fun h => h))
  have L_9 := Lib.hid (L_8.out.ex ee (fun b_ h_ => h_.elim))
  have P_9 := Lib.hid (P_8.out.ex ee (fun h => h))
  have K_9 := Lib.hid (K_8.out.ex ee (fun h => h) (fun h => h))
  have S_9 := Lib.hid (S_8.out.ex ee (fun h => h))
  have Aa_9 := Lib.hid (Aa_8.out.ex ee (fun h => h) (fun h => h))
  clear ee T_8 L_8 P_8 K_8 S_8 Aa_8 hBn hBm hci
  generalize ((w6.alloc (.cells #[.int .i64 0, .int .i64 0, .int .i64 0, .bool false, .int .i64 0, .int .i64 0, .int .i64 0, .int .i64 0, .int .u64 0, .int .i64 0, .int .i64 0, .int .i64 0, .bool false, .int .i64 0, .int .u64 0, .int .i64 0, .int .i64 0, .int .i64 0] 46)).setRow w6.heap.size C) = w7 at *
  refine (HMY.out w7).mono ?_; rintro e w8 ⟨rfl, hb⟩
  have ee : Ex (fun _ => False) w7 w8 := Ex.of_below hb
  have T_10 := Lib.hid (T_9.out.ex ee (fun h => h))
  have L_10 := Lib.hid (L_9.out.ex ee (fun b_ h_ => h_.elim))
  have P_10 := Lib.hid (P_9.out.ex ee (fun h => h))
  have K_10 := Lib.hid (K_9.out.ex ee (fun h => h) (fun h => h))
  have S_10 := Lib.hid (S_9.out.ex ee (fun h => h))
  have Aa_10 := Lib.hid (Aa_9.out.ex ee (fun h => h) (fun h => h))
  clear ee T_9 L_9 P_9 K_9 S_9 Aa_9 hb
  go_wp2_with fail
  have HG := Lib.hid (Got_any oa ba k a ⟨0, false, 0, St.zero, St.zero, 0, m, 0⟩ w8 Aa_10.out)
  unfold St.val at HG
  simp only [AX.zero, St.zero] at HG
  refine (HG.out).mono ?_; rintro e w10 ⟨rfl, hb⟩
  clear HG
  have ee : Ex (fun _ => False) w8 w10 := Ex.of_below hb
  have T_11 := Lib.hid (T_10.out.ex ee (fun h => h))
  have L_11 := Lib.hid (L_10.out.ex ee (fun b_ h_ => h_.elim))
  have P_11 := Lib.hid (P_10.out.ex ee (fun h => h))
  have K_11 := Lib.hid (K_10.out.ex ee (fun h => h) (fun h => h))
  have S_11 := Lib.hid (S_10.out.ex ee (fun h => h))
  have Aa_11 := Lib.hid (Aa_10.out.ex ee (fun h => h) (fun h => h))
  clear ee T_10 L_10 P_10 K_10 S_10 Aa_10 hb
  have Sq0 := (S_11.out).cell 0
  have Sq1 := (S_11.out).cell 1
  have Sq2 := (S_11.out).cell 2
  have Sq3 := (S_11.out).cell 3
  have Sq4 := (S_11.out).cell 4
  simp only [List.getElem?_toArray, List.getElem?_cons_succ, List.getElem?_cons_zero] at Sq0 Sq1 Sq2 Sq3 Sq4
  have Sf0 := (S_11.out).frozen 0
  have Sf1 := (S_11.out).frozen 1
  have Sf2 := (S_11.out).frozen 2
  have Sf3 := (S_11.out).frozen 3
  have Sf4 := (S_11.out).frozen 4
  go_upto_region 20 with fail
  clear Sq0 Sq1 Sq2 Sq3 Sq4 Sf0 Sf1 Sf2 Sf3 Sf4
  have hbb := set5_blk (x0 := .int .i64 0) (x1 := .int .i64 0) (x2 := .bool false) (x3 := .int .i64 0) (x4 := .int .u64 0) S_11.out
  have ee : Ex (fun k => k = sb) w10 (((((w10.setCell ⟨sb, 0, none⟩ (.int .i64 0)).setCell ⟨sb, 1, none⟩ (.int .i64 0)).setCell ⟨sb, 2, none⟩ (.bool false)).setCell ⟨sb, 3, none⟩ (.int .i64 0)).setCell ⟨sb, 4, none⟩ (.int .u64 0)) := ((((((Ex.refl (fun q => q = sb) w10).setCell (q := ⟨sb, 0, none⟩) (.inl rfl) (.int .i64 0)).setCell (q := ⟨sb, 1, none⟩) (.inl rfl) (.int .i64 0)).setCell (q := ⟨sb, 2, none⟩) (.inl rfl) (.bool false)).setCell (q := ⟨sb, 3, none⟩) (.inl rfl) (.int .i64 0)).setCell (q := ⟨sb, 4, none⟩) (.inl rfl) (.int .u64 0))
  have T_12 := Lib.hid (T_11.out.ex ee (by have o_ := ORD6.out; omega))
  have L_12 := Lib.hid (L_11.out.ex ee (fun b_ h_ => by have o_ := ORD6.out; have h_ : b_ = sb := h_; first | omega | (show _ ∨ _; omega)))
  have P_12 := Lib.hid (P_11.out.ex ee (by have o_ := ORD6.out; omega))
  have K_12 := Lib.hid (K_11.out.ex ee (by have o_ := ORD6.out; omega) (by have o_ := ORD6.out; omega))
  have Aa_12 := Lib.hid (Aa_11.out.ex ee (by have o_ := ORD6.out; omega) (by have o_ := ORD6.out; omega))
  have S_12 := Lib.hid (hbb)
  clear ee T_11 L_11 P_11 K_11 S_11 Aa_11 hbb
  generalize (((((w10.setCell ⟨sb, 0, none⟩ (.int .i64 0)).setCell ⟨sb, 1, none⟩ (.int .i64 0)).setCell ⟨sb, 2, none⟩ (.bool false)).setCell ⟨sb, 3, none⟩ (.int .i64 0)).setCell ⟨sb, 4, none⟩ (.int .u64 0)) = w11 at *
  have Sq0 := (S_12.out).cell 0
  have Sq1 := (S_12.out).cell 1
  have Sq2 := (S_12.out).cell 2
  have Sq3 := (S_12.out).cell 3
  have Sq4 := (S_12.out).cell 4
  simp only [List.getElem?_toArray, List.getElem?_cons_succ, List.getElem?_cons_zero] at Sq0 Sq1 Sq2 Sq3 Sq4
  go_wp2_with fail
  refine (At_not oa ba k a ⟨0, false, 0, St.zero, St.zero, 0, m, 0⟩ w11 Aa_12.out (show (0 : Int) ≠ 1 by decide)).mono ?_; rintro e w_ ⟨rfl, rfl⟩
  go_wp2_with fail
  refine (Steps_any oa ba k a ⟨0, false, 0, St.zero, St.zero, 0, m, 0⟩ w11 Aa_12.out).mono ?_; rintro e w_ ⟨rfl, rfl⟩
  go_wp2_with fail
  clear Sq0 Sq1 Sq2 Sq3 Sq4
  have hs1 : aStep k a [0, 0] ⟨0, false, 0, St.zero, St.zero, 0, m, 0⟩ = ⟨3, false, 0, St.zero, St.zero, 10, m, 0⟩ := by unfold aStep; simp only [ne_eq, not_true_eq_false, if_false, if_true, if_neg HIN.out]
  have hs2 : aWs a [0, 0] ⟨0, false, 0, St.zero, St.zero, 0, m, 0⟩ = [0, 0] := by unfold aWs; simp
  have hs3 : aT a [0, 0] ⟨0, false, 0, St.zero, St.zero, 0, m, 0⟩ 0 = 0 := by unfold aT; simp only [if_true]; exact tickF_out HIN.out
  refine (Step_any g rr oa ba [0, 0] 0 k HOK.out m a ⟨0, false, 0, St.zero, St.zero, 0, m, 0⟩ Ia_6.out w11 Aa_12.out K_12.out T_12.out (by have o_ := ORD6.out; omega)).mono ?_; rintro e w12 ⟨rfl, hb, ha, hx⟩
  rw [hs2, hs3] at hb
  rw [hs1] at ha ⊢
  have ee : Ex (fun k => k = g ∨ k = rr ∨ k = oa) w11 w12 := hx
  have T_13 := Lib.hid (T_12.out.ex ee (by have o_ := ORD6.out; omega))
  have L_13 := Lib.hid (L_12.out.ex ee (fun b_ h_ => by have o_ := ORD6.out; have h_ : b_ = g ∨ b_ = rr ∨ b_ = oa := h_; first | omega | (show _ ∨ _; omega)))
  have P_13 := Lib.hid (P_12.out.ex ee (by have o_ := ORD6.out; omega))
  have S_13 := Lib.hid (S_12.out.ex ee (by have o_ := ORD6.out; omega))
  have K_13 := Lib.hid (hb)
  have Aa_13 := Lib.hid (ha)
  clear ee T_12 L_12 P_12 K_12 S_12 Aa_12 hb ha hx hs1 hs2 hs3
  go_wp2_with fail
  have HG := Lib.hid (Got_any oa ba k a ⟨3, false, 0, St.zero, St.zero, 10, m, 0⟩ w12 Aa_13.out)
  unfold St.val at HG
  simp only [AX.zero, St.zero] at HG
  refine (HG.out).mono ?_; rintro e w13 ⟨rfl, hb⟩
  clear HG
  have ee : Ex (fun _ => False) w12 w13 := Ex.of_below hb
  have T_14 := Lib.hid (T_13.out.ex ee (fun h => h))
  have L_14 := Lib.hid (L_13.out.ex ee (fun b_ h_ => h_.elim))
  have P_14 := Lib.hid (P_13.out.ex ee (fun h => h))
  have K_14 := Lib.hid (K_13.out.ex ee (fun h => h) (fun h => h))
  have S_14 := Lib.hid (S_13.out.ex ee (fun h => h))
  have Aa_14 := Lib.hid (Aa_13.out.ex ee (fun h => h) (fun h => h))
  clear ee T_13 L_13 P_13 K_13 S_13 Aa_13 hb
  have Sq0 := (S_14.out).cell 0
  have Sq1 := (S_14.out).cell 1
  have Sq2 := (S_14.out).cell 2
  have Sq3 := (S_14.out).cell 3
  have Sq4 := (S_14.out).cell 4
  simp only [List.getElem?_toArray, List.getElem?_cons_succ, List.getElem?_cons_zero] at Sq0 Sq1 Sq2 Sq3 Sq4
  have Sf0 := (S_14.out).frozen 0
  have Sf1 := (S_14.out).frozen 1
  have Sf2 := (S_14.out).frozen 2
  have Sf3 := (S_14.out).frozen 3
  have Sf4 := (S_14.out).frozen 4
  go_upto_region 28 with fail
  clear Sq0 Sq1 Sq2 Sq3 Sq4 Sf0 Sf1 Sf2 Sf3 Sf4
  have hbb := set5_blk (x0 := .int .i64 0) (x1 := .int .i64 0) (x2 := .bool false) (x3 := .int .i64 0) (x4 := .int .u64 0) S_14.out
  have ee : Ex (fun k => k = sb) w13 (((((w13.setCell ⟨sb, 0, none⟩ (.int .i64 0)).setCell ⟨sb, 1, none⟩ (.int .i64 0)).setCell ⟨sb, 2, none⟩ (.bool false)).setCell ⟨sb, 3, none⟩ (.int .i64 0)).setCell ⟨sb, 4, none⟩ (.int .u64 0)) := ((((((Ex.refl (fun q => q = sb) w13).setCell (q := ⟨sb, 0, none⟩) (.inl rfl) (.int .i64 0)).setCell (q := ⟨sb, 1, none⟩) (.inl rfl) (.int .i64 0)).setCell (q := ⟨sb, 2, none⟩) (.inl rfl) (.bool false)).setCell (q := ⟨sb, 3, none⟩) (.inl rfl) (.int .i64 0)).setCell (q := ⟨sb, 4, none⟩) (.inl rfl) (.int .u64 0))
  have T_15 := Lib.hid (T_14.out.ex ee (by have o_ := ORD6.out; omega))
  have L_15 := Lib.hid (L_14.out.ex ee (fun b_ h_ => by have o_ := ORD6.out; have h_ : b_ = sb := h_; first | omega | (show _ ∨ _; omega)))
  have P_15 := Lib.hid (P_14.out.ex ee (by have o_ := ORD6.out; omega))
  have K_15 := Lib.hid (K_14.out.ex ee (by have o_ := ORD6.out; omega) (by have o_ := ORD6.out; omega))
  have Aa_15 := Lib.hid (Aa_14.out.ex ee (by have o_ := ORD6.out; omega) (by have o_ := ORD6.out; omega))
  have S_15 := Lib.hid (hbb)
  clear ee T_14 L_14 P_14 K_14 S_14 Aa_14 hbb
  generalize (((((w13.setCell ⟨sb, 0, none⟩ (.int .i64 0)).setCell ⟨sb, 1, none⟩ (.int .i64 0)).setCell ⟨sb, 2, none⟩ (.bool false)).setCell ⟨sb, 3, none⟩ (.int .i64 0)).setCell ⟨sb, 4, none⟩ (.int .u64 0)) = w14 at *
  have Sq0 := (S_15.out).cell 0
  have Sq1 := (S_15.out).cell 1
  have Sq2 := (S_15.out).cell 2
  have Sq3 := (S_15.out).cell 3
  have Sq4 := (S_15.out).cell 4
  simp only [List.getElem?_toArray, List.getElem?_cons_succ, List.getElem?_cons_zero] at Sq0 Sq1 Sq2 Sq3 Sq4
  go_wp2_with fail
  have IZ := Lib.hid (show AInv k m ⟨3, false, 0, St.zero, St.zero, 10, m, 0⟩ from by have := HIV.out; exact ⟨this.nn, by simp, fun h => by simp at h, fun h => by simp at h, fun _ => ⟨rfl, fun h => by simp at h⟩, fun h => by simp at h⟩)
  refine (At_not oa ba k a ⟨3, false, 0, St.zero, St.zero, 10, m, 0⟩ w14 Aa_15.out (show (3 : Int) ≠ 1 by decide)).mono ?_; rintro e w_ ⟨rfl, rfl⟩
  go_wp2_with fail
  refine (Steps_any oa ba k a ⟨3, false, 0, St.zero, St.zero, 10, m, 0⟩ w14 Aa_15.out).mono ?_; rintro e w_ ⟨rfl, rfl⟩
  go_wp2_with fail
  have hq := still_step (k := k) (at_ := a) (ws := [0, 0]) (t := 0) (x := ⟨3, false, 0, St.zero, St.zero, 10, m, 0⟩) (by simp)
  refine (Step_any g rr oa ba [0, 0] 0 k HOK.out m a ⟨3, false, 0, St.zero, St.zero, 10, m, 0⟩ IZ.out w14 Aa_15.out K_15.out T_15.out (by have o_ := ORD6.out; omega)).mono ?_; rintro e w15 ⟨rfl, hb, ha, hx⟩
  rw [hq.2.1, hq.2.2] at hb
  rw [hq.1] at ha ⊢
  clear Sq0 Sq1 Sq2 Sq3 Sq4
  have ee : Ex (fun k => k = g ∨ k = rr ∨ k = oa) w14 w15 := hx
  have T_16 := Lib.hid (T_15.out.ex ee (by have o_ := ORD6.out; omega))
  have L_16 := Lib.hid (L_15.out.ex ee (fun b_ h_ => by have o_ := ORD6.out; have h_ : b_ = g ∨ b_ = rr ∨ b_ = oa := h_; first | omega | (show _ ∨ _; omega)))
  have P_16 := Lib.hid (P_15.out.ex ee (by have o_ := ORD6.out; omega))
  have S_16 := Lib.hid (S_15.out.ex ee (by have o_ := ORD6.out; omega))
  have K_16 := Lib.hid (hb)
  have Aa_16 := Lib.hid (ha)
  clear ee T_15 L_15 P_15 K_15 S_15 Aa_15 hb ha hx hq
  go_wp2_with fail
  refine (Touches_any g rr [0, 0] 0 w15 K_16.out).mono ?_; rintro e w_ ⟨rfl, rfl⟩
  go_wp2_with fail
  refine (awake_any w15 T_16.out).mono ?_; rintro e w16 ⟨rfl, hb⟩
  have ee : Ex (fun _ => False) w15 w16 := Ex.of_below hb
  have T_17 := Lib.hid (T_16.out.ex ee (fun h => h))
  have L_17 := Lib.hid (L_16.out.ex ee (fun b_ h_ => h_.elim))
  have P_17 := Lib.hid (P_16.out.ex ee (fun h => h))
  have K_17 := Lib.hid (K_16.out.ex ee (fun h => h) (fun h => h))
  have S_17 := Lib.hid (S_16.out.ex ee (fun h => h))
  have Aa_17 := Lib.hid (Aa_16.out.ex ee (fun h => h) (fun h => h))
  clear ee T_16 L_16 P_16 K_16 S_16 Aa_16 hb
  go_wp2_with fail
  go_ret
  exact ⟨rfl, L_17.out.low.mono HBS.out⟩
set_option maxRecDepth 100000 in
set_option maxHeartbeats 1000000 in
theorem Nl_hi_big (a kd so mo : Int) (fr : Bool) (fl n : Int) (w : World) (ht : Tab w) (hn : 16 < n) (hm : (⟨kd, so, mo, fr, fl⟩ : Pl).May n) (hp : (⟨kd, so, mo, fr, fl⟩ : Pl).Ok) (ha : 2 ≤ a) :
    Calls Tryd.prog 4 #[.int .i64 a, .agg #[.int .i64 kd, .int .i64 so, .int .i64 mo, .bool fr, .int .i64 fl], .int .i64 n] w fun e w' => e = .returned (.bool true) ∧ Below w.heap.size w w' := by
  have t1 : decide (n ≥ 1) = true := decide_eq_true (by omega)
  have t2 : decide (n ≤ 16) = false := decide_eq_false (by omega)
  have ham := fun W => AMost_any n W
  simp only [show amostF n = 0 from if_neg (by omega)] at ham
  have HAM := Lib.hid ham
  clear ham hn
  have hpl := fun W => plain_any (⟨kd, so, mo, fr, fl⟩ : Pl) n W
  have hmy := fun W => May_any (⟨kd, so, mo, fr, fl⟩ : Pl) n W
  simp only [decide_eq_true hm] at hmy
  obtain ⟨C, hC⟩ : ∃ C, RX.cells (⟨kd, so, mo, fr, fl⟩ : Pl) n RX.zero = C := ⟨_, rfl⟩
  have HCS := Lib.hid (show C.size = 18 from hC ▸ RX.cells_size _ _ _)
  have HCO := Lib.hid (show C.all (·.oneCell') = true from hC ▸ RX.cells_one _ _ _)
  simp only [hC] at hpl hmy
  unfold Pl.val at hpl
  simp only at hpl
  have HPL := Lib.hid hpl
  have HMY := Lib.hid hmy
  clear hpl hmy hC
  have hbg := fun W hz => begin_in a n (⟨kd, so, mo, fr, fl⟩ : Pl) W hz hm
  unfold Pl.val at hbg
  simp only at hbg
  have hok := Pl.kd_ok hp
  have hiv := Pl.inv hm
  obtain ⟨k, hk⟩ : ∃ k, (⟨kd, so, mo, fr, fl⟩ : Pl).kd = k := ⟨_, rfl⟩
  obtain ⟨m, hmm⟩ : ∃ m, (⟨kd, so, mo, fr, fl⟩ : Pl).n n = m := ⟨_, rfl⟩
  simp only [hk, hmm] at hbg hok hiv
  have HBG := Lib.hid hbg
  have HOK := Lib.hid hok
  have HIV := Lib.hid hiv
  clear hbg hok hiv hk hmm hm hp
  have a1 : decide (a ≥ 0) = true := decide_eq_true (by omega)
  have a2 : decide (a < 2) = false := decide_eq_false (by omega)
  have HIN := Lib.hid (show ¬ inW [0, 0] a from fun h => by have := h.2; simp at this; omega)
  clear ha
  have hq0 := (blk_new' w (g := w.heap.size) (by simp) 41 #[.int .i64 kd, .int .i64 so, .int .i64 mo, .bool fr, .int .i64 fl])
  have hlo := ((Below.refl w.heap.size w).alloc (by first | exact Nat.le_refl _ | (simp; done) | (simp; omega)) (.cells #[.int .i64 kd, .int .i64 so, .int .i64 mo, .bool fr, .int .i64 fl] 41))
  have hz0 : 0 < w.heap.size := lt_of_cell (ht 0 (by decide))
  have ht1 := ht.below hlo
  go_enter Tryd.func4, Tryd.ntmps4
  go_upto_region 1 with fail
  generalize (w.alloc (.cells #[.int .i64 kd, .int .i64 so, .int .i64 mo, .bool fr, .int .i64 fl] 41)) = w1 at *
  obtain ⟨pb, hfb⟩ : ∃ pb, w.heap.size = pb := ⟨_, rfl⟩
  have hlo9 : Lo w.heap.size w w1 := ⟨hlo, hlo.size⟩
  have HBS := Lib.hid (Nat.le_of_eq hfb)
  simp only [hfb] at hlo9 hz0 hq0 ⊢
  have ORD0 := Lib.hid (show 0 < pb from hz0)
  have T0 := Lib.hid ht1
  have L0 := Lib.hid hlo9
  have P0 := Lib.hid hq0
  clear ht ht1 hlo hlo9 hz0 hfb  hq0
  go_wp2_with fail
  refine (New_in 2 (by decide) (by decide) w1).mono ?_; rintro e w2 ⟨rfl, hb, hl, hsz⟩
  have hb : BankAt w2 (w1.heap.size + 1) w1.heap.size [0, 0] 0 := hb
  obtain ⟨rr, hrr⟩ : ∃ rr, w1.heap.size = rr := ⟨_, rfl⟩
  have hlt : pb < rr := hrr ▸ P0.out.lt
  simp only [hrr] at hb ⊢
  obtain ⟨g, hg⟩ : ∃ g, rr + 1 = g := ⟨_, rfl⟩
  simp only [hg] at hb ⊢
  have ORD1 := Lib.hid (show 0 < pb ∧ pb < rr ∧ rr + 1 = g from by have o_ := ORD0.out; omega)
  have ee : Ex (fun _ => False) w1 w2 := Ex.of_below hl
  have T_2 := Lib.hid (T0.out.ex ee (fun h => h))
  have L_2 := Lib.hid (L0.out.ex ee (fun b_ h_ => h_.elim))
  have P_2 := Lib.hid (P0.out.ex ee (fun h => h))
  have K_2 := Lib.hid (hb)
  clear ee T0 L0 P0 hb hl hsz hrr hlt hg ORD0
  go_wp2_with fail
  have hgn := Got_nil w2
  unfold St.val at hgn
  simp only [St.zero] at hgn
  have HGN := Lib.hid hgn
  clear hgn
  refine (HGN.out).mono ?_; rintro e w3 ⟨rfl, hb⟩
  clear HGN
  have ee : Ex (fun _ => False) w2 w3 := Ex.of_below hb
  have T_3 := Lib.hid (T_2.out.ex ee (fun h => h))
  have L_3 := Lib.hid (L_2.out.ex ee (fun b_ h_ => h_.elim))
  have P_3 := Lib.hid (P_2.out.ex ee (fun h => h))
  have K_3 := Lib.hid (K_2.out.ex ee (fun h => h) (fun h => h))
  clear ee T_2 L_2 P_2 K_2 hb
  go_upto_region 6 with fail
  obtain ⟨sb, hsb, hM⟩ : ∃ sb : Nat, w3.heap.size = sb ∧ g < sb ∧ rr < sb := ⟨w3.heap.size, rfl, K_3.out.head.lt, K_3.out.row.lt⟩
  have ORD4 := Lib.hid (show 0 < pb ∧ pb < rr ∧ rr + 1 = g ∧ g < sb ∧ rr < sb from by have o_ := ORD1.out; omega)
  have hnb := Blk.new w3 34 #[.int .i64 0, .int .i64 0, .bool false, .int .i64 0, .int .u64 0]
  rw [hsb] at hnb
  simp only [hsb]
  have ee : Ex (fun _ => False) w3 (w3.alloc (.cells #[.int .i64 0, .int .i64 0, .bool false, .int .i64 0, .int .u64 0] 34)) := (Ex.refl (fun _ => False) w3).alloc (.cells #[.int .i64 0, .int .i64 0, .bool false, .int .i64 0, .int .u64 0] 34)
  have T_5 := Lib.hid (T_3.out.ex ee (fun h => h))
  have L_5 := Lib.hid (L_3.out.ex ee (fun b_ h_ => h_.elim))
  have P_5 := Lib.hid (P_3.out.ex ee (fun h => h))
  have K_5 := Lib.hid (K_3.out.ex ee (fun h => h) (fun h => h))
  have S_5 := Lib.hid (hnb)
  clear ee T_3 L_3 P_3 K_3 hnb hM ORD1
  generalize w3.alloc (.cells #[.int .i64 0, .int .i64 0, .bool false, .int .i64 0, .int .u64 0] 34) = w4 at *
  clear hsb
  go_wp2_with fail
  refine (Step_nil _ w4).mono ?_; rintro e w_ ⟨rfl, rfl⟩
  have Sq0 := (S_5.out).cell 0
  have Sq1 := (S_5.out).cell 1
  have Sq2 := (S_5.out).cell 2
  have Sq3 := (S_5.out).cell 3
  have Sq4 := (S_5.out).cell 4
  simp only [List.getElem?_toArray, List.getElem?_cons_succ, List.getElem?_cons_zero] at Sq0 Sq1 Sq2 Sq3 Sq4
  go_wp2_with fail
  refine (At_nil w4).mono ?_; rintro e w_ ⟨rfl, rfl⟩
  go_wp2_with fail
  refine (Steps_nil w4).mono ?_; rintro e w_ ⟨rfl, rfl⟩
  go_wp2_with fail
  refine (HAM.out w4).mono ?_; rintro e w_ ⟨rfl, rfl⟩
  clear Sq0 Sq1 Sq2 Sq3 Sq4
  have Pq0 := (P_5.out).cell 0
  have Pq1 := (P_5.out).cell 1
  have Pq2 := (P_5.out).cell 2
  have Pq3 := (P_5.out).cell 3
  have Pq4 := (P_5.out).cell 4
  simp only [List.getElem?_toArray, List.getElem?_cons_succ, List.getElem?_cons_zero] at Pq0 Pq1 Pq2 Pq3 Pq4
  go_wp2_with fail
  clear Pq0 Pq1 Pq2 Pq3 Pq4
  refine (HBG.out w4 (Nat.lt_of_le_of_lt (Nat.zero_le _) K_5.out.head.lt)).mono ?_; rintro e w6a ⟨oa, ba, rfl, ha, hs1, hs2, hs3, hs4, hb⟩
  obtain ⟨Ma, hM⟩ : ∃ Ma : Nat, g < Ma ∧ rr < Ma ∧ sb < Ma ∧ Ma ≤ oa ∧ (Ma ≤ ba ∨ ba = 0) := ⟨w4.heap.size, K_5.out.head.lt, K_5.out.row.lt, S_5.out.lt, hs1, hs2⟩
  have ORD6 := Lib.hid (show 0 < pb ∧ pb < rr ∧ rr + 1 = g ∧ g < sb ∧ rr < sb ∧ g < Ma ∧ rr < Ma ∧ sb < Ma ∧ Ma ≤ oa ∧ (Ma ≤ ba ∨ ba = 0) from by have o_ := ORD4.out; omega)
  have Ia_6 := Lib.hid (show AInv k m (AX.zero m) from HIV.out)
  have ee : Ex (fun _ => False) w4 w6a := Ex.of_below hb
  have T_7 := Lib.hid (T_5.out.ex ee (fun h => h))
  have L_7 := Lib.hid (L_5.out.ex ee (fun b_ h_ => h_.elim))
  have P_7 := Lib.hid (P_5.out.ex ee (fun h => h))
  have K_7 := Lib.hid (K_5.out.ex ee (fun h => h) (fun h => h))
  have S_7 := Lib.hid (S_5.out.ex ee (fun h => h))
  have Aa_7 := Lib.hid (ha)
  clear ee T_5 L_5 P_5 K_5 S_5 hb hs1 hs2 hs3 hs4 hM ORD4
  have Pq0 := (P_7.out).cell 0
  have Pq1 := (P_7.out).cell 1
  have Pq2 := (P_7.out).cell 2
  have Pq3 := (P_7.out).cell 3
  have Pq4 := (P_7.out).cell 4
  simp only [List.getElem?_toArray, List.getElem?_cons_succ, List.getElem?_cons_zero] at Pq0 Pq1 Pq2 Pq3 Pq4
  go_wp2_with fail
  refine (HPL.out w6a).mono ?_; rintro e w6 ⟨rfl, hb⟩
  clear Pq0 Pq1 Pq2 Pq3 Pq4
  have ee : Ex (fun _ => False) w6a w6 := Ex.of_below hb
  have T_8 := Lib.hid (T_7.out.ex ee (fun h => h))
  have L_8 := Lib.hid (L_7.out.ex ee (fun b_ h_ => h_.elim))
  have P_8 := Lib.hid (P_7.out.ex ee (fun h => h))
  have K_8 := Lib.hid (K_7.out.ex ee (fun h => h) (fun h => h))
  have S_8 := Lib.hid (S_7.out.ex ee (fun h => h))
  have Aa_8 := Lib.hid (Aa_7.out.ex ee (fun h => h) (fun h => h))
  clear ee T_7 L_7 P_7 K_7 S_7 Aa_7 hb
  have hBn := Blk.new w6 46 #[.int .i64 0, .int .i64 0, .int .i64 0, .bool false, .int .i64 0, .int .i64 0, .int .i64 0, .int .i64 0, .int .u64 0, .int .i64 0, .int .i64 0, .int .i64 0, .bool false, .int .i64 0, .int .u64 0, .int .i64 0, .int .i64 0, .int .i64 0]
  have hBm := Blk.rowed w6 46 #[.int .i64 0, .int .i64 0, .int .i64 0, .bool false, .int .i64 0, .int .i64 0, .int .i64 0, .int .i64 0, .int .u64 0, .int .i64 0, .int .i64 0, .int .i64 0, .bool false, .int .i64 0, .int .u64 0, .int .i64 0, .int .i64 0, .int .i64 0] C
  have hci : (Tryd.prog.info? 46).map (·.size) = some C.size := by rw [HCS.out]; kernel_rfl
  go_wp2_with (first | refine wpList_store_row rfl 46 _ _ rfl w6.heap.size C rfl rfl 46 #[.int .i64 0, .int .i64 0, .int .i64 0, .bool false, .int .i64 0, .int .i64 0, .int .i64 0, .int .i64 0, .int .u64 0, .int .i64 0, .int .i64 0, .int .i64 0, .bool false, .int .i64 0, .int .u64 0, .int .i64 0, .int .i64 0, .int .i64 0] hBn hci HCS.out.symm HCO.out ?_ | refine wpList_load_row rfl 46 _ rfl w6.heap.size rfl 46 C (0, 0) _ hBm Tryd.underlying46 rfl hci ?_)
  have ee : Ex (fun _ => False) w6 ((w6.alloc (.cells #[.int .i64 0, .int .i64 0, .int .i64 0, .bool false, .int .i64 0, .int .i64 0, .int .i64 0, .int .i64 0, .int .u64 0, .int .i64 0, .int .i64 0, .int .i64 0, .bool false, .int .i64 0, .int .u64 0, .int .i64 0, .int .i64 0, .int .i64 0] 46)).setRow w6.heap.size C) := Ex.rowed
  have T_9 := Lib.hid (T_8.out.ex ee (fun h => h))
  have L_9 := Lib.hid (L_8.out.ex ee (fun b_ h_ => h_.elim))
  have P_9 := Lib.hid (P_8.out.ex ee (fun h => h))
  have K_9 := Lib.hid (K_8.out.ex ee (fun h => h) (fun h => h))
  have S_9 := Lib.hid (S_8.out.ex ee (fun h => h))
  have Aa_9 := Lib.hid (Aa_8.out.ex ee (fun h => h) (fun h => h))
  clear ee T_8 L_8 P_8 K_8 S_8 Aa_8 hBn hBm hci
  generalize ((w6.alloc (.cells #[.int .i64 0, .int .i64 0, .int .i64 0, .bool false, .int .i64 0, .int .i64 0, .int .i64 0, .int .i64 0, .int .u64 0, .int .i64 0, .int .i64 0, .int .i64 0, .bool false, .int .i64 0, .int .u64 0, .int .i64 0, .int .i64 0, .int .i64 0] 46)).setRow w6.heap.size C) = w7 at *
  refine (HMY.out w7).mono ?_; rintro e w8 ⟨rfl, hb⟩
  have ee : Ex (fun _ => False) w7 w8 := Ex.of_below hb
  have T_10 := Lib.hid (T_9.out.ex ee (fun h => h))
  have L_10 := Lib.hid (L_9.out.ex ee (fun b_ h_ => h_.elim))
  have P_10 := Lib.hid (P_9.out.ex ee (fun h => h))
  have K_10 := Lib.hid (K_9.out.ex ee (fun h => h) (fun h => h))
  have S_10 := Lib.hid (S_9.out.ex ee (fun h => h))
  have Aa_10 := Lib.hid (Aa_9.out.ex ee (fun h => h) (fun h => h))
  clear ee T_9 L_9 P_9 K_9 S_9 Aa_9 hb
  go_wp2_with fail
  have HG := Lib.hid (Got_any oa ba k a ⟨0, false, 0, St.zero, St.zero, 0, m, 0⟩ w8 Aa_10.out)
  unfold St.val at HG
  simp only [AX.zero, St.zero] at HG
  refine (HG.out).mono ?_; rintro e w10 ⟨rfl, hb⟩
  clear HG
  have ee : Ex (fun _ => False) w8 w10 := Ex.of_below hb
  have T_11 := Lib.hid (T_10.out.ex ee (fun h => h))
  have L_11 := Lib.hid (L_10.out.ex ee (fun b_ h_ => h_.elim))
  have P_11 := Lib.hid (P_10.out.ex ee (fun h => h))
  have K_11 := Lib.hid (K_10.out.ex ee (fun h => h) (fun h => h))
  have S_11 := Lib.hid (S_10.out.ex ee (fun h => h))
  have Aa_11 := Lib.hid (Aa_10.out.ex ee (fun h => h) (fun h => h))
  clear ee T_10 L_10 P_10 K_10 S_10 Aa_10 hb
  have Sq0 := (S_11.out).cell 0
  have Sq1 := (S_11.out).cell 1
  have Sq2 := (S_11.out).cell 2
  have Sq3 := (S_11.out).cell 3
  have Sq4 := (S_11.out).cell 4
  simp only [List.getElem?_toArray, List.getElem?_cons_succ, List.getElem?_cons_zero] at Sq0 Sq1 Sq2 Sq3 Sq4
  have Sf0 := (S_11.out).frozen 0
  have Sf1 := (S_11.out).frozen 1
  have Sf2 := (S_11.out).frozen 2
  have Sf3 := (S_11.out).frozen 3
  have Sf4 := (S_11.out).frozen 4
  go_upto_region 20 with fail
  clear Sq0 Sq1 Sq2 Sq3 Sq4 Sf0 Sf1 Sf2 Sf3 Sf4
  have hbb := set5_blk (x0 := .int .i64 0) (x1 := .int .i64 0) (x2 := .bool false) (x3 := .int .i64 0) (x4 := .int .u64 0) S_11.out
  have ee : Ex (fun k => k = sb) w10 (((((w10.setCell ⟨sb, 0, none⟩ (.int .i64 0)).setCell ⟨sb, 1, none⟩ (.int .i64 0)).setCell ⟨sb, 2, none⟩ (.bool false)).setCell ⟨sb, 3, none⟩ (.int .i64 0)).setCell ⟨sb, 4, none⟩ (.int .u64 0)) := ((((((Ex.refl (fun q => q = sb) w10).setCell (q := ⟨sb, 0, none⟩) (.inl rfl) (.int .i64 0)).setCell (q := ⟨sb, 1, none⟩) (.inl rfl) (.int .i64 0)).setCell (q := ⟨sb, 2, none⟩) (.inl rfl) (.bool false)).setCell (q := ⟨sb, 3, none⟩) (.inl rfl) (.int .i64 0)).setCell (q := ⟨sb, 4, none⟩) (.inl rfl) (.int .u64 0))
  have T_12 := Lib.hid (T_11.out.ex ee (by have o_ := ORD6.out; omega))
  have L_12 := Lib.hid (L_11.out.ex ee (fun b_ h_ => by have o_ := ORD6.out; have h_ : b_ = sb := h_; first | omega | (show _ ∨ _; omega)))
  have P_12 := Lib.hid (P_11.out.ex ee (by have o_ := ORD6.out; omega))
  have K_12 := Lib.hid (K_11.out.ex ee (by have o_ := ORD6.out; omega) (by have o_ := ORD6.out; omega))
  have Aa_12 := Lib.hid (Aa_11.out.ex ee (by have o_ := ORD6.out; omega) (by have o_ := ORD6.out; omega))
  have S_12 := Lib.hid (hbb)
  clear ee T_11 L_11 P_11 K_11 S_11 Aa_11 hbb
  generalize (((((w10.setCell ⟨sb, 0, none⟩ (.int .i64 0)).setCell ⟨sb, 1, none⟩ (.int .i64 0)).setCell ⟨sb, 2, none⟩ (.bool false)).setCell ⟨sb, 3, none⟩ (.int .i64 0)).setCell ⟨sb, 4, none⟩ (.int .u64 0)) = w11 at *
  have Sq0 := (S_12.out).cell 0
  have Sq1 := (S_12.out).cell 1
  have Sq2 := (S_12.out).cell 2
  have Sq3 := (S_12.out).cell 3
  have Sq4 := (S_12.out).cell 4
  simp only [List.getElem?_toArray, List.getElem?_cons_succ, List.getElem?_cons_zero] at Sq0 Sq1 Sq2 Sq3 Sq4
  go_wp2_with fail
  refine (At_not oa ba k a ⟨0, false, 0, St.zero, St.zero, 0, m, 0⟩ w11 Aa_12.out (show (0 : Int) ≠ 1 by decide)).mono ?_; rintro e w_ ⟨rfl, rfl⟩
  go_wp2_with fail
  refine (Steps_any oa ba k a ⟨0, false, 0, St.zero, St.zero, 0, m, 0⟩ w11 Aa_12.out).mono ?_; rintro e w_ ⟨rfl, rfl⟩
  go_wp2_with fail
  clear Sq0 Sq1 Sq2 Sq3 Sq4
  have hs1 : aStep k a [0, 0] ⟨0, false, 0, St.zero, St.zero, 0, m, 0⟩ = ⟨3, false, 0, St.zero, St.zero, 10, m, 0⟩ := by unfold aStep; simp only [ne_eq, not_true_eq_false, if_false, if_true, if_neg HIN.out]
  have hs2 : aWs a [0, 0] ⟨0, false, 0, St.zero, St.zero, 0, m, 0⟩ = [0, 0] := by unfold aWs; simp
  have hs3 : aT a [0, 0] ⟨0, false, 0, St.zero, St.zero, 0, m, 0⟩ 0 = 0 := by unfold aT; simp only [if_true]; exact tickF_out HIN.out
  refine (Step_any g rr oa ba [0, 0] 0 k HOK.out m a ⟨0, false, 0, St.zero, St.zero, 0, m, 0⟩ Ia_6.out w11 Aa_12.out K_12.out T_12.out (by have o_ := ORD6.out; omega)).mono ?_; rintro e w12 ⟨rfl, hb, ha, hx⟩
  rw [hs2, hs3] at hb
  rw [hs1] at ha ⊢
  have ee : Ex (fun k => k = g ∨ k = rr ∨ k = oa) w11 w12 := hx
  have T_13 := Lib.hid (T_12.out.ex ee (by have o_ := ORD6.out; omega))
  have L_13 := Lib.hid (L_12.out.ex ee (fun b_ h_ => by have o_ := ORD6.out; have h_ : b_ = g ∨ b_ = rr ∨ b_ = oa := h_; first | omega | (show _ ∨ _; omega)))
  have P_13 := Lib.hid (P_12.out.ex ee (by have o_ := ORD6.out; omega))
  have S_13 := Lib.hid (S_12.out.ex ee (by have o_ := ORD6.out; omega))
  have K_13 := Lib.hid (hb)
  have Aa_13 := Lib.hid (ha)
  clear ee T_12 L_12 P_12 K_12 S_12 Aa_12 hb ha hx hs1 hs2 hs3
  go_wp2_with fail
  have HG := Lib.hid (Got_any oa ba k a ⟨3, false, 0, St.zero, St.zero, 10, m, 0⟩ w12 Aa_13.out)
  unfold St.val at HG
  simp only [AX.zero, St.zero] at HG
  refine (HG.out).mono ?_; rintro e w13 ⟨rfl, hb⟩
  clear HG
  have ee : Ex (fun _ => False) w12 w13 := Ex.of_below hb
  have T_14 := Lib.hid (T_13.out.ex ee (fun h => h))
  have L_14 := Lib.hid (L_13.out.ex ee (fun b_ h_ => h_.elim))
  have P_14 := Lib.hid (P_13.out.ex ee (fun h => h))
  have K_14 := Lib.hid (K_13.out.ex ee (fun h => h) (fun h => h))
  have S_14 := Lib.hid (S_13.out.ex ee (fun h => h))
  have Aa_14 := Lib.hid (Aa_13.out.ex ee (fun h => h) (fun h => h))
  clear ee T_13 L_13 P_13 K_13 S_13 Aa_13 hb
  have Sq0 := (S_14.out).cell 0
  have Sq1 := (S_14.out).cell 1
  have Sq2 := (S_14.out).cell 2
  have Sq3 := (S_14.out).cell 3
  have Sq4 := (S_14.out).cell 4
  simp only [List.getElem?_toArray, List.getElem?_cons_succ, List.getElem?_cons_zero] at Sq0 Sq1 Sq2 Sq3 Sq4
  have Sf0 := (S_14.out).frozen 0
  have Sf1 := (S_14.out).frozen 1
  have Sf2 := (S_14.out).frozen 2
  have Sf3 := (S_14.out).frozen 3
  have Sf4 := (S_14.out).frozen 4
  go_upto_region 28 with fail
  clear Sq0 Sq1 Sq2 Sq3 Sq4 Sf0 Sf1 Sf2 Sf3 Sf4
  have hbb := set5_blk (x0 := .int .i64 0) (x1 := .int .i64 0) (x2 := .bool false) (x3 := .int .i64 0) (x4 := .int .u64 0) S_14.out
  have ee : Ex (fun k => k = sb) w13 (((((w13.setCell ⟨sb, 0, none⟩ (.int .i64 0)).setCell ⟨sb, 1, none⟩ (.int .i64 0)).setCell ⟨sb, 2, none⟩ (.bool false)).setCell ⟨sb, 3, none⟩ (.int .i64 0)).setCell ⟨sb, 4, none⟩ (.int .u64 0)) := ((((((Ex.refl (fun q => q = sb) w13).setCell (q := ⟨sb, 0, none⟩) (.inl rfl) (.int .i64 0)).setCell (q := ⟨sb, 1, none⟩) (.inl rfl) (.int .i64 0)).setCell (q := ⟨sb, 2, none⟩) (.inl rfl) (.bool false)).setCell (q := ⟨sb, 3, none⟩) (.inl rfl) (.int .i64 0)).setCell (q := ⟨sb, 4, none⟩) (.inl rfl) (.int .u64 0))
  have T_15 := Lib.hid (T_14.out.ex ee (by have o_ := ORD6.out; omega))
  have L_15 := Lib.hid (L_14.out.ex ee (fun b_ h_ => by have o_ := ORD6.out; have h_ : b_ = sb := h_; first | omega | (show _ ∨ _; omega)))
  have P_15 := Lib.hid (P_14.out.ex ee (by have o_ := ORD6.out; omega))
  have K_15 := Lib.hid (K_14.out.ex ee (by have o_ := ORD6.out; omega) (by have o_ := ORD6.out; omega))
  have Aa_15 := Lib.hid (Aa_14.out.ex ee (by have o_ := ORD6.out; omega) (by have o_ := ORD6.out; omega))
  have S_15 := Lib.hid (hbb)
  clear ee T_14 L_14 P_14 K_14 S_14 Aa_14 hbb
  generalize (((((w13.setCell ⟨sb, 0, none⟩ (.int .i64 0)).setCell ⟨sb, 1, none⟩ (.int .i64 0)).setCell ⟨sb, 2, none⟩ (.bool false)).setCell ⟨sb, 3, none⟩ (.int .i64 0)).setCell ⟨sb, 4, none⟩ (.int .u64 0)) = w14 at *
  have Sq0 := (S_15.out).cell 0
  have Sq1 := (S_15.out).cell 1
  have Sq2 := (S_15.out).cell 2
  have Sq3 := (S_15.out).cell 3
  have Sq4 := (S_15.out).cell 4
  simp only [List.getElem?_toArray, List.getElem?_cons_succ, List.getElem?_cons_zero] at Sq0 Sq1 Sq2 Sq3 Sq4
  go_wp2_with fail
  have IZ := Lib.hid (show AInv k m ⟨3, false, 0, St.zero, St.zero, 10, m, 0⟩ from by have := HIV.out; exact ⟨this.nn, by simp, fun h => by simp at h, fun h => by simp at h, fun _ => ⟨rfl, fun h => by simp at h⟩, fun h => by simp at h⟩)
  refine (At_not oa ba k a ⟨3, false, 0, St.zero, St.zero, 10, m, 0⟩ w14 Aa_15.out (show (3 : Int) ≠ 1 by decide)).mono ?_; rintro e w_ ⟨rfl, rfl⟩
  go_wp2_with fail
  refine (Steps_any oa ba k a ⟨3, false, 0, St.zero, St.zero, 10, m, 0⟩ w14 Aa_15.out).mono ?_; rintro e w_ ⟨rfl, rfl⟩
  go_wp2_with fail
  have hq := still_step (k := k) (at_ := a) (ws := [0, 0]) (t := 0) (x := ⟨3, false, 0, St.zero, St.zero, 10, m, 0⟩) (by simp)
  refine (Step_any g rr oa ba [0, 0] 0 k HOK.out m a ⟨3, false, 0, St.zero, St.zero, 10, m, 0⟩ IZ.out w14 Aa_15.out K_15.out T_15.out (by have o_ := ORD6.out; omega)).mono ?_; rintro e w15 ⟨rfl, hb, ha, hx⟩
  rw [hq.2.1, hq.2.2] at hb
  rw [hq.1] at ha ⊢
  clear Sq0 Sq1 Sq2 Sq3 Sq4
  have ee : Ex (fun k => k = g ∨ k = rr ∨ k = oa) w14 w15 := hx
  have T_16 := Lib.hid (T_15.out.ex ee (by have o_ := ORD6.out; omega))
  have L_16 := Lib.hid (L_15.out.ex ee (fun b_ h_ => by have o_ := ORD6.out; have h_ : b_ = g ∨ b_ = rr ∨ b_ = oa := h_; first | omega | (show _ ∨ _; omega)))
  have P_16 := Lib.hid (P_15.out.ex ee (by have o_ := ORD6.out; omega))
  have S_16 := Lib.hid (S_15.out.ex ee (by have o_ := ORD6.out; omega))
  have K_16 := Lib.hid (hb)
  have Aa_16 := Lib.hid (ha)
  clear ee T_15 L_15 P_15 K_15 S_15 Aa_15 hb ha hx hq
  go_wp2_with fail
  refine (Touches_any g rr [0, 0] 0 w15 K_16.out).mono ?_; rintro e w_ ⟨rfl, rfl⟩
  go_wp2_with fail
  refine (awake_any w15 T_16.out).mono ?_; rintro e w16 ⟨rfl, hb⟩
  have ee : Ex (fun _ => False) w15 w16 := Ex.of_below hb
  have T_17 := Lib.hid (T_16.out.ex ee (fun h => h))
  have L_17 := Lib.hid (L_16.out.ex ee (fun b_ h_ => h_.elim))
  have P_17 := Lib.hid (P_16.out.ex ee (fun h => h))
  have K_17 := Lib.hid (K_16.out.ex ee (fun h => h) (fun h => h))
  have S_17 := Lib.hid (S_16.out.ex ee (fun h => h))
  have Aa_17 := Lib.hid (Aa_16.out.ex ee (fun h => h) (fun h => h))
  clear ee T_16 L_16 P_16 K_16 S_16 Aa_16 hb
  go_wp2_with fail
  go_ret
  exact ⟨rfl, L_17.out.low.mono HBS.out⟩
theorem ArbiterNil_walk (a : Int) (p : Pl) (hp : p.Ok) (n : Int) (w : World) (ht : Tab w) :
    Calls Tryd.prog 4 #[.int .i64 a, p.val, .int .i64 n] w fun e w' => e = .returned (.bool true) ∧ Below w.heap.size w w' := by
  obtain ⟨kd, so, mo, fr, fl⟩ := p
  show Calls Tryd.prog 4 #[.int .i64 a, .agg #[.int .i64 kd, .int .i64 so, .int .i64 mo, .bool fr, .int .i64 fl], .int .i64 n] w _
  rcases (show n < 1 ∨ (1 ≤ n ∧ n ≤ 16) ∨ 16 < n by omega) with hn | hn | hn
  · by_cases hm : (⟨kd, so, mo, fr, fl⟩ : Pl).May n
    · by_cases a0 : a < 0
      · exact Nl_lo_neg a kd so mo fr fl n w ht hn hm hp a0
      · by_cases a2 : a < 2
        · exact Nl_lo_in a kd so mo fr fl n w ht hn hm hp ⟨by omega, a2⟩
        · exact Nl_lo_big a kd so mo fr fl n w ht hn hm hp (by omega)
    · exact Nl_lo_bad a kd so mo fr fl n w ht hn hm
  · by_cases hm : (⟨kd, so, mo, fr, fl⟩ : Pl).May n
    · by_cases a0 : a < 0
      · exact Nl_in_neg a kd so mo fr fl n w ht hn hm hp a0
      · by_cases a2 : a < 2
        · exact Nl_in_in a kd so mo fr fl n w ht hn hm hp ⟨by omega, a2⟩
        · exact Nl_in_big a kd so mo fr fl n w ht hn hm hp (by omega)
    · exact Nl_in_bad a kd so mo fr fl n w ht hn hm
  · by_cases hm : (⟨kd, so, mo, fr, fl⟩ : Pl).May n
    · by_cases a0 : a < 0
      · exact Nl_hi_neg a kd so mo fr fl n w ht hn hm hp a0
      · by_cases a2 : a < 2
        · exact Nl_hi_in a kd so mo fr fl n w ht hn hm hp ⟨by omega, a2⟩
        · exact Nl_hi_big a kd so mo fr fl n w ht hn hm hp (by omega)
    · exact Nl_hi_bad a kd so mo fr fl n w ht hn hm
end Go.Proofs.YtkmlikohgilnbaaDoor.Arb
