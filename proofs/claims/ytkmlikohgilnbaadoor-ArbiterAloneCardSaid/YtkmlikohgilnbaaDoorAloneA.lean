/-
  Law 15: ArbiterAlone. Printed by wip/tools/mkala.py. Conditions stand at each. By an AI agent.
-/
import Derived.Test.YtkmlikohgilnbaaDoorArbA
import Derived.Test.YtkmlikohgilnbaaDoorArbP
namespace Go.Proofs.YtkmlikohgilnbaaDoor.Arb
set_option linter.unusedVariables false
set_option linter.unusedSimpArgs false
open Go Go.RowKit Go.Proofs.YtkmlikohgilnbaaDoor.Base Go.Proofs.YtkmlikohgilnbaaDoor.Reg
open Go.Proofs.YtkmlikohgilnbaaDoor.Bank (BankAt inW wordF setF tickF errF casB errF_in errF_out wordF_in wordF_out tickF_in tickF_out setF_in setF_out casB_out casB_in wordF_range Load_any CAS_any Load_nil New_in Store_any Peek_any Touches_any zeros)
open Go.Proofs.YtkmlikohgilnbaaDoor.Modes (Tab)
set_option maxRecDepth 100000 in
set_option maxHeartbeats 4000000 in
theorem Al_req_stay (s : St) (hs : s.Ok) (so mo : Int) (fr : Bool) (fl n : Int) (hp : (⟨0, so, mo, fr, fl⟩ : Pl).Ok) (w : World) (ht : Tab w) (h0 : mayE s = 0) (hm : (⟨0, so, mo, fr, fl⟩ : Pl).May n) (hE : (Kd.req ⟨so, mo, fr⟩).E s ≠ 0) :
    Calls Tryd.prog 6 #[s.val, .agg #[.int .i64 0, .int .i64 so, .int .i64 mo, .bool fr, .int .i64 fl], .int .i64 n] w fun e w' => e = .returned (.bool true) ∧ Below w.heap.size w w' := by
  have HS := Lib.hid hs
  have H0 := Lib.hid h0
  have ekd : Pl.kd ⟨0, so, mo, fr, fl⟩ = (.req ⟨so, mo, fr⟩) := rfl
  have ekn : Pl.n ⟨0, so, mo, fr, fl⟩ n = n := rfl
  have hok := Pl.kd_ok hp
  have hiv := Pl.inv hm
  have hbg := fun W hz => begin_in 0 n (⟨0, so, mo, fr, fl⟩ : Pl) W hz hm
  unfold Pl.val at hbg
  simp only [ekd, ekn] at hok hiv hbg
  have HOK := Lib.hid hok
  have HIV := Lib.hid hiv
  have HBG := Lib.hid hbg
  clear ekd ekn hok hiv hbg hm
  have hpk := fun W => Pack_ok s hs h0 W
  unfold St.val at hpk ⊢
  have HPK := Lib.hid hpk
  clear hpk
  have HE := Lib.hid hE
  clear hE
  obtain ⟨S9, hS9⟩ : ∃ S9, (Kd.req ⟨so, mo, fr⟩).S s = S9 := ⟨_, rfl⟩
  have HS9 := Lib.hid hS9
  obtain ⟨E9, hE9⟩ : ∃ E9, (Kd.req ⟨so, mo, fr⟩).E s = E9 := ⟨_, rfl⟩
  have HE9 := Lib.hid hE9
  have HN9 := Lib.hid (show E9 ≠ 0 from hE9 ▸ HE.out)
  have hdc : ∀ W, Tab W → Calls Tryd.prog 25 #[.agg #[.int .i64 s.mode, .int .i64 s.source, .bool s.hold, .int .i64 s.flags, .int .u64 s.epoch], .agg #[.int .i64 so, .int .i64 mo, .bool fr]] W fun e w' => e = .returned (.tuple #[.agg #[.int .i64 S9.mode, .int .i64 S9.source, .bool S9.hold, .int .i64 S9.flags, .int .u64 S9.epoch], .int .i64 E9]) ∧ Below W.heap.size W w' := by
    intro W hT
    have := Decide_any s hs ⟨so, mo, fr⟩ HOK.out W hT
    rw [show decideS s ⟨so, mo, fr⟩ = S9 from hS9, show decideE s ⟨so, mo, fr⟩ = E9 from hE9] at this
    exact this
  have HDC := Lib.hid hdc
  clear hdc hS9 hE9
  clear hs h0 hp
  have hq0 := ((blk_new' w (g := w.heap.size) (by simp) 34 #[.int .i64 s.mode, .int .i64 s.source, .bool s.hold, .int .i64 s.flags, .int .u64 s.epoch]).alloc (.cells #[.int .i64 0, .int .i64 so, .int .i64 mo, .bool fr, .int .i64 fl] 41))
  have hq1 := (blk_new' (w.alloc (.cells #[.int .i64 s.mode, .int .i64 s.source, .bool s.hold, .int .i64 s.flags, .int .u64 s.epoch] 34)) (g := w.heap.size + 1) (by simp) 41 #[.int .i64 0, .int .i64 so, .int .i64 mo, .bool fr, .int .i64 fl])
  have hlo := (((Below.refl w.heap.size w).alloc (by first | exact Nat.le_refl _ | (simp; done) | (simp; omega)) (.cells #[.int .i64 s.mode, .int .i64 s.source, .bool s.hold, .int .i64 s.flags, .int .u64 s.epoch] 34)).alloc (by first | exact Nat.le_refl _ | (simp; done) | (simp; omega)) (.cells #[.int .i64 0, .int .i64 so, .int .i64 mo, .bool fr, .int .i64 fl] 41))
  have hz0 : 0 < w.heap.size := lt_of_cell (ht 0 (by decide))
  have ht1 := ht.below hlo
  go_enter Tryd.func6, Tryd.ntmps6
  go_upto_region 1 with fail
  generalize ((w.alloc (.cells #[.int .i64 s.mode, .int .i64 s.source, .bool s.hold, .int .i64 s.flags, .int .u64 s.epoch] 34)).alloc (.cells #[.int .i64 0, .int .i64 so, .int .i64 mo, .bool fr, .int .i64 fl] 41)) = w1 at *
  obtain ⟨fb, hfb⟩ : ∃ fb, w.heap.size = fb := ⟨_, rfl⟩
  have hlo9 : Lo w.heap.size w w1 := ⟨hlo, hlo.size⟩
  have HBS := Lib.hid (Nat.le_of_eq hfb)
  simp only [hfb] at hlo9 hz0 hq0 hq1 ⊢
  obtain ⟨pb, hfb1⟩ : ∃ pb, fb + 1 = pb := ⟨_, rfl⟩
  simp only [hfb1] at hq1 ⊢
  have ORD0 := Lib.hid (show 0 < fb ∧ fb + 1 = pb from ⟨hz0, hfb1⟩)
  have T0 := Lib.hid ht1
  have L0 := Lib.hid hlo9
  have F0 := Lib.hid hq0
  have P0 := Lib.hid hq1
  clear ht ht1 hlo hlo9 hz0 hfb hfb1 hq0 hq1
  have Fq0 := (F0.out).cell 0
  have Fq1 := (F0.out).cell 1
  have Fq2 := (F0.out).cell 2
  have Fq3 := (F0.out).cell 3
  have Fq4 := (F0.out).cell 4
  simp only [List.getElem?_toArray, List.getElem?_cons_succ, List.getElem?_cons_zero] at Fq0 Fq1 Fq2 Fq3 Fq4
  go_wp2_with fail
  refine (HPK.out w1).mono ?_; rintro e w2 ⟨rfl, hb⟩
  clear Fq0 Fq1 Fq2 Fq3 Fq4
  have ee : Ex (fun _ => False) w1 w2 := Ex.of_below hb
  have T_1 := Lib.hid (T0.out.ex ee (fun h => h))
  have L_1 := Lib.hid (L0.out.ex ee (fun b_ h_ => h_.elim))
  have F_1 := Lib.hid (F0.out.ex ee (fun h => h))
  have P_1 := Lib.hid (P0.out.ex ee (fun h => h))
  clear ee T0 L0 F0 P0 hb
  go_wp2_with fail
  refine (New_in 1 (by decide) (by decide) w2).mono ?_; rintro e w3 ⟨rfl, hb, hl, hsz⟩
  have hb : BankAt w3 (w2.heap.size + 1) w2.heap.size [0] 0 := hb
  obtain ⟨rr, hrr⟩ : ∃ rr, w2.heap.size = rr := ⟨_, rfl⟩
  have hlt : pb < rr := hrr ▸ P_1.out.lt
  simp only [hrr] at hb ⊢
  obtain ⟨g, hg⟩ : ∃ g, rr + 1 = g := ⟨_, rfl⟩
  simp only [hg] at hb ⊢
  have ORD2 := Lib.hid (show 0 < fb ∧ fb + 1 = pb ∧ pb < rr ∧ rr + 1 = g from by have o_ := ORD0.out; omega)
  have ee : Ex (fun _ => False) w2 w3 := Ex.of_below hl
  have T_3 := Lib.hid (T_1.out.ex ee (fun h => h))
  have L_3 := Lib.hid (L_1.out.ex ee (fun b_ h_ => h_.elim))
  have F_3 := Lib.hid (F_1.out.ex ee (fun h => h))
  have P_3 := Lib.hid (P_1.out.ex ee (fun h => h))
  have K_3 := Lib.hid (hb)
  clear ee T_1 L_1 F_1 P_1 hb hl hsz hrr hlt hg ORD0
  have Pq0 := (P_3.out).cell 0
  have Pq1 := (P_3.out).cell 1
  have Pq2 := (P_3.out).cell 2
  have Pq3 := (P_3.out).cell 3
  have Pq4 := (P_3.out).cell 4
  simp only [List.getElem?_toArray, List.getElem?_cons_succ, List.getElem?_cons_zero] at Pq0 Pq1 Pq2 Pq3 Pq4
  go_wp2_with fail
  clear Pq0 Pq1 Pq2 Pq3 Pq4
  refine (HBG.out w3 (Nat.lt_of_le_of_lt (Nat.zero_le _) K_3.out.head.lt)).mono ?_; rintro e w4a ⟨oa, ba, rfl, ha, hs1, hs2, hs3, hs4, hb⟩
  obtain ⟨Ma, hM⟩ : ∃ Ma : Nat, g < Ma ∧ rr < Ma ∧ Ma ≤ oa ∧ (Ma ≤ ba ∨ ba = 0) := ⟨w3.heap.size, K_3.out.head.lt, K_3.out.row.lt, hs1, hs2⟩
  have ORD4 := Lib.hid (show 0 < fb ∧ fb + 1 = pb ∧ pb < rr ∧ rr + 1 = g ∧ g < Ma ∧ rr < Ma ∧ Ma ≤ oa ∧ (Ma ≤ ba ∨ ba = 0) from by have o_ := ORD2.out; omega)
  have Ia_4 := Lib.hid (show AInv (.req ⟨so, mo, fr⟩) n (AX.zero n) from HIV.out)
  have ee : Ex (fun _ => False) w3 w4a := Ex.of_below hb
  have T_5 := Lib.hid (T_3.out.ex ee (fun h => h))
  have L_5 := Lib.hid (L_3.out.ex ee (fun b_ h_ => h_.elim))
  have F_5 := Lib.hid (F_3.out.ex ee (fun h => h))
  have P_5 := Lib.hid (P_3.out.ex ee (fun h => h))
  have K_5 := Lib.hid (K_3.out.ex ee (fun h => h) (fun h => h))
  have Aa_5 := Lib.hid (ha)
  clear ee T_3 L_3 F_3 P_3 K_3 hb hs1 hs2 hs3 hs4 hM ORD2
  go_wp2_with fail
  refine (Store_any g rr [0] 0 0 (wordI s) w4a K_5.out (wordI_range (mayE_zero.1 H0.out).1 HS.out)).mono ?_; rintro e w5 ⟨rfl, hb, hx⟩
  have e1 : errF [0] 0 = 0 := rfl
  have e2 : setF [0] 0 (wordI s) = [wordI s] := set1 _ _
  have e3 : tickF [0] 0 0 = 1 := rfl
  rw [e2, e3] at hb
  rw [e1]
  have ee : Ex (fun k => k = g ∨ k = rr) w4a w5 := Ex.of_ex2 (T := fun k => k = g ∨ k = rr) hx (.inl rfl) (.inr rfl)
  have T_6 := Lib.hid (T_5.out.ex ee (by have o_ := ORD4.out; omega))
  have L_6 := Lib.hid (L_5.out.ex ee (fun b_ h_ => by have o_ := ORD4.out; have h_ : b_ = g ∨ b_ = rr := h_; first | omega | (show _ ∨ _; omega)))
  have F_6 := Lib.hid (F_5.out.ex ee (by have o_ := ORD4.out; omega))
  have P_6 := Lib.hid (P_5.out.ex ee (by have o_ := ORD4.out; omega))
  have Aa_6 := Lib.hid (Aa_5.out.ex ee (by have o_ := ORD4.out; omega) (by have o_ := ORD4.out; omega))
  have K_6 := Lib.hid (hb)
  clear ee T_5 L_5 F_5 P_5 K_5 Aa_5 hb hx e1 e2 e3
  have Fq0 := (F_6.out).cell 0
  have Fq1 := (F_6.out).cell 1
  have Fq2 := (F_6.out).cell 2
  have Fq3 := (F_6.out).cell 3
  have Fq4 := (F_6.out).cell 4
  simp only [List.getElem?_toArray, List.getElem?_cons_succ, List.getElem?_cons_zero] at Fq0 Fq1 Fq2 Fq3 Fq4
  go_upto_region 9 with fail
  clear Fq0 Fq1 Fq2 Fq3 Fq4
  obtain ⟨vb, hsb, hM⟩ : ∃ vb : Nat, w5.heap.size = vb ∧ g < vb ∧ rr < vb ∧ oa < vb ∧ ba < vb := ⟨w5.heap.size, rfl, K_6.out.head.lt, K_6.out.row.lt, Aa_6.out.head.lt, ArbAt.blt Aa_6.out rfl⟩
  have ORD7 := Lib.hid (show 0 < fb ∧ fb + 1 = pb ∧ pb < rr ∧ rr + 1 = g ∧ g < Ma ∧ rr < Ma ∧ Ma ≤ oa ∧ (Ma ≤ ba ∨ ba = 0) ∧ g < vb ∧ rr < vb ∧ oa < vb ∧ ba < vb from by have o_ := ORD4.out; omega)
  have hnb := Blk.new w5 34 #[.int .i64 s.mode, .int .i64 s.source, .bool s.hold, .int .i64 s.flags, .int .u64 s.epoch]
  rw [hsb] at hnb
  simp only [hsb]
  have ee : Ex (fun _ => False) w5 (w5.alloc (.cells #[.int .i64 s.mode, .int .i64 s.source, .bool s.hold, .int .i64 s.flags, .int .u64 s.epoch] 34)) := (Ex.refl (fun _ => False) w5).alloc (.cells #[.int .i64 s.mode, .int .i64 s.source, .bool s.hold, .int .i64 s.flags, .int .u64 s.epoch] 34)
  have T_8 := Lib.hid (T_6.out.ex ee (fun h => h))
  have L_8 := Lib.hid (L_6.out.ex ee (fun b_ h_ => h_.elim))
  have F_8 := Lib.hid (F_6.out.ex ee (fun h => h))
  have P_8 := Lib.hid (P_6.out.ex ee (fun h => h))
  have K_8 := Lib.hid (K_6.out.ex ee (fun h => h) (fun h => h))
  have Aa_8 := Lib.hid (Aa_6.out.ex ee (fun h => h) (fun h => h))
  have V_8 := Lib.hid (hnb)
  clear ee T_6 L_6 F_6 P_6 K_6 Aa_6 hnb hM ORD4
  generalize w5.alloc (.cells #[.int .i64 s.mode, .int .i64 s.source, .bool s.hold, .int .i64 s.flags, .int .u64 s.epoch] 34) = w6 at *
  clear hsb
  have Pq0 := (P_8.out).cell 0
  have Pq1 := (P_8.out).cell 1
  have Pq2 := (P_8.out).cell 2
  have Pq3 := (P_8.out).cell 3
  have Pq4 := (P_8.out).cell 4
  simp only [List.getElem?_toArray, List.getElem?_cons_succ, List.getElem?_cons_zero] at Pq0 Pq1 Pq2 Pq3 Pq4
  have Fq0 := (F_8.out).cell 0
  have Fq1 := (F_8.out).cell 1
  have Fq2 := (F_8.out).cell 2
  have Fq3 := (F_8.out).cell 3
  have Fq4 := (F_8.out).cell 4
  simp only [List.getElem?_toArray, List.getElem?_cons_succ, List.getElem?_cons_zero] at Fq0 Fq1 Fq2 Fq3 Fq4
  go_wp2_with fail
  refine (HDC.out w6 T_8.out).mono ?_; rintro e w7 ⟨rfl, hb⟩
  clear Pq0 Pq1 Pq2 Pq3 Pq4 Fq0 Fq1 Fq2 Fq3 Fq4
  have ee : Ex (fun _ => False) w6 w7 := Ex.of_below hb
  have T_9 := Lib.hid (T_8.out.ex ee (fun h => h))
  have L_9 := Lib.hid (L_8.out.ex ee (fun b_ h_ => h_.elim))
  have F_9 := Lib.hid (F_8.out.ex ee (fun h => h))
  have P_9 := Lib.hid (P_8.out.ex ee (fun h => h))
  have K_9 := Lib.hid (K_8.out.ex ee (fun h => h) (fun h => h))
  have Aa_9 := Lib.hid (Aa_8.out.ex ee (fun h => h) (fun h => h))
  have V_9 := Lib.hid (V_8.out.ex ee (fun h => h))
  clear ee T_8 L_8 F_8 P_8 K_8 Aa_8 V_8 hb
  have Vq0 := (V_9.out).cell 0
  have Vq1 := (V_9.out).cell 1
  have Vq2 := (V_9.out).cell 2
  have Vq3 := (V_9.out).cell 3
  have Vq4 := (V_9.out).cell 4
  simp only [List.getElem?_toArray, List.getElem?_cons_succ, List.getElem?_cons_zero] at Vq0 Vq1 Vq2 Vq3 Vq4
  have Vf0 := (V_9.out).frozen 0
  have Vf1 := (V_9.out).frozen 1
  have Vf2 := (V_9.out).frozen 2
  have Vf3 := (V_9.out).frozen 3
  have Vf4 := (V_9.out).frozen 4
  have Pq0 := (P_9.out).cell 0
  have Pq1 := (P_9.out).cell 1
  have Pq2 := (P_9.out).cell 2
  have Pq3 := (P_9.out).cell 3
  have Pq4 := (P_9.out).cell 4
  simp only [List.getElem?_toArray, List.getElem?_cons_succ, List.getElem?_cons_zero] at Pq0 Pq1 Pq2 Pq3 Pq4
  go_upto_region 13 with fail
  clear Vq0 Vq1 Vq2 Vq3 Vq4 Vf0 Vf1 Vf2 Vf3 Vf4 Pq0 Pq1 Pq2 Pq3 Pq4
  have hbb := set5_blk (x0 := .int .i64 S9.mode) (x1 := .int .i64 S9.source) (x2 := .bool S9.hold) (x3 := .int .i64 S9.flags) (x4 := .int .u64 S9.epoch) V_9.out
  have ee : Ex (fun k => k = vb) w7 (((((w7.setCell ⟨vb, 0, none⟩ (.int .i64 S9.mode)).setCell ⟨vb, 1, none⟩ (.int .i64 S9.source)).setCell ⟨vb, 2, none⟩ (.bool S9.hold)).setCell ⟨vb, 3, none⟩ (.int .i64 S9.flags)).setCell ⟨vb, 4, none⟩ (.int .u64 S9.epoch)) := ((((((Ex.refl (fun q => q = vb) w7).setCell (q := ⟨vb, 0, none⟩) (.inl rfl) (.int .i64 S9.mode)).setCell (q := ⟨vb, 1, none⟩) (.inl rfl) (.int .i64 S9.source)).setCell (q := ⟨vb, 2, none⟩) (.inl rfl) (.bool S9.hold)).setCell (q := ⟨vb, 3, none⟩) (.inl rfl) (.int .i64 S9.flags)).setCell (q := ⟨vb, 4, none⟩) (.inl rfl) (.int .u64 S9.epoch))
  have T_10 := Lib.hid (T_9.out.ex ee (by have o_ := ORD7.out; omega))
  have L_10 := Lib.hid (L_9.out.ex ee (fun b_ h_ => by have o_ := ORD7.out; have h_ : b_ = vb := h_; first | omega | (show _ ∨ _; omega)))
  have F_10 := Lib.hid (F_9.out.ex ee (by have o_ := ORD7.out; omega))
  have P_10 := Lib.hid (P_9.out.ex ee (by have o_ := ORD7.out; omega))
  have K_10 := Lib.hid (K_9.out.ex ee (by have o_ := ORD7.out; omega) (by have o_ := ORD7.out; omega))
  have Aa_10 := Lib.hid (Aa_9.out.ex ee (by have o_ := ORD7.out; omega) (by have o_ := ORD7.out; omega))
  have V_10 := Lib.hid (hbb)
  clear ee T_9 L_9 F_9 P_9 K_9 Aa_9 V_9 hbb
  generalize (((((w7.setCell ⟨vb, 0, none⟩ (.int .i64 S9.mode)).setCell ⟨vb, 1, none⟩ (.int .i64 S9.source)).setCell ⟨vb, 2, none⟩ (.bool S9.hold)).setCell ⟨vb, 3, none⟩ (.int .i64 S9.flags)).setCell ⟨vb, 4, none⟩ (.int .u64 S9.epoch)) = w8 at *
  have k9 : (E9 != 0) = true := by have := HN9.out; simpa using this
  have Pq0 := (P_10.out).cell 0
  have Pq1 := (P_10.out).cell 1
  have Pq2 := (P_10.out).cell 2
  have Pq3 := (P_10.out).cell 3
  have Pq4 := (P_10.out).cell 4
  simp only [List.getElem?_toArray, List.getElem?_cons_succ, List.getElem?_cons_zero] at Pq0 Pq1 Pq2 Pq3 Pq4
  go_upto_region 15 with fail
  clear Pq0 Pq1 Pq2 Pq3 Pq4
  have Vq0 := (V_10.out).cell 0
  have Vq1 := (V_10.out).cell 1
  have Vq2 := (V_10.out).cell 2
  have Vq3 := (V_10.out).cell 3
  have Vq4 := (V_10.out).cell 4
  simp only [List.getElem?_toArray, List.getElem?_cons_succ, List.getElem?_cons_zero] at Vq0 Vq1 Vq2 Vq3 Vq4
  have Vf0 := (V_10.out).frozen 0
  have Vf1 := (V_10.out).frozen 1
  have Vf2 := (V_10.out).frozen 2
  have Vf3 := (V_10.out).frozen 3
  have Vf4 := (V_10.out).frozen 4
  have Fq0 := (F_10.out).cell 0
  have Fq1 := (F_10.out).cell 1
  have Fq2 := (F_10.out).cell 2
  have Fq3 := (F_10.out).cell 3
  have Fq4 := (F_10.out).cell 4
  simp only [List.getElem?_toArray, List.getElem?_cons_succ, List.getElem?_cons_zero] at Fq0 Fq1 Fq2 Fq3 Fq4
  go_upto_region 17 with fail
  clear Vq0 Vq1 Vq2 Vq3 Vq4 Vf0 Vf1 Vf2 Vf3 Vf4 Fq0 Fq1 Fq2 Fq3 Fq4
  have hbb := set5_blk (x0 := .int .i64 s.mode) (x1 := .int .i64 s.source) (x2 := .bool s.hold) (x3 := .int .i64 s.flags) (x4 := .int .u64 s.epoch) V_10.out
  have ee : Ex (fun k => k = vb) w8 (((((w8.setCell ⟨vb, 0, none⟩ (.int .i64 s.mode)).setCell ⟨vb, 1, none⟩ (.int .i64 s.source)).setCell ⟨vb, 2, none⟩ (.bool s.hold)).setCell ⟨vb, 3, none⟩ (.int .i64 s.flags)).setCell ⟨vb, 4, none⟩ (.int .u64 s.epoch)) := ((((((Ex.refl (fun q => q = vb) w8).setCell (q := ⟨vb, 0, none⟩) (.inl rfl) (.int .i64 s.mode)).setCell (q := ⟨vb, 1, none⟩) (.inl rfl) (.int .i64 s.source)).setCell (q := ⟨vb, 2, none⟩) (.inl rfl) (.bool s.hold)).setCell (q := ⟨vb, 3, none⟩) (.inl rfl) (.int .i64 s.flags)).setCell (q := ⟨vb, 4, none⟩) (.inl rfl) (.int .u64 s.epoch))
  have T_11 := Lib.hid (T_10.out.ex ee (by have o_ := ORD7.out; omega))
  have L_11 := Lib.hid (L_10.out.ex ee (fun b_ h_ => by have o_ := ORD7.out; have h_ : b_ = vb := h_; first | omega | (show _ ∨ _; omega)))
  have F_11 := Lib.hid (F_10.out.ex ee (by have o_ := ORD7.out; omega))
  have P_11 := Lib.hid (P_10.out.ex ee (by have o_ := ORD7.out; omega))
  have K_11 := Lib.hid (K_10.out.ex ee (by have o_ := ORD7.out; omega) (by have o_ := ORD7.out; omega))
  have Aa_11 := Lib.hid (Aa_10.out.ex ee (by have o_ := ORD7.out; omega) (by have o_ := ORD7.out; omega))
  have V_11 := Lib.hid (hbb)
  clear ee T_10 L_10 F_10 P_10 K_10 Aa_10 V_10 hbb
  generalize (((((w8.setCell ⟨vb, 0, none⟩ (.int .i64 s.mode)).setCell ⟨vb, 1, none⟩ (.int .i64 s.source)).setCell ⟨vb, 2, none⟩ (.bool s.hold)).setCell ⟨vb, 3, none⟩ (.int .i64 s.flags)).setCell ⟨vb, 4, none⟩ (.int .u64 s.epoch)) = w9 at *
  have Pq0 := (P_11.out).cell 0
  have Pq1 := (P_11.out).cell 1
  have Pq2 := (P_11.out).cell 2
  have Pq3 := (P_11.out).cell 3
  have Pq4 := (P_11.out).cell 4
  simp only [List.getElem?_toArray, List.getElem?_cons_succ, List.getElem?_cons_zero] at Pq0 Pq1 Pq2 Pq3 Pq4
  go_wp2_with fail
  clear Pq0 Pq1 Pq2 Pq3 Pq4
  refine (run_any g rr oa ba [wordI s] 1 (.req ⟨so, mo, fr⟩) HOK.out n 0 (AX.zero n) Ia_4.out w9 rfl Aa_11.out K_11.out T_11.out (by have o_ := ORD7.out; omega)).mono ?_; rintro e w12r ⟨rfl, hb, ha, _, hx⟩
  have e1 : aRun (.req ⟨so, mo, fr⟩) 0 40 ((AX.zero n), [wordI s], 1) = (⟨1, false, 0, St.zero, s, E9, n, 1⟩, [wordI s], 2) := by rw [← HE9.out]; exact alone_stay HS.out H0.out (by decide) (.inr HE.out)
  rw [e1] at hb ha ⊢
  simp only at hb ha ⊢
  have ee : Ex (fun k => k = g ∨ k = rr ∨ k = oa) w9 w12r := hx
  have T_13 := Lib.hid (T_11.out.ex ee (by have o_ := ORD7.out; omega))
  have L_13 := Lib.hid (L_11.out.ex ee (fun b_ h_ => by have o_ := ORD7.out; have h_ : b_ = g ∨ b_ = rr ∨ b_ = oa := h_; first | omega | (show _ ∨ _; omega)))
  have F_13 := Lib.hid (F_11.out.ex ee (by have o_ := ORD7.out; omega))
  have P_13 := Lib.hid (P_11.out.ex ee (by have o_ := ORD7.out; omega))
  have V_13 := Lib.hid (V_11.out.ex ee (by have o_ := ORD7.out; omega))
  have K_13 := Lib.hid (hb)
  have Aa_13 := Lib.hid (ha)
  clear ee T_11 L_11 F_11 P_11 K_11 Aa_11 V_11 hb ha hx e1
  go_wp2_with fail
  have HG := Lib.hid (Got_any oa ba (.req ⟨so, mo, fr⟩) 0 ⟨1, false, 0, St.zero, s, E9, n, 1⟩ w12r Aa_13.out)
  unfold St.val at HG
  simp only at HG
  refine (HG.out).mono ?_; rintro e w10 ⟨rfl, hb⟩
  clear HG
  have ee : Ex (fun _ => False) w12r w10 := Ex.of_below hb
  have T_14 := Lib.hid (T_13.out.ex ee (fun h => h))
  have L_14 := Lib.hid (L_13.out.ex ee (fun b_ h_ => h_.elim))
  have F_14 := Lib.hid (F_13.out.ex ee (fun h => h))
  have P_14 := Lib.hid (P_13.out.ex ee (fun h => h))
  have K_14 := Lib.hid (K_13.out.ex ee (fun h => h) (fun h => h))
  have Aa_14 := Lib.hid (Aa_13.out.ex ee (fun h => h) (fun h => h))
  have V_14 := Lib.hid (V_13.out.ex ee (fun h => h))
  clear ee T_13 L_13 F_13 P_13 K_13 Aa_13 V_13 hb
  go_wp2_with fail
  obtain ⟨sb, hsb, hM⟩ : ∃ sb : Nat, w10.heap.size = sb ∧ g < sb ∧ rr < sb ∧ oa < sb ∧ ba < sb ∧ vb < sb := ⟨w10.heap.size, rfl, K_14.out.head.lt, K_14.out.row.lt, Aa_14.out.head.lt, ArbAt.blt Aa_14.out rfl, V_14.out.lt⟩
  have ORD15 := Lib.hid (show 0 < fb ∧ fb + 1 = pb ∧ pb < rr ∧ rr + 1 = g ∧ g < Ma ∧ rr < Ma ∧ Ma ≤ oa ∧ (Ma ≤ ba ∨ ba = 0) ∧ g < vb ∧ rr < vb ∧ oa < vb ∧ ba < vb ∧ g < sb ∧ rr < sb ∧ oa < sb ∧ ba < sb ∧ vb < sb from by have o_ := ORD7.out; omega)
  have hnb := Blk.new w10 34 #[.int .i64 s.mode, .int .i64 s.source, .bool s.hold, .int .i64 s.flags, .int .u64 s.epoch]
  rw [hsb] at hnb
  simp only [hsb]
  have ee : Ex (fun _ => False) w10 (w10.alloc (.cells #[.int .i64 s.mode, .int .i64 s.source, .bool s.hold, .int .i64 s.flags, .int .u64 s.epoch] 34)) := (Ex.refl (fun _ => False) w10).alloc (.cells #[.int .i64 s.mode, .int .i64 s.source, .bool s.hold, .int .i64 s.flags, .int .u64 s.epoch] 34)
  have T_16 := Lib.hid (T_14.out.ex ee (fun h => h))
  have L_16 := Lib.hid (L_14.out.ex ee (fun b_ h_ => h_.elim))
  have F_16 := Lib.hid (F_14.out.ex ee (fun h => h))
  have P_16 := Lib.hid (P_14.out.ex ee (fun h => h))
  have K_16 := Lib.hid (K_14.out.ex ee (fun h => h) (fun h => h))
  have Aa_16 := Lib.hid (Aa_14.out.ex ee (fun h => h) (fun h => h))
  have V_16 := Lib.hid (V_14.out.ex ee (fun h => h))
  have S_16 := Lib.hid (hnb)
  clear ee T_14 L_14 F_14 P_14 K_14 Aa_14 V_14 hnb hM ORD7
  generalize w10.alloc (.cells #[.int .i64 s.mode, .int .i64 s.source, .bool s.hold, .int .i64 s.flags, .int .u64 s.epoch] 34) = w11 at *
  clear hsb
  go_wp2_with fail
  refine (Peek_any g rr [wordI s] 2 0 w11 K_16.out).mono ?_; rintro e w12 ⟨rfl, hb⟩
  rw [show wordF [wordI s] 0 = wordI s from word1 _]
  have ee : Ex (fun _ => False) w11 w12 := Ex.of_below hb
  have T_17 := Lib.hid (T_16.out.ex ee (fun h => h))
  have L_17 := Lib.hid (L_16.out.ex ee (fun b_ h_ => h_.elim))
  have F_17 := Lib.hid (F_16.out.ex ee (fun h => h))
  have P_17 := Lib.hid (P_16.out.ex ee (fun h => h))
  have K_17 := Lib.hid (K_16.out.ex ee (fun h => h) (fun h => h))
  have Aa_17 := Lib.hid (Aa_16.out.ex ee (fun h => h) (fun h => h))
  have V_17 := Lib.hid (V_16.out.ex ee (fun h => h))
  have S_17 := Lib.hid (S_16.out.ex ee (fun h => h))
  clear ee T_16 L_16 F_16 P_16 K_16 Aa_16 V_16 S_16 hb
  go_wp2_with fail
  have hun := fun W => Unpack_any (wordI s) (wordI_range (mayE_zero.1 H0.out).1 HS.out) W
  simp only [(un_word HS.out H0.out).1, (un_word HS.out H0.out).2] at hun
  unfold St.val at hun
  have HUN := Lib.hid hun
  clear hun
  refine (HUN.out w12).mono ?_; rintro e w13 ⟨rfl, hb⟩
  clear HUN
  have ee : Ex (fun _ => False) w12 w13 := Ex.of_below hb
  have T_18 := Lib.hid (T_17.out.ex ee (fun h => h))
  have L_18 := Lib.hid (L_17.out.ex ee (fun b_ h_ => h_.elim))
  have F_18 := Lib.hid (F_17.out.ex ee (fun h => h))
  have P_18 := Lib.hid (P_17.out.ex ee (fun h => h))
  have K_18 := Lib.hid (K_17.out.ex ee (fun h => h) (fun h => h))
  have Aa_18 := Lib.hid (Aa_17.out.ex ee (fun h => h) (fun h => h))
  have V_18 := Lib.hid (V_17.out.ex ee (fun h => h))
  have S_18 := Lib.hid (S_17.out.ex ee (fun h => h))
  clear ee T_17 L_17 F_17 P_17 K_17 Aa_17 V_17 S_17 hb
  go_upto_region 22 with fail
  obtain ⟨mb, hsb, hM⟩ : ∃ mb : Nat, w13.heap.size = mb ∧ g < mb ∧ rr < mb ∧ oa < mb ∧ ba < mb ∧ vb < mb ∧ sb < mb := ⟨w13.heap.size, rfl, K_18.out.head.lt, K_18.out.row.lt, Aa_18.out.head.lt, ArbAt.blt Aa_18.out rfl, V_18.out.lt, S_18.out.lt⟩
  have ORD19 := Lib.hid (show 0 < fb ∧ fb + 1 = pb ∧ pb < rr ∧ rr + 1 = g ∧ g < Ma ∧ rr < Ma ∧ Ma ≤ oa ∧ (Ma ≤ ba ∨ ba = 0) ∧ g < vb ∧ rr < vb ∧ oa < vb ∧ ba < vb ∧ g < sb ∧ rr < sb ∧ oa < sb ∧ ba < sb ∧ vb < sb ∧ g < mb ∧ rr < mb ∧ oa < mb ∧ ba < mb ∧ vb < mb ∧ sb < mb from by have o_ := ORD15.out; omega)
  have hnb := Blk.new w13 34 #[.int .i64 s.mode, .int .i64 s.source, .bool s.hold, .int .i64 s.flags, .int .u64 s.epoch]
  rw [hsb] at hnb
  simp only [hsb]
  have ee : Ex (fun _ => False) w13 (w13.alloc (.cells #[.int .i64 s.mode, .int .i64 s.source, .bool s.hold, .int .i64 s.flags, .int .u64 s.epoch] 34)) := (Ex.refl (fun _ => False) w13).alloc (.cells #[.int .i64 s.mode, .int .i64 s.source, .bool s.hold, .int .i64 s.flags, .int .u64 s.epoch] 34)
  have T_20 := Lib.hid (T_18.out.ex ee (fun h => h))
  have L_20 := Lib.hid (L_18.out.ex ee (fun b_ h_ => h_.elim))
  have F_20 := Lib.hid (F_18.out.ex ee (fun h => h))
  have P_20 := Lib.hid (P_18.out.ex ee (fun h => h))
  have K_20 := Lib.hid (K_18.out.ex ee (fun h => h) (fun h => h))
  have Aa_20 := Lib.hid (Aa_18.out.ex ee (fun h => h) (fun h => h))
  have V_20 := Lib.hid (V_18.out.ex ee (fun h => h))
  have S_20 := Lib.hid (S_18.out.ex ee (fun h => h))
  have M_20 := Lib.hid (hnb)
  clear ee T_18 L_18 F_18 P_18 K_18 Aa_18 V_18 S_18 hnb hM ORD15
  generalize w13.alloc (.cells #[.int .i64 s.mode, .int .i64 s.source, .bool s.hold, .int .i64 s.flags, .int .u64 s.epoch] 34) = w14 at *
  clear hsb
  have eq0 : (s.mode == s.mode) = true := by simp
  have eq1 : (s.source == s.source) = true := by simp
  have eq2 : (s.hold == s.hold) = true := by simp
  have eq3 : (s.flags == s.flags) = true := by simp
  have eq4 : (s.epoch == s.epoch) = true := by simp
  have eqe : (E9 == E9) = true := by simp
  have Sq0 := (S_20.out).cell 0
  have Sq1 := (S_20.out).cell 1
  have Sq2 := (S_20.out).cell 2
  have Sq3 := (S_20.out).cell 3
  have Sq4 := (S_20.out).cell 4
  simp only [List.getElem?_toArray, List.getElem?_cons_succ, List.getElem?_cons_zero] at Sq0 Sq1 Sq2 Sq3 Sq4
  have Vq0 := (V_20.out).cell 0
  have Vq1 := (V_20.out).cell 1
  have Vq2 := (V_20.out).cell 2
  have Vq3 := (V_20.out).cell 3
  have Vq4 := (V_20.out).cell 4
  simp only [List.getElem?_toArray, List.getElem?_cons_succ, List.getElem?_cons_zero] at Vq0 Vq1 Vq2 Vq3 Vq4
  have Mq0 := (M_20.out).cell 0
  have Mq1 := (M_20.out).cell 1
  have Mq2 := (M_20.out).cell 2
  have Mq3 := (M_20.out).cell 3
  have Mq4 := (M_20.out).cell 4
  simp only [List.getElem?_toArray, List.getElem?_cons_succ, List.getElem?_cons_zero] at Mq0 Mq1 Mq2 Mq3 Mq4
  go_wp2_with fail
  refine (Steps_any oa ba (.req ⟨so, mo, fr⟩) 0 ⟨1, false, 0, St.zero, s, E9, n, 1⟩ w14 Aa_20.out).mono ?_; rintro e w_ ⟨rfl, rfl⟩
  go_wp2_with fail
  refine (At_done oa ba (.req ⟨so, mo, fr⟩) 0 ⟨1, false, 0, St.zero, s, E9, n, 1⟩ w14 Aa_20.out rfl).mono ?_; rintro e w_ ⟨rfl, rfl⟩
  go_wp2_with fail
  refine (Touches_any g rr [wordI s] 2 w14 K_20.out).mono ?_; rintro e w_ ⟨rfl, rfl⟩
  go_wp2_with fail
  have IZ := Lib.hid (show AInv (.req ⟨so, mo, fr⟩) n ⟨1, false, 0, St.zero, s, E9, n, 1⟩ from by have := HIV.out; exact ⟨this.nn, by simp, fun h => by simp at h, fun h => by simp at h, fun _ => ⟨rfl, fun h => by simp at h⟩, fun h => by simp at h⟩)
  clear Sq0 Sq1 Sq2 Sq3 Sq4 Vq0 Vq1 Vq2 Vq3 Vq4 Mq0 Mq1 Mq2 Mq3 Mq4
  refine (Step_any g rr oa ba [wordI s] 2 (.req ⟨so, mo, fr⟩) HOK.out n 0 ⟨1, false, 0, St.zero, s, E9, n, 1⟩ IZ.out w14 Aa_20.out K_20.out T_20.out (by have o_ := ORD19.out; omega)).mono ?_; rintro e w21s ⟨rfl, hb, ha, hx⟩
  have e1 : aStep (.req ⟨so, mo, fr⟩) 0 [wordI s] ⟨1, false, 0, St.zero, s, E9, n, 1⟩ = ⟨1, false, 0, St.zero, s, E9, n, 1⟩ := by first | exact (still_step (k := (.req ⟨so, mo, fr⟩)) (at_ := 0) (ws := [wordI s]) (t := 2) (x := ⟨1, false, 0, St.zero, s, E9, n, 1⟩) (show (1 : Int) ≠ 0 by decide)).1 | exact (still_step (k := (.req ⟨so, mo, fr⟩)) (at_ := 0) (ws := [wordI s]) (t := 2) (x := ⟨1, false, 0, St.zero, s, E9, n, 1⟩) (show (1 : Int) ≠ 0 by decide)).2.1 | exact (still_step (k := (.req ⟨so, mo, fr⟩)) (at_ := 0) (ws := [wordI s]) (t := 2) (x := ⟨1, false, 0, St.zero, s, E9, n, 1⟩) (show (1 : Int) ≠ 0 by decide)).2.2
  have e2 : aWs 0 [wordI s] ⟨1, false, 0, St.zero, s, E9, n, 1⟩ = [wordI s] := by first | exact (still_step (k := (.req ⟨so, mo, fr⟩)) (at_ := 0) (ws := [wordI s]) (t := 2) (x := ⟨1, false, 0, St.zero, s, E9, n, 1⟩) (show (1 : Int) ≠ 0 by decide)).1 | exact (still_step (k := (.req ⟨so, mo, fr⟩)) (at_ := 0) (ws := [wordI s]) (t := 2) (x := ⟨1, false, 0, St.zero, s, E9, n, 1⟩) (show (1 : Int) ≠ 0 by decide)).2.1 | exact (still_step (k := (.req ⟨so, mo, fr⟩)) (at_ := 0) (ws := [wordI s]) (t := 2) (x := ⟨1, false, 0, St.zero, s, E9, n, 1⟩) (show (1 : Int) ≠ 0 by decide)).2.2
  have e3 : aT 0 [wordI s] ⟨1, false, 0, St.zero, s, E9, n, 1⟩ 2 = 2 := by first | exact (still_step (k := (.req ⟨so, mo, fr⟩)) (at_ := 0) (ws := [wordI s]) (t := 2) (x := ⟨1, false, 0, St.zero, s, E9, n, 1⟩) (show (1 : Int) ≠ 0 by decide)).1 | exact (still_step (k := (.req ⟨so, mo, fr⟩)) (at_ := 0) (ws := [wordI s]) (t := 2) (x := ⟨1, false, 0, St.zero, s, E9, n, 1⟩) (show (1 : Int) ≠ 0 by decide)).2.1 | exact (still_step (k := (.req ⟨so, mo, fr⟩)) (at_ := 0) (ws := [wordI s]) (t := 2) (x := ⟨1, false, 0, St.zero, s, E9, n, 1⟩) (show (1 : Int) ≠ 0 by decide)).2.2
  have Ia_21 := Lib.hid (e1 ▸ IZ.out.step (at_ := 0) (wordF_range K_20.out 0))
  rw [e2, e3] at hb
  rw [e1] at ha ⊢
  have ee : Ex (fun k => k = g ∨ k = rr ∨ k = oa) w14 w21s := hx
  have T_22 := Lib.hid (T_20.out.ex ee (by have o_ := ORD19.out; omega))
  have L_22 := Lib.hid (L_20.out.ex ee (fun b_ h_ => by have o_ := ORD19.out; have h_ : b_ = g ∨ b_ = rr ∨ b_ = oa := h_; first | omega | (show _ ∨ _; omega)))
  have F_22 := Lib.hid (F_20.out.ex ee (by have o_ := ORD19.out; omega))
  have P_22 := Lib.hid (P_20.out.ex ee (by have o_ := ORD19.out; omega))
  have V_22 := Lib.hid (V_20.out.ex ee (by have o_ := ORD19.out; omega))
  have S_22 := Lib.hid (S_20.out.ex ee (by have o_ := ORD19.out; omega))
  have M_22 := Lib.hid (M_20.out.ex ee (by have o_ := ORD19.out; omega))
  have K_22 := Lib.hid (hb)
  have Aa_22 := Lib.hid (ha)
  clear ee T_20 L_20 F_20 P_20 K_20 Aa_20 V_20 S_20 M_20 hb ha hx e1 e2 e3 IZ
  go_wp2_with fail
  refine (Touches_any g rr [wordI s] 2 w21s K_22.out).mono ?_; rintro e w_ ⟨rfl, rfl⟩
  go_wp2_with fail
  refine (awake_any w21s T_22.out).mono ?_; rintro e w15 ⟨rfl, hb⟩
  have ee : Ex (fun _ => False) w21s w15 := Ex.of_below hb
  have T_23 := Lib.hid (T_22.out.ex ee (fun h => h))
  have L_23 := Lib.hid (L_22.out.ex ee (fun b_ h_ => h_.elim))
  have F_23 := Lib.hid (F_22.out.ex ee (fun h => h))
  have P_23 := Lib.hid (P_22.out.ex ee (fun h => h))
  have K_23 := Lib.hid (K_22.out.ex ee (fun h => h) (fun h => h))
  have Aa_23 := Lib.hid (Aa_22.out.ex ee (fun h => h) (fun h => h))
  have V_23 := Lib.hid (V_22.out.ex ee (fun h => h))
  have S_23 := Lib.hid (S_22.out.ex ee (fun h => h))
  have M_23 := Lib.hid (M_22.out.ex ee (fun h => h))
  clear ee T_22 L_22 F_22 P_22 K_22 Aa_22 V_22 S_22 M_22 hb
  go_wp2_with fail
  go_ret
  exact ⟨rfl, L_23.out.low.mono HBS.out⟩
set_option maxRecDepth 100000 in
set_option maxHeartbeats 4000000 in
theorem Al_req_turn (s : St) (hs : s.Ok) (so mo : Int) (fr : Bool) (fl n : Int) (hp : (⟨0, so, mo, fr, fl⟩ : Pl).Ok) (w : World) (ht : Tab w) (h0 : mayE s = 0) (hm : (⟨0, so, mo, fr, fl⟩ : Pl).May n) (hE : (Kd.req ⟨so, mo, fr⟩).E s = 0) :
    Calls Tryd.prog 6 #[s.val, .agg #[.int .i64 0, .int .i64 so, .int .i64 mo, .bool fr, .int .i64 fl], .int .i64 n] w fun e w' => e = .returned (.bool true) ∧ Below w.heap.size w w' := by
  have HS := Lib.hid hs
  have H0 := Lib.hid h0
  have ekd : Pl.kd ⟨0, so, mo, fr, fl⟩ = (.req ⟨so, mo, fr⟩) := rfl
  have ekn : Pl.n ⟨0, so, mo, fr, fl⟩ n = n := rfl
  have hok := Pl.kd_ok hp
  have hiv := Pl.inv hm
  have hbg := fun W hz => begin_in 0 n (⟨0, so, mo, fr, fl⟩ : Pl) W hz hm
  unfold Pl.val at hbg
  simp only [ekd, ekn] at hok hiv hbg
  have HOK := Lib.hid hok
  have HIV := Lib.hid hiv
  have HBG := Lib.hid hbg
  clear ekd ekn hok hiv hbg hm
  have hpk := fun W => Pack_ok s hs h0 W
  unfold St.val at hpk ⊢
  have HPK := Lib.hid hpk
  clear hpk
  have HE := Lib.hid hE
  clear hE
  obtain ⟨S9, hS9⟩ : ∃ S9, (Kd.req ⟨so, mo, fr⟩).S s = S9 := ⟨_, rfl⟩
  have HS9 := Lib.hid hS9
  have HN9 := Lib.hid (after_ok rfl HOK.out hs h0 HE.out)
  rw [hS9] at HN9
  have hdc : ∀ W, Tab W → Calls Tryd.prog 25 #[.agg #[.int .i64 s.mode, .int .i64 s.source, .bool s.hold, .int .i64 s.flags, .int .u64 s.epoch], .agg #[.int .i64 so, .int .i64 mo, .bool fr]] W fun e w' => e = .returned (.tuple #[.agg #[.int .i64 S9.mode, .int .i64 S9.source, .bool S9.hold, .int .i64 S9.flags, .int .u64 S9.epoch], .int .i64 0]) ∧ Below W.heap.size W w' := by
    intro W hT
    have := Decide_any s hs ⟨so, mo, fr⟩ HOK.out W hT
    rw [show decideS s ⟨so, mo, fr⟩ = S9 from hS9, show decideE s ⟨so, mo, fr⟩ = 0 from HE.out] at this
    exact this
  have HDC := Lib.hid hdc
  clear hdc hS9
  clear hs h0 hp
  have hq0 := ((blk_new' w (g := w.heap.size) (by simp) 34 #[.int .i64 s.mode, .int .i64 s.source, .bool s.hold, .int .i64 s.flags, .int .u64 s.epoch]).alloc (.cells #[.int .i64 0, .int .i64 so, .int .i64 mo, .bool fr, .int .i64 fl] 41))
  have hq1 := (blk_new' (w.alloc (.cells #[.int .i64 s.mode, .int .i64 s.source, .bool s.hold, .int .i64 s.flags, .int .u64 s.epoch] 34)) (g := w.heap.size + 1) (by simp) 41 #[.int .i64 0, .int .i64 so, .int .i64 mo, .bool fr, .int .i64 fl])
  have hlo := (((Below.refl w.heap.size w).alloc (by first | exact Nat.le_refl _ | (simp; done) | (simp; omega)) (.cells #[.int .i64 s.mode, .int .i64 s.source, .bool s.hold, .int .i64 s.flags, .int .u64 s.epoch] 34)).alloc (by first | exact Nat.le_refl _ | (simp; done) | (simp; omega)) (.cells #[.int .i64 0, .int .i64 so, .int .i64 mo, .bool fr, .int .i64 fl] 41))
  have hz0 : 0 < w.heap.size := lt_of_cell (ht 0 (by decide))
  have ht1 := ht.below hlo
  go_enter Tryd.func6, Tryd.ntmps6
  go_upto_region 1 with fail
  generalize ((w.alloc (.cells #[.int .i64 s.mode, .int .i64 s.source, .bool s.hold, .int .i64 s.flags, .int .u64 s.epoch] 34)).alloc (.cells #[.int .i64 0, .int .i64 so, .int .i64 mo, .bool fr, .int .i64 fl] 41)) = w1 at *
  obtain ⟨fb, hfb⟩ : ∃ fb, w.heap.size = fb := ⟨_, rfl⟩
  have hlo9 : Lo w.heap.size w w1 := ⟨hlo, hlo.size⟩
  have HBS := Lib.hid (Nat.le_of_eq hfb)
  simp only [hfb] at hlo9 hz0 hq0 hq1 ⊢
  obtain ⟨pb, hfb1⟩ : ∃ pb, fb + 1 = pb := ⟨_, rfl⟩
  simp only [hfb1] at hq1 ⊢
  have ORD0 := Lib.hid (show 0 < fb ∧ fb + 1 = pb from ⟨hz0, hfb1⟩)
  have T0 := Lib.hid ht1
  have L0 := Lib.hid hlo9
  have F0 := Lib.hid hq0
  have P0 := Lib.hid hq1
  clear ht ht1 hlo hlo9 hz0 hfb hfb1 hq0 hq1
  have Fq0 := (F0.out).cell 0
  have Fq1 := (F0.out).cell 1
  have Fq2 := (F0.out).cell 2
  have Fq3 := (F0.out).cell 3
  have Fq4 := (F0.out).cell 4
  simp only [List.getElem?_toArray, List.getElem?_cons_succ, List.getElem?_cons_zero] at Fq0 Fq1 Fq2 Fq3 Fq4
  go_wp2_with fail
  refine (HPK.out w1).mono ?_; rintro e w2 ⟨rfl, hb⟩
  clear Fq0 Fq1 Fq2 Fq3 Fq4
  have ee : Ex (fun _ => False) w1 w2 := Ex.of_below hb
  have T_1 := Lib.hid (T0.out.ex ee (fun h => h))
  have L_1 := Lib.hid (L0.out.ex ee (fun b_ h_ => h_.elim))
  have F_1 := Lib.hid (F0.out.ex ee (fun h => h))
  have P_1 := Lib.hid (P0.out.ex ee (fun h => h))
  clear ee T0 L0 F0 P0 hb
  go_wp2_with fail
  refine (New_in 1 (by decide) (by decide) w2).mono ?_; rintro e w3 ⟨rfl, hb, hl, hsz⟩
  have hb : BankAt w3 (w2.heap.size + 1) w2.heap.size [0] 0 := hb
  obtain ⟨rr, hrr⟩ : ∃ rr, w2.heap.size = rr := ⟨_, rfl⟩
  have hlt : pb < rr := hrr ▸ P_1.out.lt
  simp only [hrr] at hb ⊢
  obtain ⟨g, hg⟩ : ∃ g, rr + 1 = g := ⟨_, rfl⟩
  simp only [hg] at hb ⊢
  have ORD2 := Lib.hid (show 0 < fb ∧ fb + 1 = pb ∧ pb < rr ∧ rr + 1 = g from by have o_ := ORD0.out; omega)
  have ee : Ex (fun _ => False) w2 w3 := Ex.of_below hl
  have T_3 := Lib.hid (T_1.out.ex ee (fun h => h))
  have L_3 := Lib.hid (L_1.out.ex ee (fun b_ h_ => h_.elim))
  have F_3 := Lib.hid (F_1.out.ex ee (fun h => h))
  have P_3 := Lib.hid (P_1.out.ex ee (fun h => h))
  have K_3 := Lib.hid (hb)
  clear ee T_1 L_1 F_1 P_1 hb hl hsz hrr hlt hg ORD0
  have Pq0 := (P_3.out).cell 0
  have Pq1 := (P_3.out).cell 1
  have Pq2 := (P_3.out).cell 2
  have Pq3 := (P_3.out).cell 3
  have Pq4 := (P_3.out).cell 4
  simp only [List.getElem?_toArray, List.getElem?_cons_succ, List.getElem?_cons_zero] at Pq0 Pq1 Pq2 Pq3 Pq4
  go_wp2_with fail
  clear Pq0 Pq1 Pq2 Pq3 Pq4
  refine (HBG.out w3 (Nat.lt_of_le_of_lt (Nat.zero_le _) K_3.out.head.lt)).mono ?_; rintro e w4a ⟨oa, ba, rfl, ha, hs1, hs2, hs3, hs4, hb⟩
  obtain ⟨Ma, hM⟩ : ∃ Ma : Nat, g < Ma ∧ rr < Ma ∧ Ma ≤ oa ∧ (Ma ≤ ba ∨ ba = 0) := ⟨w3.heap.size, K_3.out.head.lt, K_3.out.row.lt, hs1, hs2⟩
  have ORD4 := Lib.hid (show 0 < fb ∧ fb + 1 = pb ∧ pb < rr ∧ rr + 1 = g ∧ g < Ma ∧ rr < Ma ∧ Ma ≤ oa ∧ (Ma ≤ ba ∨ ba = 0) from by have o_ := ORD2.out; omega)
  have Ia_4 := Lib.hid (show AInv (.req ⟨so, mo, fr⟩) n (AX.zero n) from HIV.out)
  have ee : Ex (fun _ => False) w3 w4a := Ex.of_below hb
  have T_5 := Lib.hid (T_3.out.ex ee (fun h => h))
  have L_5 := Lib.hid (L_3.out.ex ee (fun b_ h_ => h_.elim))
  have F_5 := Lib.hid (F_3.out.ex ee (fun h => h))
  have P_5 := Lib.hid (P_3.out.ex ee (fun h => h))
  have K_5 := Lib.hid (K_3.out.ex ee (fun h => h) (fun h => h))
  have Aa_5 := Lib.hid (ha)
  clear ee T_3 L_3 F_3 P_3 K_3 hb hs1 hs2 hs3 hs4 hM ORD2
  go_wp2_with fail
  refine (Store_any g rr [0] 0 0 (wordI s) w4a K_5.out (wordI_range (mayE_zero.1 H0.out).1 HS.out)).mono ?_; rintro e w5 ⟨rfl, hb, hx⟩
  have e1 : errF [0] 0 = 0 := rfl
  have e2 : setF [0] 0 (wordI s) = [wordI s] := set1 _ _
  have e3 : tickF [0] 0 0 = 1 := rfl
  rw [e2, e3] at hb
  rw [e1]
  have ee : Ex (fun k => k = g ∨ k = rr) w4a w5 := Ex.of_ex2 (T := fun k => k = g ∨ k = rr) hx (.inl rfl) (.inr rfl)
  have T_6 := Lib.hid (T_5.out.ex ee (by have o_ := ORD4.out; omega))
  have L_6 := Lib.hid (L_5.out.ex ee (fun b_ h_ => by have o_ := ORD4.out; have h_ : b_ = g ∨ b_ = rr := h_; first | omega | (show _ ∨ _; omega)))
  have F_6 := Lib.hid (F_5.out.ex ee (by have o_ := ORD4.out; omega))
  have P_6 := Lib.hid (P_5.out.ex ee (by have o_ := ORD4.out; omega))
  have Aa_6 := Lib.hid (Aa_5.out.ex ee (by have o_ := ORD4.out; omega) (by have o_ := ORD4.out; omega))
  have K_6 := Lib.hid (hb)
  clear ee T_5 L_5 F_5 P_5 K_5 Aa_5 hb hx e1 e2 e3
  have Fq0 := (F_6.out).cell 0
  have Fq1 := (F_6.out).cell 1
  have Fq2 := (F_6.out).cell 2
  have Fq3 := (F_6.out).cell 3
  have Fq4 := (F_6.out).cell 4
  simp only [List.getElem?_toArray, List.getElem?_cons_succ, List.getElem?_cons_zero] at Fq0 Fq1 Fq2 Fq3 Fq4
  go_upto_region 9 with fail
  clear Fq0 Fq1 Fq2 Fq3 Fq4
  obtain ⟨vb, hsb, hM⟩ : ∃ vb : Nat, w5.heap.size = vb ∧ g < vb ∧ rr < vb ∧ oa < vb ∧ ba < vb := ⟨w5.heap.size, rfl, K_6.out.head.lt, K_6.out.row.lt, Aa_6.out.head.lt, ArbAt.blt Aa_6.out rfl⟩
  have ORD7 := Lib.hid (show 0 < fb ∧ fb + 1 = pb ∧ pb < rr ∧ rr + 1 = g ∧ g < Ma ∧ rr < Ma ∧ Ma ≤ oa ∧ (Ma ≤ ba ∨ ba = 0) ∧ g < vb ∧ rr < vb ∧ oa < vb ∧ ba < vb from by have o_ := ORD4.out; omega)
  have hnb := Blk.new w5 34 #[.int .i64 s.mode, .int .i64 s.source, .bool s.hold, .int .i64 s.flags, .int .u64 s.epoch]
  rw [hsb] at hnb
  simp only [hsb]
  have ee : Ex (fun _ => False) w5 (w5.alloc (.cells #[.int .i64 s.mode, .int .i64 s.source, .bool s.hold, .int .i64 s.flags, .int .u64 s.epoch] 34)) := (Ex.refl (fun _ => False) w5).alloc (.cells #[.int .i64 s.mode, .int .i64 s.source, .bool s.hold, .int .i64 s.flags, .int .u64 s.epoch] 34)
  have T_8 := Lib.hid (T_6.out.ex ee (fun h => h))
  have L_8 := Lib.hid (L_6.out.ex ee (fun b_ h_ => h_.elim))
  have F_8 := Lib.hid (F_6.out.ex ee (fun h => h))
  have P_8 := Lib.hid (P_6.out.ex ee (fun h => h))
  have K_8 := Lib.hid (K_6.out.ex ee (fun h => h) (fun h => h))
  have Aa_8 := Lib.hid (Aa_6.out.ex ee (fun h => h) (fun h => h))
  have V_8 := Lib.hid (hnb)
  clear ee T_6 L_6 F_6 P_6 K_6 Aa_6 hnb hM ORD4
  generalize w5.alloc (.cells #[.int .i64 s.mode, .int .i64 s.source, .bool s.hold, .int .i64 s.flags, .int .u64 s.epoch] 34) = w6 at *
  clear hsb
  have Pq0 := (P_8.out).cell 0
  have Pq1 := (P_8.out).cell 1
  have Pq2 := (P_8.out).cell 2
  have Pq3 := (P_8.out).cell 3
  have Pq4 := (P_8.out).cell 4
  simp only [List.getElem?_toArray, List.getElem?_cons_succ, List.getElem?_cons_zero] at Pq0 Pq1 Pq2 Pq3 Pq4
  have Fq0 := (F_8.out).cell 0
  have Fq1 := (F_8.out).cell 1
  have Fq2 := (F_8.out).cell 2
  have Fq3 := (F_8.out).cell 3
  have Fq4 := (F_8.out).cell 4
  simp only [List.getElem?_toArray, List.getElem?_cons_succ, List.getElem?_cons_zero] at Fq0 Fq1 Fq2 Fq3 Fq4
  go_wp2_with fail
  refine (HDC.out w6 T_8.out).mono ?_; rintro e w7 ⟨rfl, hb⟩
  clear Pq0 Pq1 Pq2 Pq3 Pq4 Fq0 Fq1 Fq2 Fq3 Fq4
  have ee : Ex (fun _ => False) w6 w7 := Ex.of_below hb
  have T_9 := Lib.hid (T_8.out.ex ee (fun h => h))
  have L_9 := Lib.hid (L_8.out.ex ee (fun b_ h_ => h_.elim))
  have F_9 := Lib.hid (F_8.out.ex ee (fun h => h))
  have P_9 := Lib.hid (P_8.out.ex ee (fun h => h))
  have K_9 := Lib.hid (K_8.out.ex ee (fun h => h) (fun h => h))
  have Aa_9 := Lib.hid (Aa_8.out.ex ee (fun h => h) (fun h => h))
  have V_9 := Lib.hid (V_8.out.ex ee (fun h => h))
  clear ee T_8 L_8 F_8 P_8 K_8 Aa_8 V_8 hb
  have Vq0 := (V_9.out).cell 0
  have Vq1 := (V_9.out).cell 1
  have Vq2 := (V_9.out).cell 2
  have Vq3 := (V_9.out).cell 3
  have Vq4 := (V_9.out).cell 4
  simp only [List.getElem?_toArray, List.getElem?_cons_succ, List.getElem?_cons_zero] at Vq0 Vq1 Vq2 Vq3 Vq4
  have Vf0 := (V_9.out).frozen 0
  have Vf1 := (V_9.out).frozen 1
  have Vf2 := (V_9.out).frozen 2
  have Vf3 := (V_9.out).frozen 3
  have Vf4 := (V_9.out).frozen 4
  have Pq0 := (P_9.out).cell 0
  have Pq1 := (P_9.out).cell 1
  have Pq2 := (P_9.out).cell 2
  have Pq3 := (P_9.out).cell 3
  have Pq4 := (P_9.out).cell 4
  simp only [List.getElem?_toArray, List.getElem?_cons_succ, List.getElem?_cons_zero] at Pq0 Pq1 Pq2 Pq3 Pq4
  go_upto_region 13 with fail
  clear Vq0 Vq1 Vq2 Vq3 Vq4 Vf0 Vf1 Vf2 Vf3 Vf4 Pq0 Pq1 Pq2 Pq3 Pq4
  have hbb := set5_blk (x0 := .int .i64 S9.mode) (x1 := .int .i64 S9.source) (x2 := .bool S9.hold) (x3 := .int .i64 S9.flags) (x4 := .int .u64 S9.epoch) V_9.out
  have ee : Ex (fun k => k = vb) w7 (((((w7.setCell ⟨vb, 0, none⟩ (.int .i64 S9.mode)).setCell ⟨vb, 1, none⟩ (.int .i64 S9.source)).setCell ⟨vb, 2, none⟩ (.bool S9.hold)).setCell ⟨vb, 3, none⟩ (.int .i64 S9.flags)).setCell ⟨vb, 4, none⟩ (.int .u64 S9.epoch)) := ((((((Ex.refl (fun q => q = vb) w7).setCell (q := ⟨vb, 0, none⟩) (.inl rfl) (.int .i64 S9.mode)).setCell (q := ⟨vb, 1, none⟩) (.inl rfl) (.int .i64 S9.source)).setCell (q := ⟨vb, 2, none⟩) (.inl rfl) (.bool S9.hold)).setCell (q := ⟨vb, 3, none⟩) (.inl rfl) (.int .i64 S9.flags)).setCell (q := ⟨vb, 4, none⟩) (.inl rfl) (.int .u64 S9.epoch))
  have T_10 := Lib.hid (T_9.out.ex ee (by have o_ := ORD7.out; omega))
  have L_10 := Lib.hid (L_9.out.ex ee (fun b_ h_ => by have o_ := ORD7.out; have h_ : b_ = vb := h_; first | omega | (show _ ∨ _; omega)))
  have F_10 := Lib.hid (F_9.out.ex ee (by have o_ := ORD7.out; omega))
  have P_10 := Lib.hid (P_9.out.ex ee (by have o_ := ORD7.out; omega))
  have K_10 := Lib.hid (K_9.out.ex ee (by have o_ := ORD7.out; omega) (by have o_ := ORD7.out; omega))
  have Aa_10 := Lib.hid (Aa_9.out.ex ee (by have o_ := ORD7.out; omega) (by have o_ := ORD7.out; omega))
  have V_10 := Lib.hid (hbb)
  clear ee T_9 L_9 F_9 P_9 K_9 Aa_9 V_9 hbb
  generalize (((((w7.setCell ⟨vb, 0, none⟩ (.int .i64 S9.mode)).setCell ⟨vb, 1, none⟩ (.int .i64 S9.source)).setCell ⟨vb, 2, none⟩ (.bool S9.hold)).setCell ⟨vb, 3, none⟩ (.int .i64 S9.flags)).setCell ⟨vb, 4, none⟩ (.int .u64 S9.epoch)) = w8 at *
  have Pq0 := (P_10.out).cell 0
  have Pq1 := (P_10.out).cell 1
  have Pq2 := (P_10.out).cell 2
  have Pq3 := (P_10.out).cell 3
  have Pq4 := (P_10.out).cell 4
  simp only [List.getElem?_toArray, List.getElem?_cons_succ, List.getElem?_cons_zero] at Pq0 Pq1 Pq2 Pq3 Pq4
  go_wp2_with fail
  clear Pq0 Pq1 Pq2 Pq3 Pq4
  refine (run_any g rr oa ba [wordI s] 1 (.req ⟨so, mo, fr⟩) HOK.out n 0 (AX.zero n) Ia_4.out w8 rfl Aa_10.out K_10.out T_10.out (by have o_ := ORD7.out; omega)).mono ?_; rintro e w11r ⟨rfl, hb, ha, _, hx⟩
  have e1 : aRun (.req ⟨so, mo, fr⟩) 0 40 ((AX.zero n), [wordI s], 1) = (⟨1, false, wordI s, S9, S9, 0, n - 1, 2⟩, [wordI S9], 3) := by rw [← HS9.out]; exact alone_turn HS.out H0.out (by decide) (by intro h; rcases h with h | h; simp [Kd.isRead] at h; exact h HE.out)
  rw [e1] at hb ha ⊢
  simp only at hb ha ⊢
  have ee : Ex (fun k => k = g ∨ k = rr ∨ k = oa) w8 w11r := hx
  have T_12 := Lib.hid (T_10.out.ex ee (by have o_ := ORD7.out; omega))
  have L_12 := Lib.hid (L_10.out.ex ee (fun b_ h_ => by have o_ := ORD7.out; have h_ : b_ = g ∨ b_ = rr ∨ b_ = oa := h_; first | omega | (show _ ∨ _; omega)))
  have F_12 := Lib.hid (F_10.out.ex ee (by have o_ := ORD7.out; omega))
  have P_12 := Lib.hid (P_10.out.ex ee (by have o_ := ORD7.out; omega))
  have V_12 := Lib.hid (V_10.out.ex ee (by have o_ := ORD7.out; omega))
  have K_12 := Lib.hid (hb)
  have Aa_12 := Lib.hid (ha)
  clear ee T_10 L_10 F_10 P_10 K_10 Aa_10 V_10 hb ha hx e1
  go_wp2_with fail
  have HG := Lib.hid (Got_any oa ba (.req ⟨so, mo, fr⟩) 0 ⟨1, false, wordI s, S9, S9, 0, n - 1, 2⟩ w11r Aa_12.out)
  unfold St.val at HG
  simp only at HG
  refine (HG.out).mono ?_; rintro e w10 ⟨rfl, hb⟩
  clear HG
  have ee : Ex (fun _ => False) w11r w10 := Ex.of_below hb
  have T_13 := Lib.hid (T_12.out.ex ee (fun h => h))
  have L_13 := Lib.hid (L_12.out.ex ee (fun b_ h_ => h_.elim))
  have F_13 := Lib.hid (F_12.out.ex ee (fun h => h))
  have P_13 := Lib.hid (P_12.out.ex ee (fun h => h))
  have K_13 := Lib.hid (K_12.out.ex ee (fun h => h) (fun h => h))
  have Aa_13 := Lib.hid (Aa_12.out.ex ee (fun h => h) (fun h => h))
  have V_13 := Lib.hid (V_12.out.ex ee (fun h => h))
  clear ee T_12 L_12 F_12 P_12 K_12 Aa_12 V_12 hb
  go_wp2_with fail
  obtain ⟨sb, hsb, hM⟩ : ∃ sb : Nat, w10.heap.size = sb ∧ g < sb ∧ rr < sb ∧ oa < sb ∧ ba < sb ∧ vb < sb := ⟨w10.heap.size, rfl, K_13.out.head.lt, K_13.out.row.lt, Aa_13.out.head.lt, ArbAt.blt Aa_13.out rfl, V_13.out.lt⟩
  have ORD14 := Lib.hid (show 0 < fb ∧ fb + 1 = pb ∧ pb < rr ∧ rr + 1 = g ∧ g < Ma ∧ rr < Ma ∧ Ma ≤ oa ∧ (Ma ≤ ba ∨ ba = 0) ∧ g < vb ∧ rr < vb ∧ oa < vb ∧ ba < vb ∧ g < sb ∧ rr < sb ∧ oa < sb ∧ ba < sb ∧ vb < sb from by have o_ := ORD7.out; omega)
  have hnb := Blk.new w10 34 #[.int .i64 S9.mode, .int .i64 S9.source, .bool S9.hold, .int .i64 S9.flags, .int .u64 S9.epoch]
  rw [hsb] at hnb
  simp only [hsb]
  have ee : Ex (fun _ => False) w10 (w10.alloc (.cells #[.int .i64 S9.mode, .int .i64 S9.source, .bool S9.hold, .int .i64 S9.flags, .int .u64 S9.epoch] 34)) := (Ex.refl (fun _ => False) w10).alloc (.cells #[.int .i64 S9.mode, .int .i64 S9.source, .bool S9.hold, .int .i64 S9.flags, .int .u64 S9.epoch] 34)
  have T_15 := Lib.hid (T_13.out.ex ee (fun h => h))
  have L_15 := Lib.hid (L_13.out.ex ee (fun b_ h_ => h_.elim))
  have F_15 := Lib.hid (F_13.out.ex ee (fun h => h))
  have P_15 := Lib.hid (P_13.out.ex ee (fun h => h))
  have K_15 := Lib.hid (K_13.out.ex ee (fun h => h) (fun h => h))
  have Aa_15 := Lib.hid (Aa_13.out.ex ee (fun h => h) (fun h => h))
  have V_15 := Lib.hid (V_13.out.ex ee (fun h => h))
  have S_15 := Lib.hid (hnb)
  clear ee T_13 L_13 F_13 P_13 K_13 Aa_13 V_13 hnb hM ORD7
  generalize w10.alloc (.cells #[.int .i64 S9.mode, .int .i64 S9.source, .bool S9.hold, .int .i64 S9.flags, .int .u64 S9.epoch] 34) = w11 at *
  clear hsb
  go_wp2_with fail
  refine (Peek_any g rr [wordI S9] 3 0 w11 K_15.out).mono ?_; rintro e w12 ⟨rfl, hb⟩
  rw [show wordF [wordI S9] 0 = wordI S9 from word1 _]
  have ee : Ex (fun _ => False) w11 w12 := Ex.of_below hb
  have T_16 := Lib.hid (T_15.out.ex ee (fun h => h))
  have L_16 := Lib.hid (L_15.out.ex ee (fun b_ h_ => h_.elim))
  have F_16 := Lib.hid (F_15.out.ex ee (fun h => h))
  have P_16 := Lib.hid (P_15.out.ex ee (fun h => h))
  have K_16 := Lib.hid (K_15.out.ex ee (fun h => h) (fun h => h))
  have Aa_16 := Lib.hid (Aa_15.out.ex ee (fun h => h) (fun h => h))
  have V_16 := Lib.hid (V_15.out.ex ee (fun h => h))
  have S_16 := Lib.hid (S_15.out.ex ee (fun h => h))
  clear ee T_15 L_15 F_15 P_15 K_15 Aa_15 V_15 S_15 hb
  go_wp2_with fail
  have hun := fun W => Unpack_any (wordI S9) (wordI_range (mayE_zero.1 HN9.out.2.1).1 HN9.out.1) W
  simp only [(un_word HN9.out.1 HN9.out.2.1).1, (un_word HN9.out.1 HN9.out.2.1).2] at hun
  unfold St.val at hun
  have HUN := Lib.hid hun
  clear hun
  refine (HUN.out w12).mono ?_; rintro e w13 ⟨rfl, hb⟩
  clear HUN
  have ee : Ex (fun _ => False) w12 w13 := Ex.of_below hb
  have T_17 := Lib.hid (T_16.out.ex ee (fun h => h))
  have L_17 := Lib.hid (L_16.out.ex ee (fun b_ h_ => h_.elim))
  have F_17 := Lib.hid (F_16.out.ex ee (fun h => h))
  have P_17 := Lib.hid (P_16.out.ex ee (fun h => h))
  have K_17 := Lib.hid (K_16.out.ex ee (fun h => h) (fun h => h))
  have Aa_17 := Lib.hid (Aa_16.out.ex ee (fun h => h) (fun h => h))
  have V_17 := Lib.hid (V_16.out.ex ee (fun h => h))
  have S_17 := Lib.hid (S_16.out.ex ee (fun h => h))
  clear ee T_16 L_16 F_16 P_16 K_16 Aa_16 V_16 S_16 hb
  go_upto_region 22 with fail
  obtain ⟨mb, hsb, hM⟩ : ∃ mb : Nat, w13.heap.size = mb ∧ g < mb ∧ rr < mb ∧ oa < mb ∧ ba < mb ∧ vb < mb ∧ sb < mb := ⟨w13.heap.size, rfl, K_17.out.head.lt, K_17.out.row.lt, Aa_17.out.head.lt, ArbAt.blt Aa_17.out rfl, V_17.out.lt, S_17.out.lt⟩
  have ORD18 := Lib.hid (show 0 < fb ∧ fb + 1 = pb ∧ pb < rr ∧ rr + 1 = g ∧ g < Ma ∧ rr < Ma ∧ Ma ≤ oa ∧ (Ma ≤ ba ∨ ba = 0) ∧ g < vb ∧ rr < vb ∧ oa < vb ∧ ba < vb ∧ g < sb ∧ rr < sb ∧ oa < sb ∧ ba < sb ∧ vb < sb ∧ g < mb ∧ rr < mb ∧ oa < mb ∧ ba < mb ∧ vb < mb ∧ sb < mb from by have o_ := ORD14.out; omega)
  have hnb := Blk.new w13 34 #[.int .i64 S9.mode, .int .i64 S9.source, .bool S9.hold, .int .i64 S9.flags, .int .u64 S9.epoch]
  rw [hsb] at hnb
  simp only [hsb]
  have ee : Ex (fun _ => False) w13 (w13.alloc (.cells #[.int .i64 S9.mode, .int .i64 S9.source, .bool S9.hold, .int .i64 S9.flags, .int .u64 S9.epoch] 34)) := (Ex.refl (fun _ => False) w13).alloc (.cells #[.int .i64 S9.mode, .int .i64 S9.source, .bool S9.hold, .int .i64 S9.flags, .int .u64 S9.epoch] 34)
  have T_19 := Lib.hid (T_17.out.ex ee (fun h => h))
  have L_19 := Lib.hid (L_17.out.ex ee (fun b_ h_ => h_.elim))
  have F_19 := Lib.hid (F_17.out.ex ee (fun h => h))
  have P_19 := Lib.hid (P_17.out.ex ee (fun h => h))
  have K_19 := Lib.hid (K_17.out.ex ee (fun h => h) (fun h => h))
  have Aa_19 := Lib.hid (Aa_17.out.ex ee (fun h => h) (fun h => h))
  have V_19 := Lib.hid (V_17.out.ex ee (fun h => h))
  have S_19 := Lib.hid (S_17.out.ex ee (fun h => h))
  have M_19 := Lib.hid (hnb)
  clear ee T_17 L_17 F_17 P_17 K_17 Aa_17 V_17 S_17 hnb hM ORD14
  generalize w13.alloc (.cells #[.int .i64 S9.mode, .int .i64 S9.source, .bool S9.hold, .int .i64 S9.flags, .int .u64 S9.epoch] 34) = w14 at *
  clear hsb
  have eq0 : (S9.mode == S9.mode) = true := by simp
  have eq1 : (S9.source == S9.source) = true := by simp
  have eq2 : (S9.hold == S9.hold) = true := by simp
  have eq3 : (S9.flags == S9.flags) = true := by simp
  have eq4 : (S9.epoch == S9.epoch) = true := by simp
  have Sq0 := (S_19.out).cell 0
  have Sq1 := (S_19.out).cell 1
  have Sq2 := (S_19.out).cell 2
  have Sq3 := (S_19.out).cell 3
  have Sq4 := (S_19.out).cell 4
  simp only [List.getElem?_toArray, List.getElem?_cons_succ, List.getElem?_cons_zero] at Sq0 Sq1 Sq2 Sq3 Sq4
  have Vq0 := (V_19.out).cell 0
  have Vq1 := (V_19.out).cell 1
  have Vq2 := (V_19.out).cell 2
  have Vq3 := (V_19.out).cell 3
  have Vq4 := (V_19.out).cell 4
  simp only [List.getElem?_toArray, List.getElem?_cons_succ, List.getElem?_cons_zero] at Vq0 Vq1 Vq2 Vq3 Vq4
  have Mq0 := (M_19.out).cell 0
  have Mq1 := (M_19.out).cell 1
  have Mq2 := (M_19.out).cell 2
  have Mq3 := (M_19.out).cell 3
  have Mq4 := (M_19.out).cell 4
  simp only [List.getElem?_toArray, List.getElem?_cons_succ, List.getElem?_cons_zero] at Mq0 Mq1 Mq2 Mq3 Mq4
  go_wp2_with fail
  refine (Steps_any oa ba (.req ⟨so, mo, fr⟩) 0 ⟨1, false, wordI s, S9, S9, 0, n - 1, 2⟩ w14 Aa_19.out).mono ?_; rintro e w_ ⟨rfl, rfl⟩
  go_wp2_with fail
  refine (At_done oa ba (.req ⟨so, mo, fr⟩) 0 ⟨1, false, wordI s, S9, S9, 0, n - 1, 2⟩ w14 Aa_19.out rfl).mono ?_; rintro e w_ ⟨rfl, rfl⟩
  go_wp2_with fail
  refine (Touches_any g rr [wordI S9] 3 w14 K_19.out).mono ?_; rintro e w_ ⟨rfl, rfl⟩
  go_wp2_with fail
  have IZ := Lib.hid (show AInv (.req ⟨so, mo, fr⟩) n ⟨1, false, wordI s, S9, S9, 0, n - 1, 2⟩ from by have := HIV.out; exact ⟨this.nn, by simp, fun h => by simp at h, fun h => by simp at h, fun _ => ⟨rfl, fun h => by simp at h⟩, fun h => by simp at h⟩)
  clear Sq0 Sq1 Sq2 Sq3 Sq4 Vq0 Vq1 Vq2 Vq3 Vq4 Mq0 Mq1 Mq2 Mq3 Mq4
  refine (Step_any g rr oa ba [wordI S9] 3 (.req ⟨so, mo, fr⟩) HOK.out n 0 ⟨1, false, wordI s, S9, S9, 0, n - 1, 2⟩ IZ.out w14 Aa_19.out K_19.out T_19.out (by have o_ := ORD18.out; omega)).mono ?_; rintro e w20s ⟨rfl, hb, ha, hx⟩
  have e1 : aStep (.req ⟨so, mo, fr⟩) 0 [wordI S9] ⟨1, false, wordI s, S9, S9, 0, n - 1, 2⟩ = ⟨1, false, wordI s, S9, S9, 0, n - 1, 2⟩ := by first | exact (still_step (k := (.req ⟨so, mo, fr⟩)) (at_ := 0) (ws := [wordI S9]) (t := 3) (x := ⟨1, false, wordI s, S9, S9, 0, n - 1, 2⟩) (show (1 : Int) ≠ 0 by decide)).1 | exact (still_step (k := (.req ⟨so, mo, fr⟩)) (at_ := 0) (ws := [wordI S9]) (t := 3) (x := ⟨1, false, wordI s, S9, S9, 0, n - 1, 2⟩) (show (1 : Int) ≠ 0 by decide)).2.1 | exact (still_step (k := (.req ⟨so, mo, fr⟩)) (at_ := 0) (ws := [wordI S9]) (t := 3) (x := ⟨1, false, wordI s, S9, S9, 0, n - 1, 2⟩) (show (1 : Int) ≠ 0 by decide)).2.2
  have e2 : aWs 0 [wordI S9] ⟨1, false, wordI s, S9, S9, 0, n - 1, 2⟩ = [wordI S9] := by first | exact (still_step (k := (.req ⟨so, mo, fr⟩)) (at_ := 0) (ws := [wordI S9]) (t := 3) (x := ⟨1, false, wordI s, S9, S9, 0, n - 1, 2⟩) (show (1 : Int) ≠ 0 by decide)).1 | exact (still_step (k := (.req ⟨so, mo, fr⟩)) (at_ := 0) (ws := [wordI S9]) (t := 3) (x := ⟨1, false, wordI s, S9, S9, 0, n - 1, 2⟩) (show (1 : Int) ≠ 0 by decide)).2.1 | exact (still_step (k := (.req ⟨so, mo, fr⟩)) (at_ := 0) (ws := [wordI S9]) (t := 3) (x := ⟨1, false, wordI s, S9, S9, 0, n - 1, 2⟩) (show (1 : Int) ≠ 0 by decide)).2.2
  have e3 : aT 0 [wordI S9] ⟨1, false, wordI s, S9, S9, 0, n - 1, 2⟩ 3 = 3 := by first | exact (still_step (k := (.req ⟨so, mo, fr⟩)) (at_ := 0) (ws := [wordI S9]) (t := 3) (x := ⟨1, false, wordI s, S9, S9, 0, n - 1, 2⟩) (show (1 : Int) ≠ 0 by decide)).1 | exact (still_step (k := (.req ⟨so, mo, fr⟩)) (at_ := 0) (ws := [wordI S9]) (t := 3) (x := ⟨1, false, wordI s, S9, S9, 0, n - 1, 2⟩) (show (1 : Int) ≠ 0 by decide)).2.1 | exact (still_step (k := (.req ⟨so, mo, fr⟩)) (at_ := 0) (ws := [wordI S9]) (t := 3) (x := ⟨1, false, wordI s, S9, S9, 0, n - 1, 2⟩) (show (1 : Int) ≠ 0 by decide)).2.2
  have Ia_20 := Lib.hid (e1 ▸ IZ.out.step (at_ := 0) (wordF_range K_19.out 0))
  rw [e2, e3] at hb
  rw [e1] at ha ⊢
  have ee : Ex (fun k => k = g ∨ k = rr ∨ k = oa) w14 w20s := hx
  have T_21 := Lib.hid (T_19.out.ex ee (by have o_ := ORD18.out; omega))
  have L_21 := Lib.hid (L_19.out.ex ee (fun b_ h_ => by have o_ := ORD18.out; have h_ : b_ = g ∨ b_ = rr ∨ b_ = oa := h_; first | omega | (show _ ∨ _; omega)))
  have F_21 := Lib.hid (F_19.out.ex ee (by have o_ := ORD18.out; omega))
  have P_21 := Lib.hid (P_19.out.ex ee (by have o_ := ORD18.out; omega))
  have V_21 := Lib.hid (V_19.out.ex ee (by have o_ := ORD18.out; omega))
  have S_21 := Lib.hid (S_19.out.ex ee (by have o_ := ORD18.out; omega))
  have M_21 := Lib.hid (M_19.out.ex ee (by have o_ := ORD18.out; omega))
  have K_21 := Lib.hid (hb)
  have Aa_21 := Lib.hid (ha)
  clear ee T_19 L_19 F_19 P_19 K_19 Aa_19 V_19 S_19 M_19 hb ha hx e1 e2 e3 IZ
  go_wp2_with fail
  refine (Touches_any g rr [wordI S9] 3 w20s K_21.out).mono ?_; rintro e w_ ⟨rfl, rfl⟩
  go_wp2_with fail
  refine (awake_any w20s T_21.out).mono ?_; rintro e w15 ⟨rfl, hb⟩
  have ee : Ex (fun _ => False) w20s w15 := Ex.of_below hb
  have T_22 := Lib.hid (T_21.out.ex ee (fun h => h))
  have L_22 := Lib.hid (L_21.out.ex ee (fun b_ h_ => h_.elim))
  have F_22 := Lib.hid (F_21.out.ex ee (fun h => h))
  have P_22 := Lib.hid (P_21.out.ex ee (fun h => h))
  have K_22 := Lib.hid (K_21.out.ex ee (fun h => h) (fun h => h))
  have Aa_22 := Lib.hid (Aa_21.out.ex ee (fun h => h) (fun h => h))
  have V_22 := Lib.hid (V_21.out.ex ee (fun h => h))
  have S_22 := Lib.hid (S_21.out.ex ee (fun h => h))
  have M_22 := Lib.hid (M_21.out.ex ee (fun h => h))
  clear ee T_21 L_21 F_21 P_21 K_21 Aa_21 V_21 S_21 M_21 hb
  go_wp2_with fail
  go_ret
  exact ⟨rfl, L_22.out.low.mono HBS.out⟩
set_option maxRecDepth 100000 in
set_option maxHeartbeats 4000000 in
theorem Al_tell_stay (s : St) (hs : s.Ok) (so mo : Int) (fr : Bool) (fl n : Int) (hp : (⟨1, so, mo, fr, fl⟩ : Pl).Ok) (w : World) (ht : Tab w) (h0 : mayE s = 0) (hm : (⟨1, so, mo, fr, fl⟩ : Pl).May n) (hE : (Kd.tell fl).E s ≠ 0) :
    Calls Tryd.prog 6 #[s.val, .agg #[.int .i64 1, .int .i64 so, .int .i64 mo, .bool fr, .int .i64 fl], .int .i64 n] w fun e w' => e = .returned (.bool true) ∧ Below w.heap.size w w' := by
  have HS := Lib.hid hs
  have H0 := Lib.hid h0
  have ekd : Pl.kd ⟨1, so, mo, fr, fl⟩ = (.tell fl) := rfl
  have ekn : Pl.n ⟨1, so, mo, fr, fl⟩ n = n := rfl
  have hok := Pl.kd_ok hp
  have hiv := Pl.inv hm
  have hbg := fun W hz => begin_in 0 n (⟨1, so, mo, fr, fl⟩ : Pl) W hz hm
  unfold Pl.val at hbg
  simp only [ekd, ekn] at hok hiv hbg
  have HOK := Lib.hid hok
  have HIV := Lib.hid hiv
  have HBG := Lib.hid hbg
  clear ekd ekn hok hiv hbg hm
  have hpk := fun W => Pack_ok s hs h0 W
  unfold St.val at hpk ⊢
  have HPK := Lib.hid hpk
  clear hpk
  have HE := Lib.hid hE
  clear hE
  obtain ⟨S9, hS9⟩ : ∃ S9, (Kd.tell fl).S s = S9 := ⟨_, rfl⟩
  have HS9 := Lib.hid hS9
  obtain ⟨E9, hE9⟩ : ∃ E9, (Kd.tell fl).E s = E9 := ⟨_, rfl⟩
  have HE9 := Lib.hid hE9
  have HN9 := Lib.hid (show E9 ≠ 0 from hE9 ▸ HE.out)
  have hdc : ∀ W, Tab W → Calls Tryd.prog 26 #[.agg #[.int .i64 s.mode, .int .i64 s.source, .bool s.hold, .int .i64 s.flags, .int .u64 s.epoch], .int .i64 fl] W fun e w' => e = .returned (.tuple #[.agg #[.int .i64 S9.mode, .int .i64 S9.source, .bool S9.hold, .int .i64 S9.flags, .int .u64 S9.epoch], .int .i64 E9]) ∧ Below W.heap.size W w' := by
    intro W hT
    have := Health_any s hs fl W
    rw [show healthS s fl = S9 from hS9, show healthE s fl = E9 from hE9] at this
    exact this
  have HDC := Lib.hid hdc
  clear hdc hS9 hE9
  clear hs h0 hp
  have hq0 := ((blk_new' w (g := w.heap.size) (by simp) 34 #[.int .i64 s.mode, .int .i64 s.source, .bool s.hold, .int .i64 s.flags, .int .u64 s.epoch]).alloc (.cells #[.int .i64 1, .int .i64 so, .int .i64 mo, .bool fr, .int .i64 fl] 41))
  have hq1 := (blk_new' (w.alloc (.cells #[.int .i64 s.mode, .int .i64 s.source, .bool s.hold, .int .i64 s.flags, .int .u64 s.epoch] 34)) (g := w.heap.size + 1) (by simp) 41 #[.int .i64 1, .int .i64 so, .int .i64 mo, .bool fr, .int .i64 fl])
  have hlo := (((Below.refl w.heap.size w).alloc (by first | exact Nat.le_refl _ | (simp; done) | (simp; omega)) (.cells #[.int .i64 s.mode, .int .i64 s.source, .bool s.hold, .int .i64 s.flags, .int .u64 s.epoch] 34)).alloc (by first | exact Nat.le_refl _ | (simp; done) | (simp; omega)) (.cells #[.int .i64 1, .int .i64 so, .int .i64 mo, .bool fr, .int .i64 fl] 41))
  have hz0 : 0 < w.heap.size := lt_of_cell (ht 0 (by decide))
  have ht1 := ht.below hlo
  go_enter Tryd.func6, Tryd.ntmps6
  go_upto_region 1 with fail
  generalize ((w.alloc (.cells #[.int .i64 s.mode, .int .i64 s.source, .bool s.hold, .int .i64 s.flags, .int .u64 s.epoch] 34)).alloc (.cells #[.int .i64 1, .int .i64 so, .int .i64 mo, .bool fr, .int .i64 fl] 41)) = w1 at *
  obtain ⟨fb, hfb⟩ : ∃ fb, w.heap.size = fb := ⟨_, rfl⟩
  have hlo9 : Lo w.heap.size w w1 := ⟨hlo, hlo.size⟩
  have HBS := Lib.hid (Nat.le_of_eq hfb)
  simp only [hfb] at hlo9 hz0 hq0 hq1 ⊢
  obtain ⟨pb, hfb1⟩ : ∃ pb, fb + 1 = pb := ⟨_, rfl⟩
  simp only [hfb1] at hq1 ⊢
  have ORD0 := Lib.hid (show 0 < fb ∧ fb + 1 = pb from ⟨hz0, hfb1⟩)
  have T0 := Lib.hid ht1
  have L0 := Lib.hid hlo9
  have F0 := Lib.hid hq0
  have P0 := Lib.hid hq1
  clear ht ht1 hlo hlo9 hz0 hfb hfb1 hq0 hq1
  have Fq0 := (F0.out).cell 0
  have Fq1 := (F0.out).cell 1
  have Fq2 := (F0.out).cell 2
  have Fq3 := (F0.out).cell 3
  have Fq4 := (F0.out).cell 4
  simp only [List.getElem?_toArray, List.getElem?_cons_succ, List.getElem?_cons_zero] at Fq0 Fq1 Fq2 Fq3 Fq4
  go_wp2_with fail
  refine (HPK.out w1).mono ?_; rintro e w2 ⟨rfl, hb⟩
  clear Fq0 Fq1 Fq2 Fq3 Fq4
  have ee : Ex (fun _ => False) w1 w2 := Ex.of_below hb
  have T_1 := Lib.hid (T0.out.ex ee (fun h => h))
  have L_1 := Lib.hid (L0.out.ex ee (fun b_ h_ => h_.elim))
  have F_1 := Lib.hid (F0.out.ex ee (fun h => h))
  have P_1 := Lib.hid (P0.out.ex ee (fun h => h))
  clear ee T0 L0 F0 P0 hb
  go_wp2_with fail
  refine (New_in 1 (by decide) (by decide) w2).mono ?_; rintro e w3 ⟨rfl, hb, hl, hsz⟩
  have hb : BankAt w3 (w2.heap.size + 1) w2.heap.size [0] 0 := hb
  obtain ⟨rr, hrr⟩ : ∃ rr, w2.heap.size = rr := ⟨_, rfl⟩
  have hlt : pb < rr := hrr ▸ P_1.out.lt
  simp only [hrr] at hb ⊢
  obtain ⟨g, hg⟩ : ∃ g, rr + 1 = g := ⟨_, rfl⟩
  simp only [hg] at hb ⊢
  have ORD2 := Lib.hid (show 0 < fb ∧ fb + 1 = pb ∧ pb < rr ∧ rr + 1 = g from by have o_ := ORD0.out; omega)
  have ee : Ex (fun _ => False) w2 w3 := Ex.of_below hl
  have T_3 := Lib.hid (T_1.out.ex ee (fun h => h))
  have L_3 := Lib.hid (L_1.out.ex ee (fun b_ h_ => h_.elim))
  have F_3 := Lib.hid (F_1.out.ex ee (fun h => h))
  have P_3 := Lib.hid (P_1.out.ex ee (fun h => h))
  have K_3 := Lib.hid (hb)
  clear ee T_1 L_1 F_1 P_1 hb hl hsz hrr hlt hg ORD0
  have Pq0 := (P_3.out).cell 0
  have Pq1 := (P_3.out).cell 1
  have Pq2 := (P_3.out).cell 2
  have Pq3 := (P_3.out).cell 3
  have Pq4 := (P_3.out).cell 4
  simp only [List.getElem?_toArray, List.getElem?_cons_succ, List.getElem?_cons_zero] at Pq0 Pq1 Pq2 Pq3 Pq4
  go_wp2_with fail
  clear Pq0 Pq1 Pq2 Pq3 Pq4
  refine (HBG.out w3 (Nat.lt_of_le_of_lt (Nat.zero_le _) K_3.out.head.lt)).mono ?_; rintro e w4a ⟨oa, ba, rfl, ha, hs1, hs2, hs3, hs4, hb⟩
  obtain ⟨Ma, hM⟩ : ∃ Ma : Nat, g < Ma ∧ rr < Ma ∧ Ma ≤ oa ∧ (Ma ≤ ba ∨ ba = 0) := ⟨w3.heap.size, K_3.out.head.lt, K_3.out.row.lt, hs1, hs2⟩
  have ORD4 := Lib.hid (show 0 < fb ∧ fb + 1 = pb ∧ pb < rr ∧ rr + 1 = g ∧ g < Ma ∧ rr < Ma ∧ Ma ≤ oa ∧ (Ma ≤ ba ∨ ba = 0) from by have o_ := ORD2.out; omega)
  have Ia_4 := Lib.hid (show AInv (.tell fl) n (AX.zero n) from HIV.out)
  have ee : Ex (fun _ => False) w3 w4a := Ex.of_below hb
  have T_5 := Lib.hid (T_3.out.ex ee (fun h => h))
  have L_5 := Lib.hid (L_3.out.ex ee (fun b_ h_ => h_.elim))
  have F_5 := Lib.hid (F_3.out.ex ee (fun h => h))
  have P_5 := Lib.hid (P_3.out.ex ee (fun h => h))
  have K_5 := Lib.hid (K_3.out.ex ee (fun h => h) (fun h => h))
  have Aa_5 := Lib.hid (ha)
  clear ee T_3 L_3 F_3 P_3 K_3 hb hs1 hs2 hs3 hs4 hM ORD2
  go_wp2_with fail
  refine (Store_any g rr [0] 0 0 (wordI s) w4a K_5.out (wordI_range (mayE_zero.1 H0.out).1 HS.out)).mono ?_; rintro e w5 ⟨rfl, hb, hx⟩
  have e1 : errF [0] 0 = 0 := rfl
  have e2 : setF [0] 0 (wordI s) = [wordI s] := set1 _ _
  have e3 : tickF [0] 0 0 = 1 := rfl
  rw [e2, e3] at hb
  rw [e1]
  have ee : Ex (fun k => k = g ∨ k = rr) w4a w5 := Ex.of_ex2 (T := fun k => k = g ∨ k = rr) hx (.inl rfl) (.inr rfl)
  have T_6 := Lib.hid (T_5.out.ex ee (by have o_ := ORD4.out; omega))
  have L_6 := Lib.hid (L_5.out.ex ee (fun b_ h_ => by have o_ := ORD4.out; have h_ : b_ = g ∨ b_ = rr := h_; first | omega | (show _ ∨ _; omega)))
  have F_6 := Lib.hid (F_5.out.ex ee (by have o_ := ORD4.out; omega))
  have P_6 := Lib.hid (P_5.out.ex ee (by have o_ := ORD4.out; omega))
  have Aa_6 := Lib.hid (Aa_5.out.ex ee (by have o_ := ORD4.out; omega) (by have o_ := ORD4.out; omega))
  have K_6 := Lib.hid (hb)
  clear ee T_5 L_5 F_5 P_5 K_5 Aa_5 hb hx e1 e2 e3
  have Fq0 := (F_6.out).cell 0
  have Fq1 := (F_6.out).cell 1
  have Fq2 := (F_6.out).cell 2
  have Fq3 := (F_6.out).cell 3
  have Fq4 := (F_6.out).cell 4
  simp only [List.getElem?_toArray, List.getElem?_cons_succ, List.getElem?_cons_zero] at Fq0 Fq1 Fq2 Fq3 Fq4
  go_upto_region 9 with fail
  clear Fq0 Fq1 Fq2 Fq3 Fq4
  obtain ⟨vb, hsb, hM⟩ : ∃ vb : Nat, w5.heap.size = vb ∧ g < vb ∧ rr < vb ∧ oa < vb ∧ ba < vb := ⟨w5.heap.size, rfl, K_6.out.head.lt, K_6.out.row.lt, Aa_6.out.head.lt, ArbAt.blt Aa_6.out rfl⟩
  have ORD7 := Lib.hid (show 0 < fb ∧ fb + 1 = pb ∧ pb < rr ∧ rr + 1 = g ∧ g < Ma ∧ rr < Ma ∧ Ma ≤ oa ∧ (Ma ≤ ba ∨ ba = 0) ∧ g < vb ∧ rr < vb ∧ oa < vb ∧ ba < vb from by have o_ := ORD4.out; omega)
  have hnb := Blk.new w5 34 #[.int .i64 s.mode, .int .i64 s.source, .bool s.hold, .int .i64 s.flags, .int .u64 s.epoch]
  rw [hsb] at hnb
  simp only [hsb]
  have ee : Ex (fun _ => False) w5 (w5.alloc (.cells #[.int .i64 s.mode, .int .i64 s.source, .bool s.hold, .int .i64 s.flags, .int .u64 s.epoch] 34)) := (Ex.refl (fun _ => False) w5).alloc (.cells #[.int .i64 s.mode, .int .i64 s.source, .bool s.hold, .int .i64 s.flags, .int .u64 s.epoch] 34)
  have T_8 := Lib.hid (T_6.out.ex ee (fun h => h))
  have L_8 := Lib.hid (L_6.out.ex ee (fun b_ h_ => h_.elim))
  have F_8 := Lib.hid (F_6.out.ex ee (fun h => h))
  have P_8 := Lib.hid (P_6.out.ex ee (fun h => h))
  have K_8 := Lib.hid (K_6.out.ex ee (fun h => h) (fun h => h))
  have Aa_8 := Lib.hid (Aa_6.out.ex ee (fun h => h) (fun h => h))
  have V_8 := Lib.hid (hnb)
  clear ee T_6 L_6 F_6 P_6 K_6 Aa_6 hnb hM ORD4
  generalize w5.alloc (.cells #[.int .i64 s.mode, .int .i64 s.source, .bool s.hold, .int .i64 s.flags, .int .u64 s.epoch] 34) = w6 at *
  clear hsb
  have Pq0 := (P_8.out).cell 0
  have Pq1 := (P_8.out).cell 1
  have Pq2 := (P_8.out).cell 2
  have Pq3 := (P_8.out).cell 3
  have Pq4 := (P_8.out).cell 4
  simp only [List.getElem?_toArray, List.getElem?_cons_succ, List.getElem?_cons_zero] at Pq0 Pq1 Pq2 Pq3 Pq4
  have Fq0 := (F_8.out).cell 0
  have Fq1 := (F_8.out).cell 1
  have Fq2 := (F_8.out).cell 2
  have Fq3 := (F_8.out).cell 3
  have Fq4 := (F_8.out).cell 4
  simp only [List.getElem?_toArray, List.getElem?_cons_succ, List.getElem?_cons_zero] at Fq0 Fq1 Fq2 Fq3 Fq4
  go_wp2_with fail
  refine (HDC.out w6 T_8.out).mono ?_; rintro e w7 ⟨rfl, hb⟩
  clear Pq0 Pq1 Pq2 Pq3 Pq4 Fq0 Fq1 Fq2 Fq3 Fq4
  have ee : Ex (fun _ => False) w6 w7 := Ex.of_below hb
  have T_9 := Lib.hid (T_8.out.ex ee (fun h => h))
  have L_9 := Lib.hid (L_8.out.ex ee (fun b_ h_ => h_.elim))
  have F_9 := Lib.hid (F_8.out.ex ee (fun h => h))
  have P_9 := Lib.hid (P_8.out.ex ee (fun h => h))
  have K_9 := Lib.hid (K_8.out.ex ee (fun h => h) (fun h => h))
  have Aa_9 := Lib.hid (Aa_8.out.ex ee (fun h => h) (fun h => h))
  have V_9 := Lib.hid (V_8.out.ex ee (fun h => h))
  clear ee T_8 L_8 F_8 P_8 K_8 Aa_8 V_8 hb
  have Vq0 := (V_9.out).cell 0
  have Vq1 := (V_9.out).cell 1
  have Vq2 := (V_9.out).cell 2
  have Vq3 := (V_9.out).cell 3
  have Vq4 := (V_9.out).cell 4
  simp only [List.getElem?_toArray, List.getElem?_cons_succ, List.getElem?_cons_zero] at Vq0 Vq1 Vq2 Vq3 Vq4
  have Vf0 := (V_9.out).frozen 0
  have Vf1 := (V_9.out).frozen 1
  have Vf2 := (V_9.out).frozen 2
  have Vf3 := (V_9.out).frozen 3
  have Vf4 := (V_9.out).frozen 4
  have Pq0 := (P_9.out).cell 0
  have Pq1 := (P_9.out).cell 1
  have Pq2 := (P_9.out).cell 2
  have Pq3 := (P_9.out).cell 3
  have Pq4 := (P_9.out).cell 4
  simp only [List.getElem?_toArray, List.getElem?_cons_succ, List.getElem?_cons_zero] at Pq0 Pq1 Pq2 Pq3 Pq4
  go_upto_region 15 with fail
  clear Vq0 Vq1 Vq2 Vq3 Vq4 Vf0 Vf1 Vf2 Vf3 Vf4 Pq0 Pq1 Pq2 Pq3 Pq4
  have hbb := set5_blk (x0 := .int .i64 S9.mode) (x1 := .int .i64 S9.source) (x2 := .bool S9.hold) (x3 := .int .i64 S9.flags) (x4 := .int .u64 S9.epoch) V_9.out
  have ee : Ex (fun k => k = vb) w7 (((((w7.setCell ⟨vb, 0, none⟩ (.int .i64 S9.mode)).setCell ⟨vb, 1, none⟩ (.int .i64 S9.source)).setCell ⟨vb, 2, none⟩ (.bool S9.hold)).setCell ⟨vb, 3, none⟩ (.int .i64 S9.flags)).setCell ⟨vb, 4, none⟩ (.int .u64 S9.epoch)) := ((((((Ex.refl (fun q => q = vb) w7).setCell (q := ⟨vb, 0, none⟩) (.inl rfl) (.int .i64 S9.mode)).setCell (q := ⟨vb, 1, none⟩) (.inl rfl) (.int .i64 S9.source)).setCell (q := ⟨vb, 2, none⟩) (.inl rfl) (.bool S9.hold)).setCell (q := ⟨vb, 3, none⟩) (.inl rfl) (.int .i64 S9.flags)).setCell (q := ⟨vb, 4, none⟩) (.inl rfl) (.int .u64 S9.epoch))
  have T_10 := Lib.hid (T_9.out.ex ee (by have o_ := ORD7.out; omega))
  have L_10 := Lib.hid (L_9.out.ex ee (fun b_ h_ => by have o_ := ORD7.out; have h_ : b_ = vb := h_; first | omega | (show _ ∨ _; omega)))
  have F_10 := Lib.hid (F_9.out.ex ee (by have o_ := ORD7.out; omega))
  have P_10 := Lib.hid (P_9.out.ex ee (by have o_ := ORD7.out; omega))
  have K_10 := Lib.hid (K_9.out.ex ee (by have o_ := ORD7.out; omega) (by have o_ := ORD7.out; omega))
  have Aa_10 := Lib.hid (Aa_9.out.ex ee (by have o_ := ORD7.out; omega) (by have o_ := ORD7.out; omega))
  have V_10 := Lib.hid (hbb)
  clear ee T_9 L_9 F_9 P_9 K_9 Aa_9 V_9 hbb
  generalize (((((w7.setCell ⟨vb, 0, none⟩ (.int .i64 S9.mode)).setCell ⟨vb, 1, none⟩ (.int .i64 S9.source)).setCell ⟨vb, 2, none⟩ (.bool S9.hold)).setCell ⟨vb, 3, none⟩ (.int .i64 S9.flags)).setCell ⟨vb, 4, none⟩ (.int .u64 S9.epoch)) = w8 at *
  have k9 : (E9 != 0) = true := by have := HN9.out; simpa using this
  have Vq0 := (V_10.out).cell 0
  have Vq1 := (V_10.out).cell 1
  have Vq2 := (V_10.out).cell 2
  have Vq3 := (V_10.out).cell 3
  have Vq4 := (V_10.out).cell 4
  simp only [List.getElem?_toArray, List.getElem?_cons_succ, List.getElem?_cons_zero] at Vq0 Vq1 Vq2 Vq3 Vq4
  have Vf0 := (V_10.out).frozen 0
  have Vf1 := (V_10.out).frozen 1
  have Vf2 := (V_10.out).frozen 2
  have Vf3 := (V_10.out).frozen 3
  have Vf4 := (V_10.out).frozen 4
  have Fq0 := (F_10.out).cell 0
  have Fq1 := (F_10.out).cell 1
  have Fq2 := (F_10.out).cell 2
  have Fq3 := (F_10.out).cell 3
  have Fq4 := (F_10.out).cell 4
  simp only [List.getElem?_toArray, List.getElem?_cons_succ, List.getElem?_cons_zero] at Fq0 Fq1 Fq2 Fq3 Fq4
  go_upto_region 17 with fail
  clear Vq0 Vq1 Vq2 Vq3 Vq4 Vf0 Vf1 Vf2 Vf3 Vf4 Fq0 Fq1 Fq2 Fq3 Fq4
  have hbb := set5_blk (x0 := .int .i64 s.mode) (x1 := .int .i64 s.source) (x2 := .bool s.hold) (x3 := .int .i64 s.flags) (x4 := .int .u64 s.epoch) V_10.out
  have ee : Ex (fun k => k = vb) w8 (((((w8.setCell ⟨vb, 0, none⟩ (.int .i64 s.mode)).setCell ⟨vb, 1, none⟩ (.int .i64 s.source)).setCell ⟨vb, 2, none⟩ (.bool s.hold)).setCell ⟨vb, 3, none⟩ (.int .i64 s.flags)).setCell ⟨vb, 4, none⟩ (.int .u64 s.epoch)) := ((((((Ex.refl (fun q => q = vb) w8).setCell (q := ⟨vb, 0, none⟩) (.inl rfl) (.int .i64 s.mode)).setCell (q := ⟨vb, 1, none⟩) (.inl rfl) (.int .i64 s.source)).setCell (q := ⟨vb, 2, none⟩) (.inl rfl) (.bool s.hold)).setCell (q := ⟨vb, 3, none⟩) (.inl rfl) (.int .i64 s.flags)).setCell (q := ⟨vb, 4, none⟩) (.inl rfl) (.int .u64 s.epoch))
  have T_11 := Lib.hid (T_10.out.ex ee (by have o_ := ORD7.out; omega))
  have L_11 := Lib.hid (L_10.out.ex ee (fun b_ h_ => by have o_ := ORD7.out; have h_ : b_ = vb := h_; first | omega | (show _ ∨ _; omega)))
  have F_11 := Lib.hid (F_10.out.ex ee (by have o_ := ORD7.out; omega))
  have P_11 := Lib.hid (P_10.out.ex ee (by have o_ := ORD7.out; omega))
  have K_11 := Lib.hid (K_10.out.ex ee (by have o_ := ORD7.out; omega) (by have o_ := ORD7.out; omega))
  have Aa_11 := Lib.hid (Aa_10.out.ex ee (by have o_ := ORD7.out; omega) (by have o_ := ORD7.out; omega))
  have V_11 := Lib.hid (hbb)
  clear ee T_10 L_10 F_10 P_10 K_10 Aa_10 V_10 hbb
  generalize (((((w8.setCell ⟨vb, 0, none⟩ (.int .i64 s.mode)).setCell ⟨vb, 1, none⟩ (.int .i64 s.source)).setCell ⟨vb, 2, none⟩ (.bool s.hold)).setCell ⟨vb, 3, none⟩ (.int .i64 s.flags)).setCell ⟨vb, 4, none⟩ (.int .u64 s.epoch)) = w9 at *
  have Pq0 := (P_11.out).cell 0
  have Pq1 := (P_11.out).cell 1
  have Pq2 := (P_11.out).cell 2
  have Pq3 := (P_11.out).cell 3
  have Pq4 := (P_11.out).cell 4
  simp only [List.getElem?_toArray, List.getElem?_cons_succ, List.getElem?_cons_zero] at Pq0 Pq1 Pq2 Pq3 Pq4
  go_wp2_with fail
  clear Pq0 Pq1 Pq2 Pq3 Pq4
  refine (run_any g rr oa ba [wordI s] 1 (.tell fl) HOK.out n 0 (AX.zero n) Ia_4.out w9 rfl Aa_11.out K_11.out T_11.out (by have o_ := ORD7.out; omega)).mono ?_; rintro e w12r ⟨rfl, hb, ha, _, hx⟩
  have e1 : aRun (.tell fl) 0 40 ((AX.zero n), [wordI s], 1) = (⟨1, false, 0, St.zero, s, E9, n, 1⟩, [wordI s], 2) := by rw [← HE9.out]; exact alone_stay HS.out H0.out (by decide) (.inr HE.out)
  rw [e1] at hb ha ⊢
  simp only at hb ha ⊢
  have ee : Ex (fun k => k = g ∨ k = rr ∨ k = oa) w9 w12r := hx
  have T_13 := Lib.hid (T_11.out.ex ee (by have o_ := ORD7.out; omega))
  have L_13 := Lib.hid (L_11.out.ex ee (fun b_ h_ => by have o_ := ORD7.out; have h_ : b_ = g ∨ b_ = rr ∨ b_ = oa := h_; first | omega | (show _ ∨ _; omega)))
  have F_13 := Lib.hid (F_11.out.ex ee (by have o_ := ORD7.out; omega))
  have P_13 := Lib.hid (P_11.out.ex ee (by have o_ := ORD7.out; omega))
  have V_13 := Lib.hid (V_11.out.ex ee (by have o_ := ORD7.out; omega))
  have K_13 := Lib.hid (hb)
  have Aa_13 := Lib.hid (ha)
  clear ee T_11 L_11 F_11 P_11 K_11 Aa_11 V_11 hb ha hx e1
  go_wp2_with fail
  have HG := Lib.hid (Got_any oa ba (.tell fl) 0 ⟨1, false, 0, St.zero, s, E9, n, 1⟩ w12r Aa_13.out)
  unfold St.val at HG
  simp only at HG
  refine (HG.out).mono ?_; rintro e w10 ⟨rfl, hb⟩
  clear HG
  have ee : Ex (fun _ => False) w12r w10 := Ex.of_below hb
  have T_14 := Lib.hid (T_13.out.ex ee (fun h => h))
  have L_14 := Lib.hid (L_13.out.ex ee (fun b_ h_ => h_.elim))
  have F_14 := Lib.hid (F_13.out.ex ee (fun h => h))
  have P_14 := Lib.hid (P_13.out.ex ee (fun h => h))
  have K_14 := Lib.hid (K_13.out.ex ee (fun h => h) (fun h => h))
  have Aa_14 := Lib.hid (Aa_13.out.ex ee (fun h => h) (fun h => h))
  have V_14 := Lib.hid (V_13.out.ex ee (fun h => h))
  clear ee T_13 L_13 F_13 P_13 K_13 Aa_13 V_13 hb
  go_wp2_with fail
  obtain ⟨sb, hsb, hM⟩ : ∃ sb : Nat, w10.heap.size = sb ∧ g < sb ∧ rr < sb ∧ oa < sb ∧ ba < sb ∧ vb < sb := ⟨w10.heap.size, rfl, K_14.out.head.lt, K_14.out.row.lt, Aa_14.out.head.lt, ArbAt.blt Aa_14.out rfl, V_14.out.lt⟩
  have ORD15 := Lib.hid (show 0 < fb ∧ fb + 1 = pb ∧ pb < rr ∧ rr + 1 = g ∧ g < Ma ∧ rr < Ma ∧ Ma ≤ oa ∧ (Ma ≤ ba ∨ ba = 0) ∧ g < vb ∧ rr < vb ∧ oa < vb ∧ ba < vb ∧ g < sb ∧ rr < sb ∧ oa < sb ∧ ba < sb ∧ vb < sb from by have o_ := ORD7.out; omega)
  have hnb := Blk.new w10 34 #[.int .i64 s.mode, .int .i64 s.source, .bool s.hold, .int .i64 s.flags, .int .u64 s.epoch]
  rw [hsb] at hnb
  simp only [hsb]
  have ee : Ex (fun _ => False) w10 (w10.alloc (.cells #[.int .i64 s.mode, .int .i64 s.source, .bool s.hold, .int .i64 s.flags, .int .u64 s.epoch] 34)) := (Ex.refl (fun _ => False) w10).alloc (.cells #[.int .i64 s.mode, .int .i64 s.source, .bool s.hold, .int .i64 s.flags, .int .u64 s.epoch] 34)
  have T_16 := Lib.hid (T_14.out.ex ee (fun h => h))
  have L_16 := Lib.hid (L_14.out.ex ee (fun b_ h_ => h_.elim))
  have F_16 := Lib.hid (F_14.out.ex ee (fun h => h))
  have P_16 := Lib.hid (P_14.out.ex ee (fun h => h))
  have K_16 := Lib.hid (K_14.out.ex ee (fun h => h) (fun h => h))
  have Aa_16 := Lib.hid (Aa_14.out.ex ee (fun h => h) (fun h => h))
  have V_16 := Lib.hid (V_14.out.ex ee (fun h => h))
  have S_16 := Lib.hid (hnb)
  clear ee T_14 L_14 F_14 P_14 K_14 Aa_14 V_14 hnb hM ORD7
  generalize w10.alloc (.cells #[.int .i64 s.mode, .int .i64 s.source, .bool s.hold, .int .i64 s.flags, .int .u64 s.epoch] 34) = w11 at *
  clear hsb
  go_wp2_with fail
  refine (Peek_any g rr [wordI s] 2 0 w11 K_16.out).mono ?_; rintro e w12 ⟨rfl, hb⟩
  rw [show wordF [wordI s] 0 = wordI s from word1 _]
  have ee : Ex (fun _ => False) w11 w12 := Ex.of_below hb
  have T_17 := Lib.hid (T_16.out.ex ee (fun h => h))
  have L_17 := Lib.hid (L_16.out.ex ee (fun b_ h_ => h_.elim))
  have F_17 := Lib.hid (F_16.out.ex ee (fun h => h))
  have P_17 := Lib.hid (P_16.out.ex ee (fun h => h))
  have K_17 := Lib.hid (K_16.out.ex ee (fun h => h) (fun h => h))
  have Aa_17 := Lib.hid (Aa_16.out.ex ee (fun h => h) (fun h => h))
  have V_17 := Lib.hid (V_16.out.ex ee (fun h => h))
  have S_17 := Lib.hid (S_16.out.ex ee (fun h => h))
  clear ee T_16 L_16 F_16 P_16 K_16 Aa_16 V_16 S_16 hb
  go_wp2_with fail
  have hun := fun W => Unpack_any (wordI s) (wordI_range (mayE_zero.1 H0.out).1 HS.out) W
  simp only [(un_word HS.out H0.out).1, (un_word HS.out H0.out).2] at hun
  unfold St.val at hun
  have HUN := Lib.hid hun
  clear hun
  refine (HUN.out w12).mono ?_; rintro e w13 ⟨rfl, hb⟩
  clear HUN
  have ee : Ex (fun _ => False) w12 w13 := Ex.of_below hb
  have T_18 := Lib.hid (T_17.out.ex ee (fun h => h))
  have L_18 := Lib.hid (L_17.out.ex ee (fun b_ h_ => h_.elim))
  have F_18 := Lib.hid (F_17.out.ex ee (fun h => h))
  have P_18 := Lib.hid (P_17.out.ex ee (fun h => h))
  have K_18 := Lib.hid (K_17.out.ex ee (fun h => h) (fun h => h))
  have Aa_18 := Lib.hid (Aa_17.out.ex ee (fun h => h) (fun h => h))
  have V_18 := Lib.hid (V_17.out.ex ee (fun h => h))
  have S_18 := Lib.hid (S_17.out.ex ee (fun h => h))
  clear ee T_17 L_17 F_17 P_17 K_17 Aa_17 V_17 S_17 hb
  go_upto_region 22 with fail
  obtain ⟨mb, hsb, hM⟩ : ∃ mb : Nat, w13.heap.size = mb ∧ g < mb ∧ rr < mb ∧ oa < mb ∧ ba < mb ∧ vb < mb ∧ sb < mb := ⟨w13.heap.size, rfl, K_18.out.head.lt, K_18.out.row.lt, Aa_18.out.head.lt, ArbAt.blt Aa_18.out rfl, V_18.out.lt, S_18.out.lt⟩
  have ORD19 := Lib.hid (show 0 < fb ∧ fb + 1 = pb ∧ pb < rr ∧ rr + 1 = g ∧ g < Ma ∧ rr < Ma ∧ Ma ≤ oa ∧ (Ma ≤ ba ∨ ba = 0) ∧ g < vb ∧ rr < vb ∧ oa < vb ∧ ba < vb ∧ g < sb ∧ rr < sb ∧ oa < sb ∧ ba < sb ∧ vb < sb ∧ g < mb ∧ rr < mb ∧ oa < mb ∧ ba < mb ∧ vb < mb ∧ sb < mb from by have o_ := ORD15.out; omega)
  have hnb := Blk.new w13 34 #[.int .i64 s.mode, .int .i64 s.source, .bool s.hold, .int .i64 s.flags, .int .u64 s.epoch]
  rw [hsb] at hnb
  simp only [hsb]
  have ee : Ex (fun _ => False) w13 (w13.alloc (.cells #[.int .i64 s.mode, .int .i64 s.source, .bool s.hold, .int .i64 s.flags, .int .u64 s.epoch] 34)) := (Ex.refl (fun _ => False) w13).alloc (.cells #[.int .i64 s.mode, .int .i64 s.source, .bool s.hold, .int .i64 s.flags, .int .u64 s.epoch] 34)
  have T_20 := Lib.hid (T_18.out.ex ee (fun h => h))
  have L_20 := Lib.hid (L_18.out.ex ee (fun b_ h_ => h_.elim))
  have F_20 := Lib.hid (F_18.out.ex ee (fun h => h))
  have P_20 := Lib.hid (P_18.out.ex ee (fun h => h))
  have K_20 := Lib.hid (K_18.out.ex ee (fun h => h) (fun h => h))
  have Aa_20 := Lib.hid (Aa_18.out.ex ee (fun h => h) (fun h => h))
  have V_20 := Lib.hid (V_18.out.ex ee (fun h => h))
  have S_20 := Lib.hid (S_18.out.ex ee (fun h => h))
  have M_20 := Lib.hid (hnb)
  clear ee T_18 L_18 F_18 P_18 K_18 Aa_18 V_18 S_18 hnb hM ORD15
  generalize w13.alloc (.cells #[.int .i64 s.mode, .int .i64 s.source, .bool s.hold, .int .i64 s.flags, .int .u64 s.epoch] 34) = w14 at *
  clear hsb
  have eq0 : (s.mode == s.mode) = true := by simp
  have eq1 : (s.source == s.source) = true := by simp
  have eq2 : (s.hold == s.hold) = true := by simp
  have eq3 : (s.flags == s.flags) = true := by simp
  have eq4 : (s.epoch == s.epoch) = true := by simp
  have eqe : (E9 == E9) = true := by simp
  have Sq0 := (S_20.out).cell 0
  have Sq1 := (S_20.out).cell 1
  have Sq2 := (S_20.out).cell 2
  have Sq3 := (S_20.out).cell 3
  have Sq4 := (S_20.out).cell 4
  simp only [List.getElem?_toArray, List.getElem?_cons_succ, List.getElem?_cons_zero] at Sq0 Sq1 Sq2 Sq3 Sq4
  have Vq0 := (V_20.out).cell 0
  have Vq1 := (V_20.out).cell 1
  have Vq2 := (V_20.out).cell 2
  have Vq3 := (V_20.out).cell 3
  have Vq4 := (V_20.out).cell 4
  simp only [List.getElem?_toArray, List.getElem?_cons_succ, List.getElem?_cons_zero] at Vq0 Vq1 Vq2 Vq3 Vq4
  have Mq0 := (M_20.out).cell 0
  have Mq1 := (M_20.out).cell 1
  have Mq2 := (M_20.out).cell 2
  have Mq3 := (M_20.out).cell 3
  have Mq4 := (M_20.out).cell 4
  simp only [List.getElem?_toArray, List.getElem?_cons_succ, List.getElem?_cons_zero] at Mq0 Mq1 Mq2 Mq3 Mq4
  go_wp2_with fail
  refine (Steps_any oa ba (.tell fl) 0 ⟨1, false, 0, St.zero, s, E9, n, 1⟩ w14 Aa_20.out).mono ?_; rintro e w_ ⟨rfl, rfl⟩
  go_wp2_with fail
  refine (At_done oa ba (.tell fl) 0 ⟨1, false, 0, St.zero, s, E9, n, 1⟩ w14 Aa_20.out rfl).mono ?_; rintro e w_ ⟨rfl, rfl⟩
  go_wp2_with fail
  refine (Touches_any g rr [wordI s] 2 w14 K_20.out).mono ?_; rintro e w_ ⟨rfl, rfl⟩
  go_wp2_with fail
  have IZ := Lib.hid (show AInv (.tell fl) n ⟨1, false, 0, St.zero, s, E9, n, 1⟩ from by have := HIV.out; exact ⟨this.nn, by simp, fun h => by simp at h, fun h => by simp at h, fun _ => ⟨rfl, fun h => by simp at h⟩, fun h => by simp at h⟩)
  clear Sq0 Sq1 Sq2 Sq3 Sq4 Vq0 Vq1 Vq2 Vq3 Vq4 Mq0 Mq1 Mq2 Mq3 Mq4
  refine (Step_any g rr oa ba [wordI s] 2 (.tell fl) HOK.out n 0 ⟨1, false, 0, St.zero, s, E9, n, 1⟩ IZ.out w14 Aa_20.out K_20.out T_20.out (by have o_ := ORD19.out; omega)).mono ?_; rintro e w21s ⟨rfl, hb, ha, hx⟩
  have e1 : aStep (.tell fl) 0 [wordI s] ⟨1, false, 0, St.zero, s, E9, n, 1⟩ = ⟨1, false, 0, St.zero, s, E9, n, 1⟩ := by first | exact (still_step (k := (.tell fl)) (at_ := 0) (ws := [wordI s]) (t := 2) (x := ⟨1, false, 0, St.zero, s, E9, n, 1⟩) (show (1 : Int) ≠ 0 by decide)).1 | exact (still_step (k := (.tell fl)) (at_ := 0) (ws := [wordI s]) (t := 2) (x := ⟨1, false, 0, St.zero, s, E9, n, 1⟩) (show (1 : Int) ≠ 0 by decide)).2.1 | exact (still_step (k := (.tell fl)) (at_ := 0) (ws := [wordI s]) (t := 2) (x := ⟨1, false, 0, St.zero, s, E9, n, 1⟩) (show (1 : Int) ≠ 0 by decide)).2.2
  have e2 : aWs 0 [wordI s] ⟨1, false, 0, St.zero, s, E9, n, 1⟩ = [wordI s] := by first | exact (still_step (k := (.tell fl)) (at_ := 0) (ws := [wordI s]) (t := 2) (x := ⟨1, false, 0, St.zero, s, E9, n, 1⟩) (show (1 : Int) ≠ 0 by decide)).1 | exact (still_step (k := (.tell fl)) (at_ := 0) (ws := [wordI s]) (t := 2) (x := ⟨1, false, 0, St.zero, s, E9, n, 1⟩) (show (1 : Int) ≠ 0 by decide)).2.1 | exact (still_step (k := (.tell fl)) (at_ := 0) (ws := [wordI s]) (t := 2) (x := ⟨1, false, 0, St.zero, s, E9, n, 1⟩) (show (1 : Int) ≠ 0 by decide)).2.2
  have e3 : aT 0 [wordI s] ⟨1, false, 0, St.zero, s, E9, n, 1⟩ 2 = 2 := by first | exact (still_step (k := (.tell fl)) (at_ := 0) (ws := [wordI s]) (t := 2) (x := ⟨1, false, 0, St.zero, s, E9, n, 1⟩) (show (1 : Int) ≠ 0 by decide)).1 | exact (still_step (k := (.tell fl)) (at_ := 0) (ws := [wordI s]) (t := 2) (x := ⟨1, false, 0, St.zero, s, E9, n, 1⟩) (show (1 : Int) ≠ 0 by decide)).2.1 | exact (still_step (k := (.tell fl)) (at_ := 0) (ws := [wordI s]) (t := 2) (x := ⟨1, false, 0, St.zero, s, E9, n, 1⟩) (show (1 : Int) ≠ 0 by decide)).2.2
  have Ia_21 := Lib.hid (e1 ▸ IZ.out.step (at_ := 0) (wordF_range K_20.out 0))
  rw [e2, e3] at hb
  rw [e1] at ha ⊢
  have ee : Ex (fun k => k = g ∨ k = rr ∨ k = oa) w14 w21s := hx
  have T_22 := Lib.hid (T_20.out.ex ee (by have o_ := ORD19.out; omega))
  have L_22 := Lib.hid (L_20.out.ex ee (fun b_ h_ => by have o_ := ORD19.out; have h_ : b_ = g ∨ b_ = rr ∨ b_ = oa := h_; first | omega | (show _ ∨ _; omega)))
  have F_22 := Lib.hid (F_20.out.ex ee (by have o_ := ORD19.out; omega))
  have P_22 := Lib.hid (P_20.out.ex ee (by have o_ := ORD19.out; omega))
  have V_22 := Lib.hid (V_20.out.ex ee (by have o_ := ORD19.out; omega))
  have S_22 := Lib.hid (S_20.out.ex ee (by have o_ := ORD19.out; omega))
  have M_22 := Lib.hid (M_20.out.ex ee (by have o_ := ORD19.out; omega))
  have K_22 := Lib.hid (hb)
  have Aa_22 := Lib.hid (ha)
  clear ee T_20 L_20 F_20 P_20 K_20 Aa_20 V_20 S_20 M_20 hb ha hx e1 e2 e3 IZ
  go_wp2_with fail
  refine (Touches_any g rr [wordI s] 2 w21s K_22.out).mono ?_; rintro e w_ ⟨rfl, rfl⟩
  go_wp2_with fail
  refine (awake_any w21s T_22.out).mono ?_; rintro e w15 ⟨rfl, hb⟩
  have ee : Ex (fun _ => False) w21s w15 := Ex.of_below hb
  have T_23 := Lib.hid (T_22.out.ex ee (fun h => h))
  have L_23 := Lib.hid (L_22.out.ex ee (fun b_ h_ => h_.elim))
  have F_23 := Lib.hid (F_22.out.ex ee (fun h => h))
  have P_23 := Lib.hid (P_22.out.ex ee (fun h => h))
  have K_23 := Lib.hid (K_22.out.ex ee (fun h => h) (fun h => h))
  have Aa_23 := Lib.hid (Aa_22.out.ex ee (fun h => h) (fun h => h))
  have V_23 := Lib.hid (V_22.out.ex ee (fun h => h))
  have S_23 := Lib.hid (S_22.out.ex ee (fun h => h))
  have M_23 := Lib.hid (M_22.out.ex ee (fun h => h))
  clear ee T_22 L_22 F_22 P_22 K_22 Aa_22 V_22 S_22 M_22 hb
  go_wp2_with fail
  go_ret
  exact ⟨rfl, L_23.out.low.mono HBS.out⟩
set_option maxRecDepth 100000 in
set_option maxHeartbeats 4000000 in
theorem Al_tell_turn (s : St) (hs : s.Ok) (so mo : Int) (fr : Bool) (fl n : Int) (hp : (⟨1, so, mo, fr, fl⟩ : Pl).Ok) (w : World) (ht : Tab w) (h0 : mayE s = 0) (hm : (⟨1, so, mo, fr, fl⟩ : Pl).May n) (hE : (Kd.tell fl).E s = 0) :
    Calls Tryd.prog 6 #[s.val, .agg #[.int .i64 1, .int .i64 so, .int .i64 mo, .bool fr, .int .i64 fl], .int .i64 n] w fun e w' => e = .returned (.bool true) ∧ Below w.heap.size w w' := by
  have HS := Lib.hid hs
  have H0 := Lib.hid h0
  have ekd : Pl.kd ⟨1, so, mo, fr, fl⟩ = (.tell fl) := rfl
  have ekn : Pl.n ⟨1, so, mo, fr, fl⟩ n = n := rfl
  have hok := Pl.kd_ok hp
  have hiv := Pl.inv hm
  have hbg := fun W hz => begin_in 0 n (⟨1, so, mo, fr, fl⟩ : Pl) W hz hm
  unfold Pl.val at hbg
  simp only [ekd, ekn] at hok hiv hbg
  have HOK := Lib.hid hok
  have HIV := Lib.hid hiv
  have HBG := Lib.hid hbg
  clear ekd ekn hok hiv hbg hm
  have hpk := fun W => Pack_ok s hs h0 W
  unfold St.val at hpk ⊢
  have HPK := Lib.hid hpk
  clear hpk
  have HE := Lib.hid hE
  clear hE
  obtain ⟨S9, hS9⟩ : ∃ S9, (Kd.tell fl).S s = S9 := ⟨_, rfl⟩
  have HS9 := Lib.hid hS9
  have HN9 := Lib.hid (after_ok rfl HOK.out hs h0 HE.out)
  rw [hS9] at HN9
  have hdc : ∀ W, Tab W → Calls Tryd.prog 26 #[.agg #[.int .i64 s.mode, .int .i64 s.source, .bool s.hold, .int .i64 s.flags, .int .u64 s.epoch], .int .i64 fl] W fun e w' => e = .returned (.tuple #[.agg #[.int .i64 S9.mode, .int .i64 S9.source, .bool S9.hold, .int .i64 S9.flags, .int .u64 S9.epoch], .int .i64 0]) ∧ Below W.heap.size W w' := by
    intro W hT
    have := Health_any s hs fl W
    rw [show healthS s fl = S9 from hS9, show healthE s fl = 0 from HE.out] at this
    exact this
  have HDC := Lib.hid hdc
  clear hdc hS9
  clear hs h0 hp
  have hq0 := ((blk_new' w (g := w.heap.size) (by simp) 34 #[.int .i64 s.mode, .int .i64 s.source, .bool s.hold, .int .i64 s.flags, .int .u64 s.epoch]).alloc (.cells #[.int .i64 1, .int .i64 so, .int .i64 mo, .bool fr, .int .i64 fl] 41))
  have hq1 := (blk_new' (w.alloc (.cells #[.int .i64 s.mode, .int .i64 s.source, .bool s.hold, .int .i64 s.flags, .int .u64 s.epoch] 34)) (g := w.heap.size + 1) (by simp) 41 #[.int .i64 1, .int .i64 so, .int .i64 mo, .bool fr, .int .i64 fl])
  have hlo := (((Below.refl w.heap.size w).alloc (by first | exact Nat.le_refl _ | (simp; done) | (simp; omega)) (.cells #[.int .i64 s.mode, .int .i64 s.source, .bool s.hold, .int .i64 s.flags, .int .u64 s.epoch] 34)).alloc (by first | exact Nat.le_refl _ | (simp; done) | (simp; omega)) (.cells #[.int .i64 1, .int .i64 so, .int .i64 mo, .bool fr, .int .i64 fl] 41))
  have hz0 : 0 < w.heap.size := lt_of_cell (ht 0 (by decide))
  have ht1 := ht.below hlo
  go_enter Tryd.func6, Tryd.ntmps6
  go_upto_region 1 with fail
  generalize ((w.alloc (.cells #[.int .i64 s.mode, .int .i64 s.source, .bool s.hold, .int .i64 s.flags, .int .u64 s.epoch] 34)).alloc (.cells #[.int .i64 1, .int .i64 so, .int .i64 mo, .bool fr, .int .i64 fl] 41)) = w1 at *
  obtain ⟨fb, hfb⟩ : ∃ fb, w.heap.size = fb := ⟨_, rfl⟩
  have hlo9 : Lo w.heap.size w w1 := ⟨hlo, hlo.size⟩
  have HBS := Lib.hid (Nat.le_of_eq hfb)
  simp only [hfb] at hlo9 hz0 hq0 hq1 ⊢
  obtain ⟨pb, hfb1⟩ : ∃ pb, fb + 1 = pb := ⟨_, rfl⟩
  simp only [hfb1] at hq1 ⊢
  have ORD0 := Lib.hid (show 0 < fb ∧ fb + 1 = pb from ⟨hz0, hfb1⟩)
  have T0 := Lib.hid ht1
  have L0 := Lib.hid hlo9
  have F0 := Lib.hid hq0
  have P0 := Lib.hid hq1
  clear ht ht1 hlo hlo9 hz0 hfb hfb1 hq0 hq1
  have Fq0 := (F0.out).cell 0
  have Fq1 := (F0.out).cell 1
  have Fq2 := (F0.out).cell 2
  have Fq3 := (F0.out).cell 3
  have Fq4 := (F0.out).cell 4
  simp only [List.getElem?_toArray, List.getElem?_cons_succ, List.getElem?_cons_zero] at Fq0 Fq1 Fq2 Fq3 Fq4
  go_wp2_with fail
  refine (HPK.out w1).mono ?_; rintro e w2 ⟨rfl, hb⟩
  clear Fq0 Fq1 Fq2 Fq3 Fq4
  have ee : Ex (fun _ => False) w1 w2 := Ex.of_below hb
  have T_1 := Lib.hid (T0.out.ex ee (fun h => h))
  have L_1 := Lib.hid (L0.out.ex ee (fun b_ h_ => h_.elim))
  have F_1 := Lib.hid (F0.out.ex ee (fun h => h))
  have P_1 := Lib.hid (P0.out.ex ee (fun h => h))
  clear ee T0 L0 F0 P0 hb
  go_wp2_with fail
  refine (New_in 1 (by decide) (by decide) w2).mono ?_; rintro e w3 ⟨rfl, hb, hl, hsz⟩
  have hb : BankAt w3 (w2.heap.size + 1) w2.heap.size [0] 0 := hb
  obtain ⟨rr, hrr⟩ : ∃ rr, w2.heap.size = rr := ⟨_, rfl⟩
  have hlt : pb < rr := hrr ▸ P_1.out.lt
  simp only [hrr] at hb ⊢
  obtain ⟨g, hg⟩ : ∃ g, rr + 1 = g := ⟨_, rfl⟩
  simp only [hg] at hb ⊢
  have ORD2 := Lib.hid (show 0 < fb ∧ fb + 1 = pb ∧ pb < rr ∧ rr + 1 = g from by have o_ := ORD0.out; omega)
  have ee : Ex (fun _ => False) w2 w3 := Ex.of_below hl
  have T_3 := Lib.hid (T_1.out.ex ee (fun h => h))
  have L_3 := Lib.hid (L_1.out.ex ee (fun b_ h_ => h_.elim))
  have F_3 := Lib.hid (F_1.out.ex ee (fun h => h))
  have P_3 := Lib.hid (P_1.out.ex ee (fun h => h))
  have K_3 := Lib.hid (hb)
  clear ee T_1 L_1 F_1 P_1 hb hl hsz hrr hlt hg ORD0
  have Pq0 := (P_3.out).cell 0
  have Pq1 := (P_3.out).cell 1
  have Pq2 := (P_3.out).cell 2
  have Pq3 := (P_3.out).cell 3
  have Pq4 := (P_3.out).cell 4
  simp only [List.getElem?_toArray, List.getElem?_cons_succ, List.getElem?_cons_zero] at Pq0 Pq1 Pq2 Pq3 Pq4
  go_wp2_with fail
  clear Pq0 Pq1 Pq2 Pq3 Pq4
  refine (HBG.out w3 (Nat.lt_of_le_of_lt (Nat.zero_le _) K_3.out.head.lt)).mono ?_; rintro e w4a ⟨oa, ba, rfl, ha, hs1, hs2, hs3, hs4, hb⟩
  obtain ⟨Ma, hM⟩ : ∃ Ma : Nat, g < Ma ∧ rr < Ma ∧ Ma ≤ oa ∧ (Ma ≤ ba ∨ ba = 0) := ⟨w3.heap.size, K_3.out.head.lt, K_3.out.row.lt, hs1, hs2⟩
  have ORD4 := Lib.hid (show 0 < fb ∧ fb + 1 = pb ∧ pb < rr ∧ rr + 1 = g ∧ g < Ma ∧ rr < Ma ∧ Ma ≤ oa ∧ (Ma ≤ ba ∨ ba = 0) from by have o_ := ORD2.out; omega)
  have Ia_4 := Lib.hid (show AInv (.tell fl) n (AX.zero n) from HIV.out)
  have ee : Ex (fun _ => False) w3 w4a := Ex.of_below hb
  have T_5 := Lib.hid (T_3.out.ex ee (fun h => h))
  have L_5 := Lib.hid (L_3.out.ex ee (fun b_ h_ => h_.elim))
  have F_5 := Lib.hid (F_3.out.ex ee (fun h => h))
  have P_5 := Lib.hid (P_3.out.ex ee (fun h => h))
  have K_5 := Lib.hid (K_3.out.ex ee (fun h => h) (fun h => h))
  have Aa_5 := Lib.hid (ha)
  clear ee T_3 L_3 F_3 P_3 K_3 hb hs1 hs2 hs3 hs4 hM ORD2
  go_wp2_with fail
  refine (Store_any g rr [0] 0 0 (wordI s) w4a K_5.out (wordI_range (mayE_zero.1 H0.out).1 HS.out)).mono ?_; rintro e w5 ⟨rfl, hb, hx⟩
  have e1 : errF [0] 0 = 0 := rfl
  have e2 : setF [0] 0 (wordI s) = [wordI s] := set1 _ _
  have e3 : tickF [0] 0 0 = 1 := rfl
  rw [e2, e3] at hb
  rw [e1]
  have ee : Ex (fun k => k = g ∨ k = rr) w4a w5 := Ex.of_ex2 (T := fun k => k = g ∨ k = rr) hx (.inl rfl) (.inr rfl)
  have T_6 := Lib.hid (T_5.out.ex ee (by have o_ := ORD4.out; omega))
  have L_6 := Lib.hid (L_5.out.ex ee (fun b_ h_ => by have o_ := ORD4.out; have h_ : b_ = g ∨ b_ = rr := h_; first | omega | (show _ ∨ _; omega)))
  have F_6 := Lib.hid (F_5.out.ex ee (by have o_ := ORD4.out; omega))
  have P_6 := Lib.hid (P_5.out.ex ee (by have o_ := ORD4.out; omega))
  have Aa_6 := Lib.hid (Aa_5.out.ex ee (by have o_ := ORD4.out; omega) (by have o_ := ORD4.out; omega))
  have K_6 := Lib.hid (hb)
  clear ee T_5 L_5 F_5 P_5 K_5 Aa_5 hb hx e1 e2 e3
  have Fq0 := (F_6.out).cell 0
  have Fq1 := (F_6.out).cell 1
  have Fq2 := (F_6.out).cell 2
  have Fq3 := (F_6.out).cell 3
  have Fq4 := (F_6.out).cell 4
  simp only [List.getElem?_toArray, List.getElem?_cons_succ, List.getElem?_cons_zero] at Fq0 Fq1 Fq2 Fq3 Fq4
  go_upto_region 9 with fail
  clear Fq0 Fq1 Fq2 Fq3 Fq4
  obtain ⟨vb, hsb, hM⟩ : ∃ vb : Nat, w5.heap.size = vb ∧ g < vb ∧ rr < vb ∧ oa < vb ∧ ba < vb := ⟨w5.heap.size, rfl, K_6.out.head.lt, K_6.out.row.lt, Aa_6.out.head.lt, ArbAt.blt Aa_6.out rfl⟩
  have ORD7 := Lib.hid (show 0 < fb ∧ fb + 1 = pb ∧ pb < rr ∧ rr + 1 = g ∧ g < Ma ∧ rr < Ma ∧ Ma ≤ oa ∧ (Ma ≤ ba ∨ ba = 0) ∧ g < vb ∧ rr < vb ∧ oa < vb ∧ ba < vb from by have o_ := ORD4.out; omega)
  have hnb := Blk.new w5 34 #[.int .i64 s.mode, .int .i64 s.source, .bool s.hold, .int .i64 s.flags, .int .u64 s.epoch]
  rw [hsb] at hnb
  simp only [hsb]
  have ee : Ex (fun _ => False) w5 (w5.alloc (.cells #[.int .i64 s.mode, .int .i64 s.source, .bool s.hold, .int .i64 s.flags, .int .u64 s.epoch] 34)) := (Ex.refl (fun _ => False) w5).alloc (.cells #[.int .i64 s.mode, .int .i64 s.source, .bool s.hold, .int .i64 s.flags, .int .u64 s.epoch] 34)
  have T_8 := Lib.hid (T_6.out.ex ee (fun h => h))
  have L_8 := Lib.hid (L_6.out.ex ee (fun b_ h_ => h_.elim))
  have F_8 := Lib.hid (F_6.out.ex ee (fun h => h))
  have P_8 := Lib.hid (P_6.out.ex ee (fun h => h))
  have K_8 := Lib.hid (K_6.out.ex ee (fun h => h) (fun h => h))
  have Aa_8 := Lib.hid (Aa_6.out.ex ee (fun h => h) (fun h => h))
  have V_8 := Lib.hid (hnb)
  clear ee T_6 L_6 F_6 P_6 K_6 Aa_6 hnb hM ORD4
  generalize w5.alloc (.cells #[.int .i64 s.mode, .int .i64 s.source, .bool s.hold, .int .i64 s.flags, .int .u64 s.epoch] 34) = w6 at *
  clear hsb
  have Pq0 := (P_8.out).cell 0
  have Pq1 := (P_8.out).cell 1
  have Pq2 := (P_8.out).cell 2
  have Pq3 := (P_8.out).cell 3
  have Pq4 := (P_8.out).cell 4
  simp only [List.getElem?_toArray, List.getElem?_cons_succ, List.getElem?_cons_zero] at Pq0 Pq1 Pq2 Pq3 Pq4
  have Fq0 := (F_8.out).cell 0
  have Fq1 := (F_8.out).cell 1
  have Fq2 := (F_8.out).cell 2
  have Fq3 := (F_8.out).cell 3
  have Fq4 := (F_8.out).cell 4
  simp only [List.getElem?_toArray, List.getElem?_cons_succ, List.getElem?_cons_zero] at Fq0 Fq1 Fq2 Fq3 Fq4
  go_wp2_with fail
  refine (HDC.out w6 T_8.out).mono ?_; rintro e w7 ⟨rfl, hb⟩
  clear Pq0 Pq1 Pq2 Pq3 Pq4 Fq0 Fq1 Fq2 Fq3 Fq4
  have ee : Ex (fun _ => False) w6 w7 := Ex.of_below hb
  have T_9 := Lib.hid (T_8.out.ex ee (fun h => h))
  have L_9 := Lib.hid (L_8.out.ex ee (fun b_ h_ => h_.elim))
  have F_9 := Lib.hid (F_8.out.ex ee (fun h => h))
  have P_9 := Lib.hid (P_8.out.ex ee (fun h => h))
  have K_9 := Lib.hid (K_8.out.ex ee (fun h => h) (fun h => h))
  have Aa_9 := Lib.hid (Aa_8.out.ex ee (fun h => h) (fun h => h))
  have V_9 := Lib.hid (V_8.out.ex ee (fun h => h))
  clear ee T_8 L_8 F_8 P_8 K_8 Aa_8 V_8 hb
  have Vq0 := (V_9.out).cell 0
  have Vq1 := (V_9.out).cell 1
  have Vq2 := (V_9.out).cell 2
  have Vq3 := (V_9.out).cell 3
  have Vq4 := (V_9.out).cell 4
  simp only [List.getElem?_toArray, List.getElem?_cons_succ, List.getElem?_cons_zero] at Vq0 Vq1 Vq2 Vq3 Vq4
  have Vf0 := (V_9.out).frozen 0
  have Vf1 := (V_9.out).frozen 1
  have Vf2 := (V_9.out).frozen 2
  have Vf3 := (V_9.out).frozen 3
  have Vf4 := (V_9.out).frozen 4
  have Pq0 := (P_9.out).cell 0
  have Pq1 := (P_9.out).cell 1
  have Pq2 := (P_9.out).cell 2
  have Pq3 := (P_9.out).cell 3
  have Pq4 := (P_9.out).cell 4
  simp only [List.getElem?_toArray, List.getElem?_cons_succ, List.getElem?_cons_zero] at Pq0 Pq1 Pq2 Pq3 Pq4
  go_upto_region 15 with fail
  clear Vq0 Vq1 Vq2 Vq3 Vq4 Vf0 Vf1 Vf2 Vf3 Vf4 Pq0 Pq1 Pq2 Pq3 Pq4
  have hbb := set5_blk (x0 := .int .i64 S9.mode) (x1 := .int .i64 S9.source) (x2 := .bool S9.hold) (x3 := .int .i64 S9.flags) (x4 := .int .u64 S9.epoch) V_9.out
  have ee : Ex (fun k => k = vb) w7 (((((w7.setCell ⟨vb, 0, none⟩ (.int .i64 S9.mode)).setCell ⟨vb, 1, none⟩ (.int .i64 S9.source)).setCell ⟨vb, 2, none⟩ (.bool S9.hold)).setCell ⟨vb, 3, none⟩ (.int .i64 S9.flags)).setCell ⟨vb, 4, none⟩ (.int .u64 S9.epoch)) := ((((((Ex.refl (fun q => q = vb) w7).setCell (q := ⟨vb, 0, none⟩) (.inl rfl) (.int .i64 S9.mode)).setCell (q := ⟨vb, 1, none⟩) (.inl rfl) (.int .i64 S9.source)).setCell (q := ⟨vb, 2, none⟩) (.inl rfl) (.bool S9.hold)).setCell (q := ⟨vb, 3, none⟩) (.inl rfl) (.int .i64 S9.flags)).setCell (q := ⟨vb, 4, none⟩) (.inl rfl) (.int .u64 S9.epoch))
  have T_10 := Lib.hid (T_9.out.ex ee (by have o_ := ORD7.out; omega))
  have L_10 := Lib.hid (L_9.out.ex ee (fun b_ h_ => by have o_ := ORD7.out; have h_ : b_ = vb := h_; first | omega | (show _ ∨ _; omega)))
  have F_10 := Lib.hid (F_9.out.ex ee (by have o_ := ORD7.out; omega))
  have P_10 := Lib.hid (P_9.out.ex ee (by have o_ := ORD7.out; omega))
  have K_10 := Lib.hid (K_9.out.ex ee (by have o_ := ORD7.out; omega) (by have o_ := ORD7.out; omega))
  have Aa_10 := Lib.hid (Aa_9.out.ex ee (by have o_ := ORD7.out; omega) (by have o_ := ORD7.out; omega))
  have V_10 := Lib.hid (hbb)
  clear ee T_9 L_9 F_9 P_9 K_9 Aa_9 V_9 hbb
  generalize (((((w7.setCell ⟨vb, 0, none⟩ (.int .i64 S9.mode)).setCell ⟨vb, 1, none⟩ (.int .i64 S9.source)).setCell ⟨vb, 2, none⟩ (.bool S9.hold)).setCell ⟨vb, 3, none⟩ (.int .i64 S9.flags)).setCell ⟨vb, 4, none⟩ (.int .u64 S9.epoch)) = w8 at *
  have Pq0 := (P_10.out).cell 0
  have Pq1 := (P_10.out).cell 1
  have Pq2 := (P_10.out).cell 2
  have Pq3 := (P_10.out).cell 3
  have Pq4 := (P_10.out).cell 4
  simp only [List.getElem?_toArray, List.getElem?_cons_succ, List.getElem?_cons_zero] at Pq0 Pq1 Pq2 Pq3 Pq4
  go_wp2_with fail
  clear Pq0 Pq1 Pq2 Pq3 Pq4
  refine (run_any g rr oa ba [wordI s] 1 (.tell fl) HOK.out n 0 (AX.zero n) Ia_4.out w8 rfl Aa_10.out K_10.out T_10.out (by have o_ := ORD7.out; omega)).mono ?_; rintro e w11r ⟨rfl, hb, ha, _, hx⟩
  have e1 : aRun (.tell fl) 0 40 ((AX.zero n), [wordI s], 1) = (⟨1, false, wordI s, S9, S9, 0, n - 1, 2⟩, [wordI S9], 3) := by rw [← HS9.out]; exact alone_turn HS.out H0.out (by decide) (by intro h; rcases h with h | h; simp [Kd.isRead] at h; exact h HE.out)
  rw [e1] at hb ha ⊢
  simp only at hb ha ⊢
  have ee : Ex (fun k => k = g ∨ k = rr ∨ k = oa) w8 w11r := hx
  have T_12 := Lib.hid (T_10.out.ex ee (by have o_ := ORD7.out; omega))
  have L_12 := Lib.hid (L_10.out.ex ee (fun b_ h_ => by have o_ := ORD7.out; have h_ : b_ = g ∨ b_ = rr ∨ b_ = oa := h_; first | omega | (show _ ∨ _; omega)))
  have F_12 := Lib.hid (F_10.out.ex ee (by have o_ := ORD7.out; omega))
  have P_12 := Lib.hid (P_10.out.ex ee (by have o_ := ORD7.out; omega))
  have V_12 := Lib.hid (V_10.out.ex ee (by have o_ := ORD7.out; omega))
  have K_12 := Lib.hid (hb)
  have Aa_12 := Lib.hid (ha)
  clear ee T_10 L_10 F_10 P_10 K_10 Aa_10 V_10 hb ha hx e1
  go_wp2_with fail
  have HG := Lib.hid (Got_any oa ba (.tell fl) 0 ⟨1, false, wordI s, S9, S9, 0, n - 1, 2⟩ w11r Aa_12.out)
  unfold St.val at HG
  simp only at HG
  refine (HG.out).mono ?_; rintro e w10 ⟨rfl, hb⟩
  clear HG
  have ee : Ex (fun _ => False) w11r w10 := Ex.of_below hb
  have T_13 := Lib.hid (T_12.out.ex ee (fun h => h))
  have L_13 := Lib.hid (L_12.out.ex ee (fun b_ h_ => h_.elim))
  have F_13 := Lib.hid (F_12.out.ex ee (fun h => h))
  have P_13 := Lib.hid (P_12.out.ex ee (fun h => h))
  have K_13 := Lib.hid (K_12.out.ex ee (fun h => h) (fun h => h))
  have Aa_13 := Lib.hid (Aa_12.out.ex ee (fun h => h) (fun h => h))
  have V_13 := Lib.hid (V_12.out.ex ee (fun h => h))
  clear ee T_12 L_12 F_12 P_12 K_12 Aa_12 V_12 hb
  go_wp2_with fail
  obtain ⟨sb, hsb, hM⟩ : ∃ sb : Nat, w10.heap.size = sb ∧ g < sb ∧ rr < sb ∧ oa < sb ∧ ba < sb ∧ vb < sb := ⟨w10.heap.size, rfl, K_13.out.head.lt, K_13.out.row.lt, Aa_13.out.head.lt, ArbAt.blt Aa_13.out rfl, V_13.out.lt⟩
  have ORD14 := Lib.hid (show 0 < fb ∧ fb + 1 = pb ∧ pb < rr ∧ rr + 1 = g ∧ g < Ma ∧ rr < Ma ∧ Ma ≤ oa ∧ (Ma ≤ ba ∨ ba = 0) ∧ g < vb ∧ rr < vb ∧ oa < vb ∧ ba < vb ∧ g < sb ∧ rr < sb ∧ oa < sb ∧ ba < sb ∧ vb < sb from by have o_ := ORD7.out; omega)
  have hnb := Blk.new w10 34 #[.int .i64 S9.mode, .int .i64 S9.source, .bool S9.hold, .int .i64 S9.flags, .int .u64 S9.epoch]
  rw [hsb] at hnb
  simp only [hsb]
  have ee : Ex (fun _ => False) w10 (w10.alloc (.cells #[.int .i64 S9.mode, .int .i64 S9.source, .bool S9.hold, .int .i64 S9.flags, .int .u64 S9.epoch] 34)) := (Ex.refl (fun _ => False) w10).alloc (.cells #[.int .i64 S9.mode, .int .i64 S9.source, .bool S9.hold, .int .i64 S9.flags, .int .u64 S9.epoch] 34)
  have T_15 := Lib.hid (T_13.out.ex ee (fun h => h))
  have L_15 := Lib.hid (L_13.out.ex ee (fun b_ h_ => h_.elim))
  have F_15 := Lib.hid (F_13.out.ex ee (fun h => h))
  have P_15 := Lib.hid (P_13.out.ex ee (fun h => h))
  have K_15 := Lib.hid (K_13.out.ex ee (fun h => h) (fun h => h))
  have Aa_15 := Lib.hid (Aa_13.out.ex ee (fun h => h) (fun h => h))
  have V_15 := Lib.hid (V_13.out.ex ee (fun h => h))
  have S_15 := Lib.hid (hnb)
  clear ee T_13 L_13 F_13 P_13 K_13 Aa_13 V_13 hnb hM ORD7
  generalize w10.alloc (.cells #[.int .i64 S9.mode, .int .i64 S9.source, .bool S9.hold, .int .i64 S9.flags, .int .u64 S9.epoch] 34) = w11 at *
  clear hsb
  go_wp2_with fail
  refine (Peek_any g rr [wordI S9] 3 0 w11 K_15.out).mono ?_; rintro e w12 ⟨rfl, hb⟩
  rw [show wordF [wordI S9] 0 = wordI S9 from word1 _]
  have ee : Ex (fun _ => False) w11 w12 := Ex.of_below hb
  have T_16 := Lib.hid (T_15.out.ex ee (fun h => h))
  have L_16 := Lib.hid (L_15.out.ex ee (fun b_ h_ => h_.elim))
  have F_16 := Lib.hid (F_15.out.ex ee (fun h => h))
  have P_16 := Lib.hid (P_15.out.ex ee (fun h => h))
  have K_16 := Lib.hid (K_15.out.ex ee (fun h => h) (fun h => h))
  have Aa_16 := Lib.hid (Aa_15.out.ex ee (fun h => h) (fun h => h))
  have V_16 := Lib.hid (V_15.out.ex ee (fun h => h))
  have S_16 := Lib.hid (S_15.out.ex ee (fun h => h))
  clear ee T_15 L_15 F_15 P_15 K_15 Aa_15 V_15 S_15 hb
  go_wp2_with fail
  have hun := fun W => Unpack_any (wordI S9) (wordI_range (mayE_zero.1 HN9.out.2.1).1 HN9.out.1) W
  simp only [(un_word HN9.out.1 HN9.out.2.1).1, (un_word HN9.out.1 HN9.out.2.1).2] at hun
  unfold St.val at hun
  have HUN := Lib.hid hun
  clear hun
  refine (HUN.out w12).mono ?_; rintro e w13 ⟨rfl, hb⟩
  clear HUN
  have ee : Ex (fun _ => False) w12 w13 := Ex.of_below hb
  have T_17 := Lib.hid (T_16.out.ex ee (fun h => h))
  have L_17 := Lib.hid (L_16.out.ex ee (fun b_ h_ => h_.elim))
  have F_17 := Lib.hid (F_16.out.ex ee (fun h => h))
  have P_17 := Lib.hid (P_16.out.ex ee (fun h => h))
  have K_17 := Lib.hid (K_16.out.ex ee (fun h => h) (fun h => h))
  have Aa_17 := Lib.hid (Aa_16.out.ex ee (fun h => h) (fun h => h))
  have V_17 := Lib.hid (V_16.out.ex ee (fun h => h))
  have S_17 := Lib.hid (S_16.out.ex ee (fun h => h))
  clear ee T_16 L_16 F_16 P_16 K_16 Aa_16 V_16 S_16 hb
  go_upto_region 22 with fail
  obtain ⟨mb, hsb, hM⟩ : ∃ mb : Nat, w13.heap.size = mb ∧ g < mb ∧ rr < mb ∧ oa < mb ∧ ba < mb ∧ vb < mb ∧ sb < mb := ⟨w13.heap.size, rfl, K_17.out.head.lt, K_17.out.row.lt, Aa_17.out.head.lt, ArbAt.blt Aa_17.out rfl, V_17.out.lt, S_17.out.lt⟩
  have ORD18 := Lib.hid (show 0 < fb ∧ fb + 1 = pb ∧ pb < rr ∧ rr + 1 = g ∧ g < Ma ∧ rr < Ma ∧ Ma ≤ oa ∧ (Ma ≤ ba ∨ ba = 0) ∧ g < vb ∧ rr < vb ∧ oa < vb ∧ ba < vb ∧ g < sb ∧ rr < sb ∧ oa < sb ∧ ba < sb ∧ vb < sb ∧ g < mb ∧ rr < mb ∧ oa < mb ∧ ba < mb ∧ vb < mb ∧ sb < mb from by have o_ := ORD14.out; omega)
  have hnb := Blk.new w13 34 #[.int .i64 S9.mode, .int .i64 S9.source, .bool S9.hold, .int .i64 S9.flags, .int .u64 S9.epoch]
  rw [hsb] at hnb
  simp only [hsb]
  have ee : Ex (fun _ => False) w13 (w13.alloc (.cells #[.int .i64 S9.mode, .int .i64 S9.source, .bool S9.hold, .int .i64 S9.flags, .int .u64 S9.epoch] 34)) := (Ex.refl (fun _ => False) w13).alloc (.cells #[.int .i64 S9.mode, .int .i64 S9.source, .bool S9.hold, .int .i64 S9.flags, .int .u64 S9.epoch] 34)
  have T_19 := Lib.hid (T_17.out.ex ee (fun h => h))
  have L_19 := Lib.hid (L_17.out.ex ee (fun b_ h_ => h_.elim))
  have F_19 := Lib.hid (F_17.out.ex ee (fun h => h))
  have P_19 := Lib.hid (P_17.out.ex ee (fun h => h))
  have K_19 := Lib.hid (K_17.out.ex ee (fun h => h) (fun h => h))
  have Aa_19 := Lib.hid (Aa_17.out.ex ee (fun h => h) (fun h => h))
  have V_19 := Lib.hid (V_17.out.ex ee (fun h => h))
  have S_19 := Lib.hid (S_17.out.ex ee (fun h => h))
  have M_19 := Lib.hid (hnb)
  clear ee T_17 L_17 F_17 P_17 K_17 Aa_17 V_17 S_17 hnb hM ORD14
  generalize w13.alloc (.cells #[.int .i64 S9.mode, .int .i64 S9.source, .bool S9.hold, .int .i64 S9.flags, .int .u64 S9.epoch] 34) = w14 at *
  clear hsb
  have eq0 : (S9.mode == S9.mode) = true := by simp
  have eq1 : (S9.source == S9.source) = true := by simp
  have eq2 : (S9.hold == S9.hold) = true := by simp
  have eq3 : (S9.flags == S9.flags) = true := by simp
  have eq4 : (S9.epoch == S9.epoch) = true := by simp
  have Sq0 := (S_19.out).cell 0
  have Sq1 := (S_19.out).cell 1
  have Sq2 := (S_19.out).cell 2
  have Sq3 := (S_19.out).cell 3
  have Sq4 := (S_19.out).cell 4
  simp only [List.getElem?_toArray, List.getElem?_cons_succ, List.getElem?_cons_zero] at Sq0 Sq1 Sq2 Sq3 Sq4
  have Vq0 := (V_19.out).cell 0
  have Vq1 := (V_19.out).cell 1
  have Vq2 := (V_19.out).cell 2
  have Vq3 := (V_19.out).cell 3
  have Vq4 := (V_19.out).cell 4
  simp only [List.getElem?_toArray, List.getElem?_cons_succ, List.getElem?_cons_zero] at Vq0 Vq1 Vq2 Vq3 Vq4
  have Mq0 := (M_19.out).cell 0
  have Mq1 := (M_19.out).cell 1
  have Mq2 := (M_19.out).cell 2
  have Mq3 := (M_19.out).cell 3
  have Mq4 := (M_19.out).cell 4
  simp only [List.getElem?_toArray, List.getElem?_cons_succ, List.getElem?_cons_zero] at Mq0 Mq1 Mq2 Mq3 Mq4
  go_wp2_with fail
  refine (Steps_any oa ba (.tell fl) 0 ⟨1, false, wordI s, S9, S9, 0, n - 1, 2⟩ w14 Aa_19.out).mono ?_; rintro e w_ ⟨rfl, rfl⟩
  go_wp2_with fail
  refine (At_done oa ba (.tell fl) 0 ⟨1, false, wordI s, S9, S9, 0, n - 1, 2⟩ w14 Aa_19.out rfl).mono ?_; rintro e w_ ⟨rfl, rfl⟩
  go_wp2_with fail
  refine (Touches_any g rr [wordI S9] 3 w14 K_19.out).mono ?_; rintro e w_ ⟨rfl, rfl⟩
  go_wp2_with fail
  have IZ := Lib.hid (show AInv (.tell fl) n ⟨1, false, wordI s, S9, S9, 0, n - 1, 2⟩ from by have := HIV.out; exact ⟨this.nn, by simp, fun h => by simp at h, fun h => by simp at h, fun _ => ⟨rfl, fun h => by simp at h⟩, fun h => by simp at h⟩)
  clear Sq0 Sq1 Sq2 Sq3 Sq4 Vq0 Vq1 Vq2 Vq3 Vq4 Mq0 Mq1 Mq2 Mq3 Mq4
  refine (Step_any g rr oa ba [wordI S9] 3 (.tell fl) HOK.out n 0 ⟨1, false, wordI s, S9, S9, 0, n - 1, 2⟩ IZ.out w14 Aa_19.out K_19.out T_19.out (by have o_ := ORD18.out; omega)).mono ?_; rintro e w20s ⟨rfl, hb, ha, hx⟩
  have e1 : aStep (.tell fl) 0 [wordI S9] ⟨1, false, wordI s, S9, S9, 0, n - 1, 2⟩ = ⟨1, false, wordI s, S9, S9, 0, n - 1, 2⟩ := by first | exact (still_step (k := (.tell fl)) (at_ := 0) (ws := [wordI S9]) (t := 3) (x := ⟨1, false, wordI s, S9, S9, 0, n - 1, 2⟩) (show (1 : Int) ≠ 0 by decide)).1 | exact (still_step (k := (.tell fl)) (at_ := 0) (ws := [wordI S9]) (t := 3) (x := ⟨1, false, wordI s, S9, S9, 0, n - 1, 2⟩) (show (1 : Int) ≠ 0 by decide)).2.1 | exact (still_step (k := (.tell fl)) (at_ := 0) (ws := [wordI S9]) (t := 3) (x := ⟨1, false, wordI s, S9, S9, 0, n - 1, 2⟩) (show (1 : Int) ≠ 0 by decide)).2.2
  have e2 : aWs 0 [wordI S9] ⟨1, false, wordI s, S9, S9, 0, n - 1, 2⟩ = [wordI S9] := by first | exact (still_step (k := (.tell fl)) (at_ := 0) (ws := [wordI S9]) (t := 3) (x := ⟨1, false, wordI s, S9, S9, 0, n - 1, 2⟩) (show (1 : Int) ≠ 0 by decide)).1 | exact (still_step (k := (.tell fl)) (at_ := 0) (ws := [wordI S9]) (t := 3) (x := ⟨1, false, wordI s, S9, S9, 0, n - 1, 2⟩) (show (1 : Int) ≠ 0 by decide)).2.1 | exact (still_step (k := (.tell fl)) (at_ := 0) (ws := [wordI S9]) (t := 3) (x := ⟨1, false, wordI s, S9, S9, 0, n - 1, 2⟩) (show (1 : Int) ≠ 0 by decide)).2.2
  have e3 : aT 0 [wordI S9] ⟨1, false, wordI s, S9, S9, 0, n - 1, 2⟩ 3 = 3 := by first | exact (still_step (k := (.tell fl)) (at_ := 0) (ws := [wordI S9]) (t := 3) (x := ⟨1, false, wordI s, S9, S9, 0, n - 1, 2⟩) (show (1 : Int) ≠ 0 by decide)).1 | exact (still_step (k := (.tell fl)) (at_ := 0) (ws := [wordI S9]) (t := 3) (x := ⟨1, false, wordI s, S9, S9, 0, n - 1, 2⟩) (show (1 : Int) ≠ 0 by decide)).2.1 | exact (still_step (k := (.tell fl)) (at_ := 0) (ws := [wordI S9]) (t := 3) (x := ⟨1, false, wordI s, S9, S9, 0, n - 1, 2⟩) (show (1 : Int) ≠ 0 by decide)).2.2
  have Ia_20 := Lib.hid (e1 ▸ IZ.out.step (at_ := 0) (wordF_range K_19.out 0))
  rw [e2, e3] at hb
  rw [e1] at ha ⊢
  have ee : Ex (fun k => k = g ∨ k = rr ∨ k = oa) w14 w20s := hx
  have T_21 := Lib.hid (T_19.out.ex ee (by have o_ := ORD18.out; omega))
  have L_21 := Lib.hid (L_19.out.ex ee (fun b_ h_ => by have o_ := ORD18.out; have h_ : b_ = g ∨ b_ = rr ∨ b_ = oa := h_; first | omega | (show _ ∨ _; omega)))
  have F_21 := Lib.hid (F_19.out.ex ee (by have o_ := ORD18.out; omega))
  have P_21 := Lib.hid (P_19.out.ex ee (by have o_ := ORD18.out; omega))
  have V_21 := Lib.hid (V_19.out.ex ee (by have o_ := ORD18.out; omega))
  have S_21 := Lib.hid (S_19.out.ex ee (by have o_ := ORD18.out; omega))
  have M_21 := Lib.hid (M_19.out.ex ee (by have o_ := ORD18.out; omega))
  have K_21 := Lib.hid (hb)
  have Aa_21 := Lib.hid (ha)
  clear ee T_19 L_19 F_19 P_19 K_19 Aa_19 V_19 S_19 M_19 hb ha hx e1 e2 e3 IZ
  go_wp2_with fail
  refine (Touches_any g rr [wordI S9] 3 w20s K_21.out).mono ?_; rintro e w_ ⟨rfl, rfl⟩
  go_wp2_with fail
  refine (awake_any w20s T_21.out).mono ?_; rintro e w15 ⟨rfl, hb⟩
  have ee : Ex (fun _ => False) w20s w15 := Ex.of_below hb
  have T_22 := Lib.hid (T_21.out.ex ee (fun h => h))
  have L_22 := Lib.hid (L_21.out.ex ee (fun b_ h_ => h_.elim))
  have F_22 := Lib.hid (F_21.out.ex ee (fun h => h))
  have P_22 := Lib.hid (P_21.out.ex ee (fun h => h))
  have K_22 := Lib.hid (K_21.out.ex ee (fun h => h) (fun h => h))
  have Aa_22 := Lib.hid (Aa_21.out.ex ee (fun h => h) (fun h => h))
  have V_22 := Lib.hid (V_21.out.ex ee (fun h => h))
  have S_22 := Lib.hid (S_21.out.ex ee (fun h => h))
  have M_22 := Lib.hid (M_21.out.ex ee (fun h => h))
  clear ee T_21 L_21 F_21 P_21 K_21 Aa_21 V_21 S_21 M_21 hb
  go_wp2_with fail
  go_ret
  exact ⟨rfl, L_22.out.low.mono HBS.out⟩
set_option maxRecDepth 100000 in
set_option maxHeartbeats 4000000 in
theorem Al_read (s : St) (hs : s.Ok) (kd so mo : Int) (fr : Bool) (fl n : Int) (hp : (⟨kd, so, mo, fr, fl⟩ : Pl).Ok) (w : World) (ht : Tab w) (h0 : mayE s = 0) (hm : (⟨kd, so, mo, fr, fl⟩ : Pl).May n) (n0 : kd ≠ 0) (n1 : kd ≠ 1) :
    Calls Tryd.prog 6 #[s.val, .agg #[.int .i64 kd, .int .i64 so, .int .i64 mo, .bool fr, .int .i64 fl], .int .i64 n] w fun e w' => e = .returned (.bool true) ∧ Below w.heap.size w w' := by
  have HS := Lib.hid hs
  have H0 := Lib.hid h0
  have ekd : Pl.kd ⟨kd, so, mo, fr, fl⟩ = .read := by unfold Pl.kd; simp only [if_neg n0, if_neg n1]
  have ekn : Pl.n ⟨kd, so, mo, fr, fl⟩ n = 0 := by unfold Pl.n; simp only [if_neg (fun h : kd = 0 ∨ kd = 1 => h.elim n0 n1)]
  have hok := Pl.kd_ok hp
  have hiv := Pl.inv hm
  have hbg := fun W hz => begin_in 0 n (⟨kd, so, mo, fr, fl⟩ : Pl) W hz hm
  unfold Pl.val at hbg
  simp only [ekd, ekn] at hok hiv hbg
  have HOK := Lib.hid hok
  have HIV := Lib.hid hiv
  have HBG := Lib.hid hbg
  clear ekd ekn hok hiv hbg hm
  have k0 : (kd == 0) = false := by simpa using n0
  have k1 : (kd == 1) = false := by simpa using n1
  clear n0 n1
  have hpk := fun W => Pack_ok s hs h0 W
  unfold St.val at hpk ⊢
  have HPK := Lib.hid hpk
  clear hpk
  clear hs h0 hp
  have hq0 := ((blk_new' w (g := w.heap.size) (by simp) 34 #[.int .i64 s.mode, .int .i64 s.source, .bool s.hold, .int .i64 s.flags, .int .u64 s.epoch]).alloc (.cells #[.int .i64 kd, .int .i64 so, .int .i64 mo, .bool fr, .int .i64 fl] 41))
  have hq1 := (blk_new' (w.alloc (.cells #[.int .i64 s.mode, .int .i64 s.source, .bool s.hold, .int .i64 s.flags, .int .u64 s.epoch] 34)) (g := w.heap.size + 1) (by simp) 41 #[.int .i64 kd, .int .i64 so, .int .i64 mo, .bool fr, .int .i64 fl])
  have hlo := (((Below.refl w.heap.size w).alloc (by first | exact Nat.le_refl _ | (simp; done) | (simp; omega)) (.cells #[.int .i64 s.mode, .int .i64 s.source, .bool s.hold, .int .i64 s.flags, .int .u64 s.epoch] 34)).alloc (by first | exact Nat.le_refl _ | (simp; done) | (simp; omega)) (.cells #[.int .i64 kd, .int .i64 so, .int .i64 mo, .bool fr, .int .i64 fl] 41))
  have hz0 : 0 < w.heap.size := lt_of_cell (ht 0 (by decide))
  have ht1 := ht.below hlo
  go_enter Tryd.func6, Tryd.ntmps6
  go_upto_region 1 with fail
  generalize ((w.alloc (.cells #[.int .i64 s.mode, .int .i64 s.source, .bool s.hold, .int .i64 s.flags, .int .u64 s.epoch] 34)).alloc (.cells #[.int .i64 kd, .int .i64 so, .int .i64 mo, .bool fr, .int .i64 fl] 41)) = w1 at *
  obtain ⟨fb, hfb⟩ : ∃ fb, w.heap.size = fb := ⟨_, rfl⟩
  have hlo9 : Lo w.heap.size w w1 := ⟨hlo, hlo.size⟩
  have HBS := Lib.hid (Nat.le_of_eq hfb)
  simp only [hfb] at hlo9 hz0 hq0 hq1 ⊢
  obtain ⟨pb, hfb1⟩ : ∃ pb, fb + 1 = pb := ⟨_, rfl⟩
  simp only [hfb1] at hq1 ⊢
  have ORD0 := Lib.hid (show 0 < fb ∧ fb + 1 = pb from ⟨hz0, hfb1⟩)
  have T0 := Lib.hid ht1
  have L0 := Lib.hid hlo9
  have F0 := Lib.hid hq0
  have P0 := Lib.hid hq1
  clear ht ht1 hlo hlo9 hz0 hfb hfb1 hq0 hq1
  have Fq0 := (F0.out).cell 0
  have Fq1 := (F0.out).cell 1
  have Fq2 := (F0.out).cell 2
  have Fq3 := (F0.out).cell 3
  have Fq4 := (F0.out).cell 4
  simp only [List.getElem?_toArray, List.getElem?_cons_succ, List.getElem?_cons_zero] at Fq0 Fq1 Fq2 Fq3 Fq4
  go_wp2_with fail
  refine (HPK.out w1).mono ?_; rintro e w2 ⟨rfl, hb⟩
  clear Fq0 Fq1 Fq2 Fq3 Fq4
  have ee : Ex (fun _ => False) w1 w2 := Ex.of_below hb
  have T_1 := Lib.hid (T0.out.ex ee (fun h => h))
  have L_1 := Lib.hid (L0.out.ex ee (fun b_ h_ => h_.elim))
  have F_1 := Lib.hid (F0.out.ex ee (fun h => h))
  have P_1 := Lib.hid (P0.out.ex ee (fun h => h))
  clear ee T0 L0 F0 P0 hb
  go_wp2_with fail
  refine (New_in 1 (by decide) (by decide) w2).mono ?_; rintro e w3 ⟨rfl, hb, hl, hsz⟩
  have hb : BankAt w3 (w2.heap.size + 1) w2.heap.size [0] 0 := hb
  obtain ⟨rr, hrr⟩ : ∃ rr, w2.heap.size = rr := ⟨_, rfl⟩
  have hlt : pb < rr := hrr ▸ P_1.out.lt
  simp only [hrr] at hb ⊢
  obtain ⟨g, hg⟩ : ∃ g, rr + 1 = g := ⟨_, rfl⟩
  simp only [hg] at hb ⊢
  have ORD2 := Lib.hid (show 0 < fb ∧ fb + 1 = pb ∧ pb < rr ∧ rr + 1 = g from by have o_ := ORD0.out; omega)
  have ee : Ex (fun _ => False) w2 w3 := Ex.of_below hl
  have T_3 := Lib.hid (T_1.out.ex ee (fun h => h))
  have L_3 := Lib.hid (L_1.out.ex ee (fun b_ h_ => h_.elim))
  have F_3 := Lib.hid (F_1.out.ex ee (fun h => h))
  have P_3 := Lib.hid (P_1.out.ex ee (fun h => h))
  have K_3 := Lib.hid (hb)
  clear ee T_1 L_1 F_1 P_1 hb hl hsz hrr hlt hg ORD0
  have Pq0 := (P_3.out).cell 0
  have Pq1 := (P_3.out).cell 1
  have Pq2 := (P_3.out).cell 2
  have Pq3 := (P_3.out).cell 3
  have Pq4 := (P_3.out).cell 4
  simp only [List.getElem?_toArray, List.getElem?_cons_succ, List.getElem?_cons_zero] at Pq0 Pq1 Pq2 Pq3 Pq4
  go_wp2_with fail
  clear Pq0 Pq1 Pq2 Pq3 Pq4
  refine (HBG.out w3 (Nat.lt_of_le_of_lt (Nat.zero_le _) K_3.out.head.lt)).mono ?_; rintro e w4a ⟨oa, b9, rfl, ha9, hs1, hs2, hs3, hs4, hb⟩
  obtain ⟨Ma, hM⟩ : ∃ Ma : Nat, g < Ma ∧ rr < Ma ∧ Ma ≤ oa := ⟨w3.heap.size, K_3.out.head.lt, K_3.out.row.lt, hs1⟩
  obtain ⟨ba, hbz⟩ : ∃ ba : Nat, ba = 0 := ⟨0, rfl⟩
  have ha : ArbAt w4a oa ba .read 0 (AX.zero 0) := ⟨ha9.head, trivial, by omega⟩
  have ORD4 := Lib.hid (show 0 < fb ∧ fb + 1 = pb ∧ pb < rr ∧ rr + 1 = g ∧ g < Ma ∧ rr < Ma ∧ Ma ≤ oa ∧ ba = 0 from by have o_ := ORD2.out; omega)
  have Ia_4 := Lib.hid (show AInv .read 0 (AX.zero 0) from HIV.out)
  have ee : Ex (fun _ => False) w3 w4a := Ex.of_below hb
  have T_5 := Lib.hid (T_3.out.ex ee (fun h => h))
  have L_5 := Lib.hid (L_3.out.ex ee (fun b_ h_ => h_.elim))
  have F_5 := Lib.hid (F_3.out.ex ee (fun h => h))
  have P_5 := Lib.hid (P_3.out.ex ee (fun h => h))
  have K_5 := Lib.hid (K_3.out.ex ee (fun h => h) (fun h => h))
  have Aa_5 := Lib.hid (ha)
  clear ee T_3 L_3 F_3 P_3 K_3 hb hs1 hs2 hs3 hs4 hM hbz ha9 ORD2
  go_wp2_with fail
  refine (Store_any g rr [0] 0 0 (wordI s) w4a K_5.out (wordI_range (mayE_zero.1 H0.out).1 HS.out)).mono ?_; rintro e w5 ⟨rfl, hb, hx⟩
  have e1 : errF [0] 0 = 0 := rfl
  have e2 : setF [0] 0 (wordI s) = [wordI s] := set1 _ _
  have e3 : tickF [0] 0 0 = 1 := rfl
  rw [e2, e3] at hb
  rw [e1]
  have ee : Ex (fun k => k = g ∨ k = rr) w4a w5 := Ex.of_ex2 (T := fun k => k = g ∨ k = rr) hx (.inl rfl) (.inr rfl)
  have T_6 := Lib.hid (T_5.out.ex ee (by have o_ := ORD4.out; omega))
  have L_6 := Lib.hid (L_5.out.ex ee (fun b_ h_ => by have o_ := ORD4.out; have h_ : b_ = g ∨ b_ = rr := h_; first | omega | (show _ ∨ _; omega)))
  have F_6 := Lib.hid (F_5.out.ex ee (by have o_ := ORD4.out; omega))
  have P_6 := Lib.hid (P_5.out.ex ee (by have o_ := ORD4.out; omega))
  have Aa_6 := Lib.hid (Aa_5.out.ex ee (by have o_ := ORD4.out; omega) (by have o_ := ORD4.out; omega))
  have K_6 := Lib.hid (hb)
  clear ee T_5 L_5 F_5 P_5 K_5 Aa_5 hb hx e1 e2 e3
  have Fq0 := (F_6.out).cell 0
  have Fq1 := (F_6.out).cell 1
  have Fq2 := (F_6.out).cell 2
  have Fq3 := (F_6.out).cell 3
  have Fq4 := (F_6.out).cell 4
  simp only [List.getElem?_toArray, List.getElem?_cons_succ, List.getElem?_cons_zero] at Fq0 Fq1 Fq2 Fq3 Fq4
  go_upto_region 9 with fail
  clear Fq0 Fq1 Fq2 Fq3 Fq4
  obtain ⟨vb, hsb, hM⟩ : ∃ vb : Nat, w5.heap.size = vb ∧ g < vb ∧ rr < vb ∧ oa < vb := ⟨w5.heap.size, rfl, K_6.out.head.lt, K_6.out.row.lt, Aa_6.out.head.lt⟩
  have ORD7 := Lib.hid (show 0 < fb ∧ fb + 1 = pb ∧ pb < rr ∧ rr + 1 = g ∧ g < Ma ∧ rr < Ma ∧ Ma ≤ oa ∧ ba = 0 ∧ g < vb ∧ rr < vb ∧ oa < vb from by have o_ := ORD4.out; omega)
  have hnb := Blk.new w5 34 #[.int .i64 s.mode, .int .i64 s.source, .bool s.hold, .int .i64 s.flags, .int .u64 s.epoch]
  rw [hsb] at hnb
  simp only [hsb]
  have ee : Ex (fun _ => False) w5 (w5.alloc (.cells #[.int .i64 s.mode, .int .i64 s.source, .bool s.hold, .int .i64 s.flags, .int .u64 s.epoch] 34)) := (Ex.refl (fun _ => False) w5).alloc (.cells #[.int .i64 s.mode, .int .i64 s.source, .bool s.hold, .int .i64 s.flags, .int .u64 s.epoch] 34)
  have T_8 := Lib.hid (T_6.out.ex ee (fun h => h))
  have L_8 := Lib.hid (L_6.out.ex ee (fun b_ h_ => h_.elim))
  have F_8 := Lib.hid (F_6.out.ex ee (fun h => h))
  have P_8 := Lib.hid (P_6.out.ex ee (fun h => h))
  have K_8 := Lib.hid (K_6.out.ex ee (fun h => h) (fun h => h))
  have Aa_8 := Lib.hid (Aa_6.out.ex ee (fun h => h) (fun h => h))
  have V_8 := Lib.hid (hnb)
  clear ee T_6 L_6 F_6 P_6 K_6 Aa_6 hnb hM ORD4
  generalize w5.alloc (.cells #[.int .i64 s.mode, .int .i64 s.source, .bool s.hold, .int .i64 s.flags, .int .u64 s.epoch] 34) = w6 at *
  clear hsb
  have Pq0 := (P_8.out).cell 0
  have Pq1 := (P_8.out).cell 1
  have Pq2 := (P_8.out).cell 2
  have Pq3 := (P_8.out).cell 3
  have Pq4 := (P_8.out).cell 4
  simp only [List.getElem?_toArray, List.getElem?_cons_succ, List.getElem?_cons_zero] at Pq0 Pq1 Pq2 Pq3 Pq4
  clear Pq0 Pq1 Pq2 Pq3 Pq4
  have Pq0 := (P_8.out).cell 0
  have Pq1 := (P_8.out).cell 1
  have Pq2 := (P_8.out).cell 2
  have Pq3 := (P_8.out).cell 3
  have Pq4 := (P_8.out).cell 4
  simp only [List.getElem?_toArray, List.getElem?_cons_succ, List.getElem?_cons_zero] at Pq0 Pq1 Pq2 Pq3 Pq4
  go_wp2_with fail
  clear Pq0 Pq1 Pq2 Pq3 Pq4
  refine (run_any g rr oa ba [wordI s] 1 .read HOK.out 0 0 (AX.zero 0) Ia_4.out w6 rfl Aa_8.out K_8.out T_8.out (by have o_ := ORD7.out; omega)).mono ?_; rintro e w9r ⟨rfl, hb, ha, _, hx⟩
  have e1 : aRun .read 0 40 ((AX.zero 0), [wordI s], 1) = (⟨1, false, 0, St.zero, s, 0, 0, 1⟩, [wordI s], 2) := alone_stay HS.out H0.out (by decide) (.inl rfl)
  rw [e1] at hb ha ⊢
  simp only at hb ha ⊢
  have ee : Ex (fun k => k = g ∨ k = rr ∨ k = oa) w6 w9r := hx
  have T_10 := Lib.hid (T_8.out.ex ee (by have o_ := ORD7.out; omega))
  have L_10 := Lib.hid (L_8.out.ex ee (fun b_ h_ => by have o_ := ORD7.out; have h_ : b_ = g ∨ b_ = rr ∨ b_ = oa := h_; first | omega | (show _ ∨ _; omega)))
  have F_10 := Lib.hid (F_8.out.ex ee (by have o_ := ORD7.out; omega))
  have P_10 := Lib.hid (P_8.out.ex ee (by have o_ := ORD7.out; omega))
  have V_10 := Lib.hid (V_8.out.ex ee (by have o_ := ORD7.out; omega))
  have K_10 := Lib.hid (hb)
  have Aa_10 := Lib.hid (ha)
  clear ee T_8 L_8 F_8 P_8 K_8 Aa_8 V_8 hb ha hx e1
  go_wp2_with fail
  have HG := Lib.hid (Got_any oa ba .read 0 ⟨1, false, 0, St.zero, s, 0, 0, 1⟩ w9r Aa_10.out)
  unfold St.val at HG
  simp only at HG
  refine (HG.out).mono ?_; rintro e w10 ⟨rfl, hb⟩
  clear HG
  have ee : Ex (fun _ => False) w9r w10 := Ex.of_below hb
  have T_11 := Lib.hid (T_10.out.ex ee (fun h => h))
  have L_11 := Lib.hid (L_10.out.ex ee (fun b_ h_ => h_.elim))
  have F_11 := Lib.hid (F_10.out.ex ee (fun h => h))
  have P_11 := Lib.hid (P_10.out.ex ee (fun h => h))
  have K_11 := Lib.hid (K_10.out.ex ee (fun h => h) (fun h => h))
  have Aa_11 := Lib.hid (Aa_10.out.ex ee (fun h => h) (fun h => h))
  have V_11 := Lib.hid (V_10.out.ex ee (fun h => h))
  clear ee T_10 L_10 F_10 P_10 K_10 Aa_10 V_10 hb
  go_wp2_with fail
  obtain ⟨sb, hsb, hM⟩ : ∃ sb : Nat, w10.heap.size = sb ∧ g < sb ∧ rr < sb ∧ oa < sb ∧ vb < sb := ⟨w10.heap.size, rfl, K_11.out.head.lt, K_11.out.row.lt, Aa_11.out.head.lt, V_11.out.lt⟩
  have ORD12 := Lib.hid (show 0 < fb ∧ fb + 1 = pb ∧ pb < rr ∧ rr + 1 = g ∧ g < Ma ∧ rr < Ma ∧ Ma ≤ oa ∧ ba = 0 ∧ g < vb ∧ rr < vb ∧ oa < vb ∧ g < sb ∧ rr < sb ∧ oa < sb ∧ vb < sb from by have o_ := ORD7.out; omega)
  have hnb := Blk.new w10 34 #[.int .i64 s.mode, .int .i64 s.source, .bool s.hold, .int .i64 s.flags, .int .u64 s.epoch]
  rw [hsb] at hnb
  simp only [hsb]
  have ee : Ex (fun _ => False) w10 (w10.alloc (.cells #[.int .i64 s.mode, .int .i64 s.source, .bool s.hold, .int .i64 s.flags, .int .u64 s.epoch] 34)) := (Ex.refl (fun _ => False) w10).alloc (.cells #[.int .i64 s.mode, .int .i64 s.source, .bool s.hold, .int .i64 s.flags, .int .u64 s.epoch] 34)
  have T_13 := Lib.hid (T_11.out.ex ee (fun h => h))
  have L_13 := Lib.hid (L_11.out.ex ee (fun b_ h_ => h_.elim))
  have F_13 := Lib.hid (F_11.out.ex ee (fun h => h))
  have P_13 := Lib.hid (P_11.out.ex ee (fun h => h))
  have K_13 := Lib.hid (K_11.out.ex ee (fun h => h) (fun h => h))
  have Aa_13 := Lib.hid (Aa_11.out.ex ee (fun h => h) (fun h => h))
  have V_13 := Lib.hid (V_11.out.ex ee (fun h => h))
  have S_13 := Lib.hid (hnb)
  clear ee T_11 L_11 F_11 P_11 K_11 Aa_11 V_11 hnb hM ORD7
  generalize w10.alloc (.cells #[.int .i64 s.mode, .int .i64 s.source, .bool s.hold, .int .i64 s.flags, .int .u64 s.epoch] 34) = w11 at *
  clear hsb
  go_wp2_with fail
  refine (Peek_any g rr [wordI s] 2 0 w11 K_13.out).mono ?_; rintro e w12 ⟨rfl, hb⟩
  rw [show wordF [wordI s] 0 = wordI s from word1 _]
  have ee : Ex (fun _ => False) w11 w12 := Ex.of_below hb
  have T_14 := Lib.hid (T_13.out.ex ee (fun h => h))
  have L_14 := Lib.hid (L_13.out.ex ee (fun b_ h_ => h_.elim))
  have F_14 := Lib.hid (F_13.out.ex ee (fun h => h))
  have P_14 := Lib.hid (P_13.out.ex ee (fun h => h))
  have K_14 := Lib.hid (K_13.out.ex ee (fun h => h) (fun h => h))
  have Aa_14 := Lib.hid (Aa_13.out.ex ee (fun h => h) (fun h => h))
  have V_14 := Lib.hid (V_13.out.ex ee (fun h => h))
  have S_14 := Lib.hid (S_13.out.ex ee (fun h => h))
  clear ee T_13 L_13 F_13 P_13 K_13 Aa_13 V_13 S_13 hb
  go_wp2_with fail
  have hun := fun W => Unpack_any (wordI s) (wordI_range (mayE_zero.1 H0.out).1 HS.out) W
  simp only [(un_word HS.out H0.out).1, (un_word HS.out H0.out).2] at hun
  unfold St.val at hun
  have HUN := Lib.hid hun
  clear hun
  refine (HUN.out w12).mono ?_; rintro e w13 ⟨rfl, hb⟩
  clear HUN
  have ee : Ex (fun _ => False) w12 w13 := Ex.of_below hb
  have T_15 := Lib.hid (T_14.out.ex ee (fun h => h))
  have L_15 := Lib.hid (L_14.out.ex ee (fun b_ h_ => h_.elim))
  have F_15 := Lib.hid (F_14.out.ex ee (fun h => h))
  have P_15 := Lib.hid (P_14.out.ex ee (fun h => h))
  have K_15 := Lib.hid (K_14.out.ex ee (fun h => h) (fun h => h))
  have Aa_15 := Lib.hid (Aa_14.out.ex ee (fun h => h) (fun h => h))
  have V_15 := Lib.hid (V_14.out.ex ee (fun h => h))
  have S_15 := Lib.hid (S_14.out.ex ee (fun h => h))
  clear ee T_14 L_14 F_14 P_14 K_14 Aa_14 V_14 S_14 hb
  go_upto_region 22 with fail
  obtain ⟨mb, hsb, hM⟩ : ∃ mb : Nat, w13.heap.size = mb ∧ g < mb ∧ rr < mb ∧ oa < mb ∧ vb < mb ∧ sb < mb := ⟨w13.heap.size, rfl, K_15.out.head.lt, K_15.out.row.lt, Aa_15.out.head.lt, V_15.out.lt, S_15.out.lt⟩
  have ORD16 := Lib.hid (show 0 < fb ∧ fb + 1 = pb ∧ pb < rr ∧ rr + 1 = g ∧ g < Ma ∧ rr < Ma ∧ Ma ≤ oa ∧ ba = 0 ∧ g < vb ∧ rr < vb ∧ oa < vb ∧ g < sb ∧ rr < sb ∧ oa < sb ∧ vb < sb ∧ g < mb ∧ rr < mb ∧ oa < mb ∧ vb < mb ∧ sb < mb from by have o_ := ORD12.out; omega)
  have hnb := Blk.new w13 34 #[.int .i64 s.mode, .int .i64 s.source, .bool s.hold, .int .i64 s.flags, .int .u64 s.epoch]
  rw [hsb] at hnb
  simp only [hsb]
  have ee : Ex (fun _ => False) w13 (w13.alloc (.cells #[.int .i64 s.mode, .int .i64 s.source, .bool s.hold, .int .i64 s.flags, .int .u64 s.epoch] 34)) := (Ex.refl (fun _ => False) w13).alloc (.cells #[.int .i64 s.mode, .int .i64 s.source, .bool s.hold, .int .i64 s.flags, .int .u64 s.epoch] 34)
  have T_17 := Lib.hid (T_15.out.ex ee (fun h => h))
  have L_17 := Lib.hid (L_15.out.ex ee (fun b_ h_ => h_.elim))
  have F_17 := Lib.hid (F_15.out.ex ee (fun h => h))
  have P_17 := Lib.hid (P_15.out.ex ee (fun h => h))
  have K_17 := Lib.hid (K_15.out.ex ee (fun h => h) (fun h => h))
  have Aa_17 := Lib.hid (Aa_15.out.ex ee (fun h => h) (fun h => h))
  have V_17 := Lib.hid (V_15.out.ex ee (fun h => h))
  have S_17 := Lib.hid (S_15.out.ex ee (fun h => h))
  have M_17 := Lib.hid (hnb)
  clear ee T_15 L_15 F_15 P_15 K_15 Aa_15 V_15 S_15 hnb hM ORD12
  generalize w13.alloc (.cells #[.int .i64 s.mode, .int .i64 s.source, .bool s.hold, .int .i64 s.flags, .int .u64 s.epoch] 34) = w14 at *
  clear hsb
  have eq0 : (s.mode == s.mode) = true := by simp
  have eq1 : (s.source == s.source) = true := by simp
  have eq2 : (s.hold == s.hold) = true := by simp
  have eq3 : (s.flags == s.flags) = true := by simp
  have eq4 : (s.epoch == s.epoch) = true := by simp
  have Sq0 := (S_17.out).cell 0
  have Sq1 := (S_17.out).cell 1
  have Sq2 := (S_17.out).cell 2
  have Sq3 := (S_17.out).cell 3
  have Sq4 := (S_17.out).cell 4
  simp only [List.getElem?_toArray, List.getElem?_cons_succ, List.getElem?_cons_zero] at Sq0 Sq1 Sq2 Sq3 Sq4
  have Vq0 := (V_17.out).cell 0
  have Vq1 := (V_17.out).cell 1
  have Vq2 := (V_17.out).cell 2
  have Vq3 := (V_17.out).cell 3
  have Vq4 := (V_17.out).cell 4
  simp only [List.getElem?_toArray, List.getElem?_cons_succ, List.getElem?_cons_zero] at Vq0 Vq1 Vq2 Vq3 Vq4
  have Mq0 := (M_17.out).cell 0
  have Mq1 := (M_17.out).cell 1
  have Mq2 := (M_17.out).cell 2
  have Mq3 := (M_17.out).cell 3
  have Mq4 := (M_17.out).cell 4
  simp only [List.getElem?_toArray, List.getElem?_cons_succ, List.getElem?_cons_zero] at Mq0 Mq1 Mq2 Mq3 Mq4
  go_wp2_with fail
  refine (Steps_any oa ba .read 0 ⟨1, false, 0, St.zero, s, 0, 0, 1⟩ w14 Aa_17.out).mono ?_; rintro e w_ ⟨rfl, rfl⟩
  go_wp2_with fail
  refine (At_done oa ba .read 0 ⟨1, false, 0, St.zero, s, 0, 0, 1⟩ w14 Aa_17.out rfl).mono ?_; rintro e w_ ⟨rfl, rfl⟩
  go_wp2_with fail
  refine (Touches_any g rr [wordI s] 2 w14 K_17.out).mono ?_; rintro e w_ ⟨rfl, rfl⟩
  go_wp2_with fail
  have IZ := Lib.hid (show AInv .read 0 ⟨1, false, 0, St.zero, s, 0, 0, 1⟩ from by have := HIV.out; exact ⟨this.nn, by simp, fun h => by simp at h, fun h => by simp at h, fun _ => ⟨rfl, fun h => by simp at h⟩, fun h => by simp at h⟩)
  clear Sq0 Sq1 Sq2 Sq3 Sq4 Vq0 Vq1 Vq2 Vq3 Vq4 Mq0 Mq1 Mq2 Mq3 Mq4
  refine (Step_any g rr oa ba [wordI s] 2 .read HOK.out 0 0 ⟨1, false, 0, St.zero, s, 0, 0, 1⟩ IZ.out w14 Aa_17.out K_17.out T_17.out (by have o_ := ORD16.out; omega)).mono ?_; rintro e w18s ⟨rfl, hb, ha, hx⟩
  have e1 : aStep .read 0 [wordI s] ⟨1, false, 0, St.zero, s, 0, 0, 1⟩ = ⟨1, false, 0, St.zero, s, 0, 0, 1⟩ := by first | exact (still_step (k := .read) (at_ := 0) (ws := [wordI s]) (t := 2) (x := ⟨1, false, 0, St.zero, s, 0, 0, 1⟩) (show (1 : Int) ≠ 0 by decide)).1 | exact (still_step (k := .read) (at_ := 0) (ws := [wordI s]) (t := 2) (x := ⟨1, false, 0, St.zero, s, 0, 0, 1⟩) (show (1 : Int) ≠ 0 by decide)).2.1 | exact (still_step (k := .read) (at_ := 0) (ws := [wordI s]) (t := 2) (x := ⟨1, false, 0, St.zero, s, 0, 0, 1⟩) (show (1 : Int) ≠ 0 by decide)).2.2
  have e2 : aWs 0 [wordI s] ⟨1, false, 0, St.zero, s, 0, 0, 1⟩ = [wordI s] := by first | exact (still_step (k := .read) (at_ := 0) (ws := [wordI s]) (t := 2) (x := ⟨1, false, 0, St.zero, s, 0, 0, 1⟩) (show (1 : Int) ≠ 0 by decide)).1 | exact (still_step (k := .read) (at_ := 0) (ws := [wordI s]) (t := 2) (x := ⟨1, false, 0, St.zero, s, 0, 0, 1⟩) (show (1 : Int) ≠ 0 by decide)).2.1 | exact (still_step (k := .read) (at_ := 0) (ws := [wordI s]) (t := 2) (x := ⟨1, false, 0, St.zero, s, 0, 0, 1⟩) (show (1 : Int) ≠ 0 by decide)).2.2
  have e3 : aT 0 [wordI s] ⟨1, false, 0, St.zero, s, 0, 0, 1⟩ 2 = 2 := by first | exact (still_step (k := .read) (at_ := 0) (ws := [wordI s]) (t := 2) (x := ⟨1, false, 0, St.zero, s, 0, 0, 1⟩) (show (1 : Int) ≠ 0 by decide)).1 | exact (still_step (k := .read) (at_ := 0) (ws := [wordI s]) (t := 2) (x := ⟨1, false, 0, St.zero, s, 0, 0, 1⟩) (show (1 : Int) ≠ 0 by decide)).2.1 | exact (still_step (k := .read) (at_ := 0) (ws := [wordI s]) (t := 2) (x := ⟨1, false, 0, St.zero, s, 0, 0, 1⟩) (show (1 : Int) ≠ 0 by decide)).2.2
  have Ia_18 := Lib.hid (e1 ▸ IZ.out.step (at_ := 0) (wordF_range K_17.out 0))
  rw [e2, e3] at hb
  rw [e1] at ha ⊢
  have ee : Ex (fun k => k = g ∨ k = rr ∨ k = oa) w14 w18s := hx
  have T_19 := Lib.hid (T_17.out.ex ee (by have o_ := ORD16.out; omega))
  have L_19 := Lib.hid (L_17.out.ex ee (fun b_ h_ => by have o_ := ORD16.out; have h_ : b_ = g ∨ b_ = rr ∨ b_ = oa := h_; first | omega | (show _ ∨ _; omega)))
  have F_19 := Lib.hid (F_17.out.ex ee (by have o_ := ORD16.out; omega))
  have P_19 := Lib.hid (P_17.out.ex ee (by have o_ := ORD16.out; omega))
  have V_19 := Lib.hid (V_17.out.ex ee (by have o_ := ORD16.out; omega))
  have S_19 := Lib.hid (S_17.out.ex ee (by have o_ := ORD16.out; omega))
  have M_19 := Lib.hid (M_17.out.ex ee (by have o_ := ORD16.out; omega))
  have K_19 := Lib.hid (hb)
  have Aa_19 := Lib.hid (ha)
  clear ee T_17 L_17 F_17 P_17 K_17 Aa_17 V_17 S_17 M_17 hb ha hx e1 e2 e3 IZ
  go_wp2_with fail
  refine (Touches_any g rr [wordI s] 2 w18s K_19.out).mono ?_; rintro e w_ ⟨rfl, rfl⟩
  go_wp2_with fail
  refine (awake_any w18s T_19.out).mono ?_; rintro e w15 ⟨rfl, hb⟩
  have ee : Ex (fun _ => False) w18s w15 := Ex.of_below hb
  have T_20 := Lib.hid (T_19.out.ex ee (fun h => h))
  have L_20 := Lib.hid (L_19.out.ex ee (fun b_ h_ => h_.elim))
  have F_20 := Lib.hid (F_19.out.ex ee (fun h => h))
  have P_20 := Lib.hid (P_19.out.ex ee (fun h => h))
  have K_20 := Lib.hid (K_19.out.ex ee (fun h => h) (fun h => h))
  have Aa_20 := Lib.hid (Aa_19.out.ex ee (fun h => h) (fun h => h))
  have V_20 := Lib.hid (V_19.out.ex ee (fun h => h))
  have S_20 := Lib.hid (S_19.out.ex ee (fun h => h))
  have M_20 := Lib.hid (M_19.out.ex ee (fun h => h))
  clear ee T_19 L_19 F_19 P_19 K_19 Aa_19 V_19 S_19 M_19 hb
  go_wp2_with fail
  go_ret
  exact ⟨rfl, L_20.out.low.mono HBS.out⟩
set_option maxRecDepth 100000 in
set_option maxHeartbeats 4000000 in
theorem Al_bad1 (s : St) (hs : s.Ok) (kd so mo : Int) (fr : Bool) (fl n : Int) (w : World) (ht : Tab w) (h0 : mayE s ≠ 0) (hm : (⟨kd, so, mo, fr, fl⟩ : Pl).May n) :
    Calls Tryd.prog 6 #[s.val, .agg #[.int .i64 kd, .int .i64 so, .int .i64 mo, .bool fr, .int .i64 fl], .int .i64 n] w fun e w' => e = .returned (.bool true) ∧ Below w.heap.size w w' := by
  have hbg := fun W hz => begin_in 0 n (⟨kd, so, mo, fr, fl⟩ : Pl) W hz hm
  unfold Pl.val at hbg
  simp only at hbg
  have HBG := Lib.hid hbg
  clear hbg hm
  have hpk := fun W => Pack_bad s hs h0 W
  obtain ⟨me, hme⟩ : ∃ me, mayE s = me := ⟨_, rfl⟩
  rw [hme] at h0 hpk
  have q0 : (me != 0) = true := by simpa using h0
  clear hme
  unfold St.val at hpk ⊢
  have HPK := Lib.hid hpk
  clear hpk hs h0
  have hq0 := ((blk_new' w (g := w.heap.size) (by simp) 34 #[.int .i64 s.mode, .int .i64 s.source, .bool s.hold, .int .i64 s.flags, .int .u64 s.epoch]).alloc (.cells #[.int .i64 kd, .int .i64 so, .int .i64 mo, .bool fr, .int .i64 fl] 41))
  have hq1 := (blk_new' (w.alloc (.cells #[.int .i64 s.mode, .int .i64 s.source, .bool s.hold, .int .i64 s.flags, .int .u64 s.epoch] 34)) (g := w.heap.size + 1) (by simp) 41 #[.int .i64 kd, .int .i64 so, .int .i64 mo, .bool fr, .int .i64 fl])
  have hlo := (((Below.refl w.heap.size w).alloc (by first | exact Nat.le_refl _ | (simp; done) | (simp; omega)) (.cells #[.int .i64 s.mode, .int .i64 s.source, .bool s.hold, .int .i64 s.flags, .int .u64 s.epoch] 34)).alloc (by first | exact Nat.le_refl _ | (simp; done) | (simp; omega)) (.cells #[.int .i64 kd, .int .i64 so, .int .i64 mo, .bool fr, .int .i64 fl] 41))
  have hz0 : 0 < w.heap.size := lt_of_cell (ht 0 (by decide))
  have ht1 := ht.below hlo
  go_enter Tryd.func6, Tryd.ntmps6
  go_upto_region 1 with fail
  generalize ((w.alloc (.cells #[.int .i64 s.mode, .int .i64 s.source, .bool s.hold, .int .i64 s.flags, .int .u64 s.epoch] 34)).alloc (.cells #[.int .i64 kd, .int .i64 so, .int .i64 mo, .bool fr, .int .i64 fl] 41)) = w1 at *
  obtain ⟨fb, hfb⟩ : ∃ fb, w.heap.size = fb := ⟨_, rfl⟩
  have hlo9 : Lo w.heap.size w w1 := ⟨hlo, hlo.size⟩
  have HBS := Lib.hid (Nat.le_of_eq hfb)
  simp only [hfb] at hlo9 hz0 hq0 hq1 ⊢
  obtain ⟨pb, hfb1⟩ : ∃ pb, fb + 1 = pb := ⟨_, rfl⟩
  simp only [hfb1] at hq1 ⊢
  have ORD0 := Lib.hid (show 0 < fb ∧ fb + 1 = pb from ⟨hz0, hfb1⟩)
  have T0 := Lib.hid ht1
  have L0 := Lib.hid hlo9
  have F0 := Lib.hid hq0
  have P0 := Lib.hid hq1
  clear ht ht1 hlo hlo9 hz0 hfb hfb1 hq0 hq1
  have Fq0 := (F0.out).cell 0
  have Fq1 := (F0.out).cell 1
  have Fq2 := (F0.out).cell 2
  have Fq3 := (F0.out).cell 3
  have Fq4 := (F0.out).cell 4
  simp only [List.getElem?_toArray, List.getElem?_cons_succ, List.getElem?_cons_zero] at Fq0 Fq1 Fq2 Fq3 Fq4
  go_wp2_with fail
  refine (HPK.out w1).mono ?_; rintro e w2 ⟨rfl, hb⟩
  clear Fq0 Fq1 Fq2 Fq3 Fq4
  have ee : Ex (fun _ => False) w1 w2 := Ex.of_below hb
  have T_1 := Lib.hid (T0.out.ex ee (fun h => h))
  have L_1 := Lib.hid (L0.out.ex ee (fun b_ h_ => h_.elim))
  have F_1 := Lib.hid (F0.out.ex ee (fun h => h))
  have P_1 := Lib.hid (P0.out.ex ee (fun h => h))
  clear ee T0 L0 F0 P0 hb
  go_wp2_with fail
  refine (New_in 1 (by decide) (by decide) w2).mono ?_; rintro e w3 ⟨rfl, hb, hl, hsz⟩
  have hb : BankAt w3 (w2.heap.size + 1) w2.heap.size [0] 0 := hb
  obtain ⟨rr, hrr⟩ : ∃ rr, w2.heap.size = rr := ⟨_, rfl⟩
  have hlt : pb < rr := hrr ▸ P_1.out.lt
  simp only [hrr] at hb ⊢
  obtain ⟨g, hg⟩ : ∃ g, rr + 1 = g := ⟨_, rfl⟩
  simp only [hg] at hb ⊢
  have ORD2 := Lib.hid (show 0 < fb ∧ fb + 1 = pb ∧ pb < rr ∧ rr + 1 = g from by have o_ := ORD0.out; omega)
  have ee : Ex (fun _ => False) w2 w3 := Ex.of_below hl
  have T_3 := Lib.hid (T_1.out.ex ee (fun h => h))
  have L_3 := Lib.hid (L_1.out.ex ee (fun b_ h_ => h_.elim))
  have F_3 := Lib.hid (F_1.out.ex ee (fun h => h))
  have P_3 := Lib.hid (P_1.out.ex ee (fun h => h))
  have K_3 := Lib.hid (hb)
  clear ee T_1 L_1 F_1 P_1 hb hl hsz hrr hlt hg ORD0
  have Pq0 := (P_3.out).cell 0
  have Pq1 := (P_3.out).cell 1
  have Pq2 := (P_3.out).cell 2
  have Pq3 := (P_3.out).cell 3
  have Pq4 := (P_3.out).cell 4
  simp only [List.getElem?_toArray, List.getElem?_cons_succ, List.getElem?_cons_zero] at Pq0 Pq1 Pq2 Pq3 Pq4
  go_wp2_with fail
  refine (HBG.out w3 (Nat.lt_of_le_of_lt (Nat.zero_le _) K_3.out.head.lt)).mono ?_; rintro e w4 ⟨oa, ba, rfl, _, _, _, _, _, hb⟩
  clear Pq0 Pq1 Pq2 Pq3 Pq4
  have ee : Ex (fun _ => False) w3 w4 := Ex.of_below hb
  have T_4 := Lib.hid (T_3.out.ex ee (fun h => h))
  have L_4 := Lib.hid (L_3.out.ex ee (fun b_ h_ => h_.elim))
  have F_4 := Lib.hid (F_3.out.ex ee (fun h => h))
  have P_4 := Lib.hid (P_3.out.ex ee (fun h => h))
  have K_4 := Lib.hid (K_3.out.ex ee (fun h => h) (fun h => h))
  clear ee T_3 L_3 F_3 P_3 K_3 hb
  go_wp2_with fail
  refine (awake_any w4 T_4.out).mono ?_; rintro e w5 ⟨rfl, hb⟩
  have ee : Ex (fun _ => False) w4 w5 := Ex.of_below hb
  have T_5 := Lib.hid (T_4.out.ex ee (fun h => h))
  have L_5 := Lib.hid (L_4.out.ex ee (fun b_ h_ => h_.elim))
  have F_5 := Lib.hid (F_4.out.ex ee (fun h => h))
  have P_5 := Lib.hid (P_4.out.ex ee (fun h => h))
  have K_5 := Lib.hid (K_4.out.ex ee (fun h => h) (fun h => h))
  clear ee T_4 L_4 F_4 P_4 K_4 hb
  go_wp2_with fail
  go_ret
  exact ⟨rfl, L_5.out.low.mono HBS.out⟩
set_option maxRecDepth 100000 in
set_option maxHeartbeats 4000000 in
theorem Al_bad2 (s : St) (hs : s.Ok) (kd so mo : Int) (fr : Bool) (fl n : Int) (w : World) (ht : Tab w) (h0 : mayE s ≠ 0) (hm : ¬ (⟨kd, so, mo, fr, fl⟩ : Pl).May n) :
    Calls Tryd.prog 6 #[s.val, .agg #[.int .i64 kd, .int .i64 so, .int .i64 mo, .bool fr, .int .i64 fl], .int .i64 n] w fun e w' => e = .returned (.bool true) ∧ Below w.heap.size w w' := by
  have hbg := fun W => begin_bad 0 n (⟨kd, so, mo, fr, fl⟩ : Pl) W hm
  unfold Pl.val at hbg
  simp only at hbg
  have HBG := Lib.hid hbg
  clear hbg hm
  have hpk := fun W => Pack_bad s hs h0 W
  obtain ⟨me, hme⟩ : ∃ me, mayE s = me := ⟨_, rfl⟩
  rw [hme] at h0 hpk
  have q0 : (me != 0) = true := by simpa using h0
  clear hme
  unfold St.val at hpk ⊢
  have HPK := Lib.hid hpk
  clear hpk hs h0
  have hq0 := ((blk_new' w (g := w.heap.size) (by simp) 34 #[.int .i64 s.mode, .int .i64 s.source, .bool s.hold, .int .i64 s.flags, .int .u64 s.epoch]).alloc (.cells #[.int .i64 kd, .int .i64 so, .int .i64 mo, .bool fr, .int .i64 fl] 41))
  have hq1 := (blk_new' (w.alloc (.cells #[.int .i64 s.mode, .int .i64 s.source, .bool s.hold, .int .i64 s.flags, .int .u64 s.epoch] 34)) (g := w.heap.size + 1) (by simp) 41 #[.int .i64 kd, .int .i64 so, .int .i64 mo, .bool fr, .int .i64 fl])
  have hlo := (((Below.refl w.heap.size w).alloc (by first | exact Nat.le_refl _ | (simp; done) | (simp; omega)) (.cells #[.int .i64 s.mode, .int .i64 s.source, .bool s.hold, .int .i64 s.flags, .int .u64 s.epoch] 34)).alloc (by first | exact Nat.le_refl _ | (simp; done) | (simp; omega)) (.cells #[.int .i64 kd, .int .i64 so, .int .i64 mo, .bool fr, .int .i64 fl] 41))
  have hz0 : 0 < w.heap.size := lt_of_cell (ht 0 (by decide))
  have ht1 := ht.below hlo
  go_enter Tryd.func6, Tryd.ntmps6
  go_upto_region 1 with fail
  generalize ((w.alloc (.cells #[.int .i64 s.mode, .int .i64 s.source, .bool s.hold, .int .i64 s.flags, .int .u64 s.epoch] 34)).alloc (.cells #[.int .i64 kd, .int .i64 so, .int .i64 mo, .bool fr, .int .i64 fl] 41)) = w1 at *
  obtain ⟨fb, hfb⟩ : ∃ fb, w.heap.size = fb := ⟨_, rfl⟩
  have hlo9 : Lo w.heap.size w w1 := ⟨hlo, hlo.size⟩
  have HBS := Lib.hid (Nat.le_of_eq hfb)
  simp only [hfb] at hlo9 hz0 hq0 hq1 ⊢
  obtain ⟨pb, hfb1⟩ : ∃ pb, fb + 1 = pb := ⟨_, rfl⟩
  simp only [hfb1] at hq1 ⊢
  have ORD0 := Lib.hid (show 0 < fb ∧ fb + 1 = pb from ⟨hz0, hfb1⟩)
  have T0 := Lib.hid ht1
  have L0 := Lib.hid hlo9
  have F0 := Lib.hid hq0
  have P0 := Lib.hid hq1
  clear ht ht1 hlo hlo9 hz0 hfb hfb1 hq0 hq1
  have Fq0 := (F0.out).cell 0
  have Fq1 := (F0.out).cell 1
  have Fq2 := (F0.out).cell 2
  have Fq3 := (F0.out).cell 3
  have Fq4 := (F0.out).cell 4
  simp only [List.getElem?_toArray, List.getElem?_cons_succ, List.getElem?_cons_zero] at Fq0 Fq1 Fq2 Fq3 Fq4
  go_wp2_with fail
  refine (HPK.out w1).mono ?_; rintro e w2 ⟨rfl, hb⟩
  clear Fq0 Fq1 Fq2 Fq3 Fq4
  have ee : Ex (fun _ => False) w1 w2 := Ex.of_below hb
  have T_1 := Lib.hid (T0.out.ex ee (fun h => h))
  have L_1 := Lib.hid (L0.out.ex ee (fun b_ h_ => h_.elim))
  have F_1 := Lib.hid (F0.out.ex ee (fun h => h))
  have P_1 := Lib.hid (P0.out.ex ee (fun h => h))
  clear ee T0 L0 F0 P0 hb
  go_wp2_with fail
  refine (New_in 1 (by decide) (by decide) w2).mono ?_; rintro e w3 ⟨rfl, hb, hl, hsz⟩
  have hb : BankAt w3 (w2.heap.size + 1) w2.heap.size [0] 0 := hb
  obtain ⟨rr, hrr⟩ : ∃ rr, w2.heap.size = rr := ⟨_, rfl⟩
  have hlt : pb < rr := hrr ▸ P_1.out.lt
  simp only [hrr] at hb ⊢
  obtain ⟨g, hg⟩ : ∃ g, rr + 1 = g := ⟨_, rfl⟩
  simp only [hg] at hb ⊢
  have ORD2 := Lib.hid (show 0 < fb ∧ fb + 1 = pb ∧ pb < rr ∧ rr + 1 = g from by have o_ := ORD0.out; omega)
  have ee : Ex (fun _ => False) w2 w3 := Ex.of_below hl
  have T_3 := Lib.hid (T_1.out.ex ee (fun h => h))
  have L_3 := Lib.hid (L_1.out.ex ee (fun b_ h_ => h_.elim))
  have F_3 := Lib.hid (F_1.out.ex ee (fun h => h))
  have P_3 := Lib.hid (P_1.out.ex ee (fun h => h))
  have K_3 := Lib.hid (hb)
  clear ee T_1 L_1 F_1 P_1 hb hl hsz hrr hlt hg ORD0
  have Pq0 := (P_3.out).cell 0
  have Pq1 := (P_3.out).cell 1
  have Pq2 := (P_3.out).cell 2
  have Pq3 := (P_3.out).cell 3
  have Pq4 := (P_3.out).cell 4
  simp only [List.getElem?_toArray, List.getElem?_cons_succ, List.getElem?_cons_zero] at Pq0 Pq1 Pq2 Pq3 Pq4
  go_wp2_with fail
  refine (HBG.out w3).mono ?_; rintro e w4 ⟨rfl, hb⟩
  clear Pq0 Pq1 Pq2 Pq3 Pq4
  have ee : Ex (fun _ => False) w3 w4 := Ex.of_below hb
  have T_4 := Lib.hid (T_3.out.ex ee (fun h => h))
  have L_4 := Lib.hid (L_3.out.ex ee (fun b_ h_ => h_.elim))
  have F_4 := Lib.hid (F_3.out.ex ee (fun h => h))
  have P_4 := Lib.hid (P_3.out.ex ee (fun h => h))
  have K_4 := Lib.hid (K_3.out.ex ee (fun h => h) (fun h => h))
  clear ee T_3 L_3 F_3 P_3 K_3 hb
  go_wp2_with fail
  refine (awake_any w4 T_4.out).mono ?_; rintro e w5 ⟨rfl, hb⟩
  have ee : Ex (fun _ => False) w4 w5 := Ex.of_below hb
  have T_5 := Lib.hid (T_4.out.ex ee (fun h => h))
  have L_5 := Lib.hid (L_4.out.ex ee (fun b_ h_ => h_.elim))
  have F_5 := Lib.hid (F_4.out.ex ee (fun h => h))
  have P_5 := Lib.hid (P_4.out.ex ee (fun h => h))
  have K_5 := Lib.hid (K_4.out.ex ee (fun h => h) (fun h => h))
  clear ee T_4 L_4 F_4 P_4 K_4 hb
  go_wp2_with fail
  go_ret
  exact ⟨rfl, L_5.out.low.mono HBS.out⟩
set_option maxRecDepth 100000 in
set_option maxHeartbeats 4000000 in
theorem Al_bad3 (s : St) (hs : s.Ok) (kd so mo : Int) (fr : Bool) (fl n : Int) (w : World) (ht : Tab w) (h0 : mayE s = 0) (hm : ¬ (⟨kd, so, mo, fr, fl⟩ : Pl).May n) :
    Calls Tryd.prog 6 #[s.val, .agg #[.int .i64 kd, .int .i64 so, .int .i64 mo, .bool fr, .int .i64 fl], .int .i64 n] w fun e w' => e = .returned (.bool true) ∧ Below w.heap.size w w' := by
  have hbg := fun W => begin_bad 0 n (⟨kd, so, mo, fr, fl⟩ : Pl) W hm
  unfold Pl.val at hbg
  simp only at hbg
  have HBG := Lib.hid hbg
  clear hbg hm
  have hpk := fun W => Pack_ok s hs h0 W
  unfold St.val at hpk ⊢
  have HPK := Lib.hid hpk
  clear hpk hs h0
  have hq0 := ((blk_new' w (g := w.heap.size) (by simp) 34 #[.int .i64 s.mode, .int .i64 s.source, .bool s.hold, .int .i64 s.flags, .int .u64 s.epoch]).alloc (.cells #[.int .i64 kd, .int .i64 so, .int .i64 mo, .bool fr, .int .i64 fl] 41))
  have hq1 := (blk_new' (w.alloc (.cells #[.int .i64 s.mode, .int .i64 s.source, .bool s.hold, .int .i64 s.flags, .int .u64 s.epoch] 34)) (g := w.heap.size + 1) (by simp) 41 #[.int .i64 kd, .int .i64 so, .int .i64 mo, .bool fr, .int .i64 fl])
  have hlo := (((Below.refl w.heap.size w).alloc (by first | exact Nat.le_refl _ | (simp; done) | (simp; omega)) (.cells #[.int .i64 s.mode, .int .i64 s.source, .bool s.hold, .int .i64 s.flags, .int .u64 s.epoch] 34)).alloc (by first | exact Nat.le_refl _ | (simp; done) | (simp; omega)) (.cells #[.int .i64 kd, .int .i64 so, .int .i64 mo, .bool fr, .int .i64 fl] 41))
  have hz0 : 0 < w.heap.size := lt_of_cell (ht 0 (by decide))
  have ht1 := ht.below hlo
  go_enter Tryd.func6, Tryd.ntmps6
  go_upto_region 1 with fail
  generalize ((w.alloc (.cells #[.int .i64 s.mode, .int .i64 s.source, .bool s.hold, .int .i64 s.flags, .int .u64 s.epoch] 34)).alloc (.cells #[.int .i64 kd, .int .i64 so, .int .i64 mo, .bool fr, .int .i64 fl] 41)) = w1 at *
  obtain ⟨fb, hfb⟩ : ∃ fb, w.heap.size = fb := ⟨_, rfl⟩
  have hlo9 : Lo w.heap.size w w1 := ⟨hlo, hlo.size⟩
  have HBS := Lib.hid (Nat.le_of_eq hfb)
  simp only [hfb] at hlo9 hz0 hq0 hq1 ⊢
  obtain ⟨pb, hfb1⟩ : ∃ pb, fb + 1 = pb := ⟨_, rfl⟩
  simp only [hfb1] at hq1 ⊢
  have ORD0 := Lib.hid (show 0 < fb ∧ fb + 1 = pb from ⟨hz0, hfb1⟩)
  have T0 := Lib.hid ht1
  have L0 := Lib.hid hlo9
  have F0 := Lib.hid hq0
  have P0 := Lib.hid hq1
  clear ht ht1 hlo hlo9 hz0 hfb hfb1 hq0 hq1
  have Fq0 := (F0.out).cell 0
  have Fq1 := (F0.out).cell 1
  have Fq2 := (F0.out).cell 2
  have Fq3 := (F0.out).cell 3
  have Fq4 := (F0.out).cell 4
  simp only [List.getElem?_toArray, List.getElem?_cons_succ, List.getElem?_cons_zero] at Fq0 Fq1 Fq2 Fq3 Fq4
  go_wp2_with fail
  refine (HPK.out w1).mono ?_; rintro e w2 ⟨rfl, hb⟩
  clear Fq0 Fq1 Fq2 Fq3 Fq4
  have ee : Ex (fun _ => False) w1 w2 := Ex.of_below hb
  have T_1 := Lib.hid (T0.out.ex ee (fun h => h))
  have L_1 := Lib.hid (L0.out.ex ee (fun b_ h_ => h_.elim))
  have F_1 := Lib.hid (F0.out.ex ee (fun h => h))
  have P_1 := Lib.hid (P0.out.ex ee (fun h => h))
  clear ee T0 L0 F0 P0 hb
  go_wp2_with fail
  refine (New_in 1 (by decide) (by decide) w2).mono ?_; rintro e w3 ⟨rfl, hb, hl, hsz⟩
  have hb : BankAt w3 (w2.heap.size + 1) w2.heap.size [0] 0 := hb
  obtain ⟨rr, hrr⟩ : ∃ rr, w2.heap.size = rr := ⟨_, rfl⟩
  have hlt : pb < rr := hrr ▸ P_1.out.lt
  simp only [hrr] at hb ⊢
  obtain ⟨g, hg⟩ : ∃ g, rr + 1 = g := ⟨_, rfl⟩
  simp only [hg] at hb ⊢
  have ORD2 := Lib.hid (show 0 < fb ∧ fb + 1 = pb ∧ pb < rr ∧ rr + 1 = g from by have o_ := ORD0.out; omega)
  have ee : Ex (fun _ => False) w2 w3 := Ex.of_below hl
  have T_3 := Lib.hid (T_1.out.ex ee (fun h => h))
  have L_3 := Lib.hid (L_1.out.ex ee (fun b_ h_ => h_.elim))
  have F_3 := Lib.hid (F_1.out.ex ee (fun h => h))
  have P_3 := Lib.hid (P_1.out.ex ee (fun h => h))
  have K_3 := Lib.hid (hb)
  clear ee T_1 L_1 F_1 P_1 hb hl hsz hrr hlt hg ORD0
  have Pq0 := (P_3.out).cell 0
  have Pq1 := (P_3.out).cell 1
  have Pq2 := (P_3.out).cell 2
  have Pq3 := (P_3.out).cell 3
  have Pq4 := (P_3.out).cell 4
  simp only [List.getElem?_toArray, List.getElem?_cons_succ, List.getElem?_cons_zero] at Pq0 Pq1 Pq2 Pq3 Pq4
  go_wp2_with fail
  refine (HBG.out w3).mono ?_; rintro e w4 ⟨rfl, hb⟩
  clear Pq0 Pq1 Pq2 Pq3 Pq4
  have ee : Ex (fun _ => False) w3 w4 := Ex.of_below hb
  have T_4 := Lib.hid (T_3.out.ex ee (fun h => h))
  have L_4 := Lib.hid (L_3.out.ex ee (fun b_ h_ => h_.elim))
  have F_4 := Lib.hid (F_3.out.ex ee (fun h => h))
  have P_4 := Lib.hid (P_3.out.ex ee (fun h => h))
  have K_4 := Lib.hid (K_3.out.ex ee (fun h => h) (fun h => h))
  clear ee T_3 L_3 F_3 P_3 K_3 hb
  go_wp2_with fail
  refine (awake_any w4 T_4.out).mono ?_; rintro e w5 ⟨rfl, hb⟩
  have ee : Ex (fun _ => False) w4 w5 := Ex.of_below hb
  have T_5 := Lib.hid (T_4.out.ex ee (fun h => h))
  have L_5 := Lib.hid (L_4.out.ex ee (fun b_ h_ => h_.elim))
  have F_5 := Lib.hid (F_4.out.ex ee (fun h => h))
  have P_5 := Lib.hid (P_4.out.ex ee (fun h => h))
  have K_5 := Lib.hid (K_4.out.ex ee (fun h => h) (fun h => h))
  clear ee T_4 L_4 F_4 P_4 K_4 hb
  go_wp2_with fail
  go_ret
  exact ⟨rfl, L_5.out.low.mono HBS.out⟩
theorem ArbiterAlone_walk (s : St) (hs : s.Ok) (p : Pl) (hp : p.Ok) (n : Int) (w : World) (ht : Tab w) :
    Calls Tryd.prog 6 #[s.val, p.val, .int .i64 n] w fun e w' => e = .returned (.bool true) ∧ Below w.heap.size w w' := by
  obtain ⟨kd, so, mo, fr, fl⟩ := p
  show Calls Tryd.prog 6 #[s.val, .agg #[.int .i64 kd, .int .i64 so, .int .i64 mo, .bool fr, .int .i64 fl], .int .i64 n] w _
  by_cases h0 : mayE s = 0
  · by_cases hm : (⟨kd, so, mo, fr, fl⟩ : Pl).May n
    · by_cases n0 : kd = 0
      · subst n0
        by_cases hE : (Kd.req ⟨so, mo, fr⟩).E s = 0
        · exact Al_req_turn s hs so mo fr fl n hp w ht h0 hm hE
        · exact Al_req_stay s hs so mo fr fl n hp w ht h0 hm hE
      · by_cases n1 : kd = 1
        · subst n1
          by_cases hE : (Kd.tell fl).E s = 0
          · exact Al_tell_turn s hs so mo fr fl n hp w ht h0 hm hE
          · exact Al_tell_stay s hs so mo fr fl n hp w ht h0 hm hE
        · exact Al_read s hs kd so mo fr fl n hp w ht h0 hm n0 n1
    · exact Al_bad3 s hs kd so mo fr fl n w ht h0 hm
  · by_cases hm : (⟨kd, so, mo, fr, fl⟩ : Pl).May n
    · exact Al_bad1 s hs kd so mo fr fl n w ht h0 hm
    · exact Al_bad2 s hs kd so mo fr fl n w ht h0 hm
end Go.Proofs.YtkmlikohgilnbaaDoor.Arb
