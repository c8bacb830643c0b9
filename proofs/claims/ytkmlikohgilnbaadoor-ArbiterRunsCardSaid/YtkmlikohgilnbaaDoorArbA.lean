/-
  Law 15: awake. Printed by wip/tools/mkaw.py. Conditions stand at each. By an AI agent.
-/
import Derived.Test.YtkmlikohgilnbaaDoorArbL
namespace Go.Proofs.YtkmlikohgilnbaaDoor.Base
open Go Go.RowKit
structure Lo (B : Nat) (w a : World) : Prop where
  low : Below B w a
  le : B ≤ a.heap.size
theorem Lo.ex {T : Nat → Prop} {B : Nat} {w a b : World} (h : Lo B w a) (q : Ex T a b) (hT : ∀ k, T k → B ≤ k) : Lo B w b :=
  ⟨h.low.trans (q.to_below (fun k hk ht => by have := hT k ht; omega) h.le), Nat.le_trans h.le q.size⟩
end Go.Proofs.YtkmlikohgilnbaaDoor.Base
namespace Go.Proofs.YtkmlikohgilnbaaDoor.Arb
set_option linter.unusedVariables false
set_option linter.unusedSimpArgs false
open Go Go.RowKit Go.Proofs.YtkmlikohgilnbaaDoor.Base Go.Proofs.YtkmlikohgilnbaaDoor.Reg
open Go.Proofs.YtkmlikohgilnbaaDoor.Bank (BankAt inW wordF setF tickF errF casB errF_in errF_out wordF_in wordF_out tickF_in tickF_out setF_in setF_out casB_out casB_in wordF_range Load_any CAS_any Load_nil New_in Store_any Peek_any Touches_any zeros)
open Go.Proofs.YtkmlikohgilnbaaDoor.Modes (Tab)

deriving instance DecidableEq for Reg.St
deriving instance DecidableEq for AX
theorem ArbAt.blt {w : World} {o b : Nat} {k : Kd} {at_ : Int} {x : AX} (h : ArbAt w o b k at_ x) (hr : k.isRead = false) : b < w.heap.size := by
  have := h.cap
  cases k with
  | req a => exact Blk.lt this
  | tell f => exact Blk.lt this
  | read => simp [Kd.isRead] at hr
set_option maxRecDepth 100000 in
set_option maxHeartbeats 1000000 in
theorem awake_any (w : World) (ht : Tab w) : Calls Tryd.prog 8 #[] w fun e w' => e = .returned (.bool true) ∧ Below w.heap.size w w' := by
  have HT := Lib.hid ht
  clear ht
  go_enter Tryd.func8, Tryd.ntmps8
  go_wp2_with fail
  refine (New_in 1 (by decide) (by decide) w).mono ?_; rintro e w1 ⟨rfl, hb, hl, hsz⟩
  have hb : BankAt w1 (w.heap.size + 1) w.heap.size [0] 0 := hb
  have K0 := Lib.hid hb
  have T0 := Lib.hid (HT.out.below hl)
  have L0 := Lib.hid (Lo.mk hl hl.size)
  have hp0 := lt_of_cell (HT.out 0 (by decide))
  have hp1 : 0 < w.heap.size := hp0
  generalize hg : w.heap.size + 1 = g at *
  generalize hh : w.heap.size = rr at *
  have ORD0 := Lib.hid (show 0 < rr ∧ rr + 1 = g from ⟨hp1, hg⟩)
  have HBS := Lib.hid (Nat.le_of_eq hh)
  clear hb hl hsz hp0 hp1 hg HT hh
  go_wp2_with fail
  refine (AHealth_in 0 3 5 w1 (by decide)).mono ?_; rintro e w1a ⟨oa, ba, rfl, ha, hs1, hs2, hs3, hs4, hb⟩
  obtain ⟨Ma, hM⟩ : ∃ Ma : Nat, g < Ma ∧ rr < Ma ∧ Ma ≤ oa ∧ (Ma ≤ ba ∨ ba = 0) := ⟨w1.heap.size, K0.out.head.lt, K0.out.row.lt, hs1, hs2⟩
  have ORD1 := Lib.hid (show 0 < rr ∧ rr + 1 = g ∧ g < Ma ∧ rr < Ma ∧ Ma ≤ oa ∧ (Ma ≤ ba ∨ ba = 0) from by have o_ := ORD0.out; omega)
  have Ia_1 := Lib.hid (show AInv (.tell 5) 3 (AX.zero 3) from AInv.zero (.inr (by decide)) (fun _ => by decide))
  have ee : Ex (fun _ => False) w1 w1a := Ex.of_below hb
  have K_2 := Lib.hid (K0.out.ex ee (fun h => h) (fun h => h))
  have T_2 := Lib.hid (T0.out.ex ee (fun h => h))
  have L_2 := Lib.hid (L0.out.ex ee (fun b_ h_ => h_.elim))
  have Aa_2 := Lib.hid (ha)
  clear ee K0 T0 L0 hb hs1 hs2 hs3 hs4 hM ORD0
  go_wp2_with fail
  refine (ARequest_in 0 3 ⟨0, 1, false⟩ w1a (by decide)).mono ?_; rintro e w3c ⟨oc, bc, rfl, ha, hs1, hs2, hs3, hs4, hb⟩
  obtain ⟨Mc, hM⟩ : ∃ Mc : Nat, g < Mc ∧ rr < Mc ∧ oa < Mc ∧ ba < Mc ∧ Mc ≤ oc ∧ (Mc ≤ bc ∨ bc = 0) := ⟨w1a.heap.size, K_2.out.head.lt, K_2.out.row.lt, Aa_2.out.head.lt, ArbAt.blt Aa_2.out rfl, hs1, hs2⟩
  have ORD3 := Lib.hid (show 0 < rr ∧ rr + 1 = g ∧ g < Ma ∧ rr < Ma ∧ Ma ≤ oa ∧ (Ma ≤ ba ∨ ba = 0) ∧ g < Mc ∧ rr < Mc ∧ oa < Mc ∧ ba < Mc ∧ Mc ≤ oc ∧ (Mc ≤ bc ∨ bc = 0) from by have o_ := ORD1.out; omega)
  have Ic_3 := Lib.hid (show AInv (.req ⟨0, 1, false⟩) 3 (AX.zero 3) from AInv.zero (.inr (by decide)) (fun _ => by decide))
  have ee : Ex (fun _ => False) w1a w3c := Ex.of_below hb
  have K_4 := Lib.hid (K_2.out.ex ee (fun h => h) (fun h => h))
  have T_4 := Lib.hid (T_2.out.ex ee (fun h => h))
  have L_4 := Lib.hid (L_2.out.ex ee (fun b_ h_ => h_.elim))
  have Aa_4 := Lib.hid (Aa_2.out.ex ee (fun h => h) (fun h => h))
  have Ac_4 := Lib.hid (ha)
  clear ee K_2 T_2 L_2 Aa_2 hb hs1 hs2 hs3 hs4 hM ORD1
  go_wp2_with fail
  refine (AHealth_in 0 3 7 w3c (by decide)).mono ?_; rintro e w5d ⟨od, bd, rfl, ha, hs1, hs2, hs3, hs4, hb⟩
  obtain ⟨Md, hM⟩ : ∃ Md : Nat, g < Md ∧ rr < Md ∧ oa < Md ∧ ba < Md ∧ oc < Md ∧ bc < Md ∧ Md ≤ od ∧ (Md ≤ bd ∨ bd = 0) := ⟨w3c.heap.size, K_4.out.head.lt, K_4.out.row.lt, Aa_4.out.head.lt, ArbAt.blt Aa_4.out rfl, Ac_4.out.head.lt, ArbAt.blt Ac_4.out rfl, hs1, hs2⟩
  have ORD5 := Lib.hid (show 0 < rr ∧ rr + 1 = g ∧ g < Ma ∧ rr < Ma ∧ Ma ≤ oa ∧ (Ma ≤ ba ∨ ba = 0) ∧ g < Mc ∧ rr < Mc ∧ oa < Mc ∧ ba < Mc ∧ Mc ≤ oc ∧ (Mc ≤ bc ∨ bc = 0) ∧ g < Md ∧ rr < Md ∧ oa < Md ∧ ba < Md ∧ oc < Md ∧ bc < Md ∧ Md ≤ od ∧ (Md ≤ bd ∨ bd = 0) from by have o_ := ORD3.out; omega)
  have Id_5 := Lib.hid (show AInv (.tell 7) 3 (AX.zero 3) from AInv.zero (.inr (by decide)) (fun _ => by decide))
  have ee : Ex (fun _ => False) w3c w5d := Ex.of_below hb
  have K_6 := Lib.hid (K_4.out.ex ee (fun h => h) (fun h => h))
  have T_6 := Lib.hid (T_4.out.ex ee (fun h => h))
  have L_6 := Lib.hid (L_4.out.ex ee (fun b_ h_ => h_.elim))
  have Aa_6 := Lib.hid (Aa_4.out.ex ee (fun h => h) (fun h => h))
  have Ac_6 := Lib.hid (Ac_4.out.ex ee (fun h => h) (fun h => h))
  have Ad_6 := Lib.hid (ha)
  clear ee K_4 T_4 L_4 Aa_4 Ac_4 hb hs1 hs2 hs3 hs4 hM ORD3
  go_wp2_with fail
  refine (run_any g rr oa ba [0] 0 (.tell 5) ⟨by decide, by decide⟩ 3 0 (AX.zero 3) Ia_1.out w5d rfl Aa_6.out K_6.out T_6.out (by have o_ := ORD5.out; omega)).mono ?_; rintro e w7r ⟨rfl, hb, ha, _, hx⟩
  have e1 : aRun (.tell 5) 0 40 ((AX.zero 3), [0], 0) = (⟨1, false, 0, ⟨0, 0, false, 5, 1⟩, ⟨0, 0, false, 5, 1⟩, 0, 2, 2⟩, [4416], 2) := by decide +kernel
  rw [e1] at hb ha ⊢
  simp only at hb ha ⊢
  have ee : Ex (fun k => k = g ∨ k = rr ∨ k = oa) w5d w7r := hx
  have T_8 := Lib.hid (T_6.out.ex ee (by have o_ := ORD5.out; omega))
  have L_8 := Lib.hid (L_6.out.ex ee (fun b_ h_ => by have o_ := ORD5.out; have h_ : b_ = g ∨ b_ = rr ∨ b_ = oa := h_; first | omega | (show _ ∨ _; omega)))
  have Ac_8 := Lib.hid (Ac_6.out.ex ee (by have o_ := ORD5.out; omega) (by have o_ := ORD5.out; omega))
  have Ad_8 := Lib.hid (Ad_6.out.ex ee (by have o_ := ORD5.out; omega) (by have o_ := ORD5.out; omega))
  have K_8 := Lib.hid (hb)
  have Aa_8 := Lib.hid (ha)
  clear ee K_6 T_6 L_6 Aa_6 Ac_6 Ad_6 hb ha hx e1
  go_wp2_with fail
  refine (At_any oa ba (.tell 5) 0 ⟨1, false, 0, ⟨0, 0, false, 5, 1⟩, ⟨0, 0, false, 5, 1⟩, 0, 2, 2⟩ w7r Aa_8.out).mono ?_; rintro e w_ ⟨rfl, rfl⟩
  go_wp2_with fail
  have HG := Lib.hid (Got_any oa ba (.tell 5) 0 ⟨1, false, 0, ⟨0, 0, false, 5, 1⟩, ⟨0, 0, false, 5, 1⟩, 0, 2, 2⟩ w7r Aa_8.out)
  unfold St.val at HG
  simp only at HG
  refine (HG.out).mono ?_; rintro e wg1 ⟨rfl, hb⟩
  clear HG
  have ee : Ex (fun _ => False) w7r wg1 := Ex.of_below hb
  have K_9 := Lib.hid (K_8.out.ex ee (fun h => h) (fun h => h))
  have T_9 := Lib.hid (T_8.out.ex ee (fun h => h))
  have L_9 := Lib.hid (L_8.out.ex ee (fun b_ h_ => h_.elim))
  have Aa_9 := Lib.hid (Aa_8.out.ex ee (fun h => h) (fun h => h))
  have Ac_9 := Lib.hid (Ac_8.out.ex ee (fun h => h) (fun h => h))
  have Ad_9 := Lib.hid (Ad_8.out.ex ee (fun h => h) (fun h => h))
  clear ee K_8 T_8 L_8 Aa_8 Ac_8 Ad_8 hb
  go_wp2_with fail
  obtain ⟨sb, hsb, hM⟩ : ∃ sb : Nat, wg1.heap.size = sb ∧ g < sb ∧ rr < sb ∧ oa < sb ∧ ba < sb ∧ oc < sb ∧ bc < sb ∧ od < sb ∧ bd < sb := ⟨wg1.heap.size, rfl, K_9.out.head.lt, K_9.out.row.lt, Aa_9.out.head.lt, ArbAt.blt Aa_9.out rfl, Ac_9.out.head.lt, ArbAt.blt Ac_9.out rfl, Ad_9.out.head.lt, ArbAt.blt Ad_9.out rfl⟩
  have ORD10 := Lib.hid (show 0 < rr ∧ rr + 1 = g ∧ g < Ma ∧ rr < Ma ∧ Ma ≤ oa ∧ (Ma ≤ ba ∨ ba = 0) ∧ g < Mc ∧ rr < Mc ∧ oa < Mc ∧ ba < Mc ∧ Mc ≤ oc ∧ (Mc ≤ bc ∨ bc = 0) ∧ g < Md ∧ rr < Md ∧ oa < Md ∧ ba < Md ∧ oc < Md ∧ bc < Md ∧ Md ≤ od ∧ (Md ≤ bd ∨ bd = 0) ∧ g < sb ∧ rr < sb ∧ oa < sb ∧ ba < sb ∧ oc < sb ∧ bc < sb ∧ od < sb ∧ bd < sb from by have o_ := ORD5.out; omega)
  have hnb := Blk.new wg1 34 #[.int .i64 0, .int .i64 0, .bool false, .int .i64 5, .int .u64 1]
  rw [hsb] at hnb
  simp only [hsb]
  have ee : Ex (fun _ => False) wg1 (wg1.alloc (.cells #[.int .i64 0, .int .i64 0, .bool false, .int .i64 5, .int .u64 1] 34)) := (Ex.refl (fun _ => False) wg1).alloc (.cells #[.int .i64 0, .int .i64 0, .bool false, .int .i64 5, .int .u64 1] 34)
  have K_11 := Lib.hid (K_9.out.ex ee (fun h => h) (fun h => h))
  have T_11 := Lib.hid (T_9.out.ex ee (fun h => h))
  have L_11 := Lib.hid (L_9.out.ex ee (fun b_ h_ => h_.elim))
  have Aa_11 := Lib.hid (Aa_9.out.ex ee (fun h => h) (fun h => h))
  have Ac_11 := Lib.hid (Ac_9.out.ex ee (fun h => h) (fun h => h))
  have Ad_11 := Lib.hid (Ad_9.out.ex ee (fun h => h) (fun h => h))
  have S_11 := Lib.hid (hnb)
  clear ee K_9 T_9 L_9 Aa_9 Ac_9 Ad_9 hnb hM ORD5
  generalize wg1.alloc (.cells #[.int .i64 0, .int .i64 0, .bool false, .int .i64 5, .int .u64 1] 34) = wg2 at *
  clear hsb
  have Sq4 := (S_11.out).cell 4
  simp only [List.getElem?_toArray, List.getElem?_cons_succ, List.getElem?_cons_zero] at Sq4
  go_wp2_with fail
  clear Sq4
  refine (Step_any g rr oc bc [4416] 2 (.req ⟨0, 1, false⟩) ⟨by decide, by decide⟩ 3 0 (AX.zero 3) Ic_3.out wg2 Ac_11.out K_11.out T_11.out (by have o_ := ORD10.out; omega)).mono ?_; rintro e w12s ⟨rfl, hb, ha, hx⟩
  have e1 : aStep (.req ⟨0, 1, false⟩) 0 [4416] (AX.zero 3) = ⟨0, true, 4416, ⟨1, 0, false, 5, 2⟩, ⟨0, 0, false, 0, 0⟩, 0, 3, 1⟩ := by decide +kernel
  have e2 : aWs 0 [4416] (AX.zero 3) = [4416] := by decide +kernel
  have e3 : aT 0 [4416] (AX.zero 3) 2 = 3 := by decide +kernel
  have Ic_12 := Lib.hid (e1 ▸ Ic_3.out.step (at_ := 0) (wordF_range K_11.out 0))
  rw [e2, e3] at hb
  rw [e1] at ha ⊢
  have ee : Ex (fun k => k = g ∨ k = rr ∨ k = oc) wg2 w12s := hx
  have T_13 := Lib.hid (T_11.out.ex ee (by have o_ := ORD10.out; omega))
  have L_13 := Lib.hid (L_11.out.ex ee (fun b_ h_ => by have o_ := ORD10.out; have h_ : b_ = g ∨ b_ = rr ∨ b_ = oc := h_; first | omega | (show _ ∨ _; omega)))
  have Aa_13 := Lib.hid (Aa_11.out.ex ee (by have o_ := ORD10.out; omega) (by have o_ := ORD10.out; omega))
  have Ad_13 := Lib.hid (Ad_11.out.ex ee (by have o_ := ORD10.out; omega) (by have o_ := ORD10.out; omega))
  have S_13 := Lib.hid (S_11.out.ex ee (by have o_ := ORD10.out; omega))
  have K_13 := Lib.hid (hb)
  have Ac_13 := Lib.hid (ha)
  clear ee K_11 T_11 L_11 Aa_11 Ac_11 Ad_11 S_11 hb ha hx e1 e2 e3 Ic_3
  go_wp2_with fail
  refine (run_any g rr od bd [4416] 3 (.tell 7) ⟨by decide, by decide⟩ 3 0 (AX.zero 3) Id_5.out w12s rfl Ad_13.out K_13.out T_13.out (by have o_ := ORD10.out; omega)).mono ?_; rintro e w14r ⟨rfl, hb, ha, _, hx⟩
  have e1 : aRun (.tell 7) 0 40 ((AX.zero 3), [4416], 3) = (⟨1, false, 4416, ⟨0, 0, false, 7, 2⟩, ⟨0, 0, false, 7, 2⟩, 0, 2, 2⟩, [8640], 5) := by decide +kernel
  rw [e1] at hb ha ⊢
  simp only at hb ha ⊢
  have ee : Ex (fun k => k = g ∨ k = rr ∨ k = od) w12s w14r := hx
  have T_15 := Lib.hid (T_13.out.ex ee (by have o_ := ORD10.out; omega))
  have L_15 := Lib.hid (L_13.out.ex ee (fun b_ h_ => by have o_ := ORD10.out; have h_ : b_ = g ∨ b_ = rr ∨ b_ = od := h_; first | omega | (show _ ∨ _; omega)))
  have Aa_15 := Lib.hid (Aa_13.out.ex ee (by have o_ := ORD10.out; omega) (by have o_ := ORD10.out; omega))
  have Ac_15 := Lib.hid (Ac_13.out.ex ee (by have o_ := ORD10.out; omega) (by have o_ := ORD10.out; omega))
  have S_15 := Lib.hid (S_13.out.ex ee (by have o_ := ORD10.out; omega))
  have K_15 := Lib.hid (hb)
  have Ad_15 := Lib.hid (ha)
  clear ee K_13 T_13 L_13 Aa_13 Ac_13 Ad_13 S_13 hb ha hx e1
  go_wp2_with fail
  refine (Step_any g rr oc bc [8640] 5 (.req ⟨0, 1, false⟩) ⟨by decide, by decide⟩ 3 0 ⟨0, true, 4416, ⟨1, 0, false, 5, 2⟩, ⟨0, 0, false, 0, 0⟩, 0, 3, 1⟩ Ic_12.out w14r Ac_15.out K_15.out T_15.out (by have o_ := ORD10.out; omega)).mono ?_; rintro e w16s ⟨rfl, hb, ha, hx⟩
  have e1 : aStep (.req ⟨0, 1, false⟩) 0 [8640] ⟨0, true, 4416, ⟨1, 0, false, 5, 2⟩, ⟨0, 0, false, 0, 0⟩, 0, 3, 1⟩ = ⟨0, false, 4416, ⟨1, 0, false, 5, 2⟩, ⟨0, 0, false, 0, 0⟩, 0, 2, 2⟩ := by decide +kernel
  have e2 : aWs 0 [8640] ⟨0, true, 4416, ⟨1, 0, false, 5, 2⟩, ⟨0, 0, false, 0, 0⟩, 0, 3, 1⟩ = [8640] := by decide +kernel
  have e3 : aT 0 [8640] ⟨0, true, 4416, ⟨1, 0, false, 5, 2⟩, ⟨0, 0, false, 0, 0⟩, 0, 3, 1⟩ 5 = 6 := by decide +kernel
  have Ic_16 := Lib.hid (e1 ▸ Ic_12.out.step (at_ := 0) (wordF_range K_15.out 0))
  rw [e2, e3] at hb
  rw [e1] at ha ⊢
  have ee : Ex (fun k => k = g ∨ k = rr ∨ k = oc) w14r w16s := hx
  have T_17 := Lib.hid (T_15.out.ex ee (by have o_ := ORD10.out; omega))
  have L_17 := Lib.hid (L_15.out.ex ee (fun b_ h_ => by have o_ := ORD10.out; have h_ : b_ = g ∨ b_ = rr ∨ b_ = oc := h_; first | omega | (show _ ∨ _; omega)))
  have Aa_17 := Lib.hid (Aa_15.out.ex ee (by have o_ := ORD10.out; omega) (by have o_ := ORD10.out; omega))
  have Ad_17 := Lib.hid (Ad_15.out.ex ee (by have o_ := ORD10.out; omega) (by have o_ := ORD10.out; omega))
  have S_17 := Lib.hid (S_15.out.ex ee (by have o_ := ORD10.out; omega))
  have K_17 := Lib.hid (hb)
  have Ac_17 := Lib.hid (ha)
  clear ee K_15 T_15 L_15 Aa_15 Ac_15 Ad_15 S_15 hb ha hx e1 e2 e3 Ic_12
  go_wp2_with fail
  refine (Step_any g rr oc bc [8640] 6 (.req ⟨0, 1, false⟩) ⟨by decide, by decide⟩ 3 0 ⟨0, false, 4416, ⟨1, 0, false, 5, 2⟩, ⟨0, 0, false, 0, 0⟩, 0, 2, 2⟩ Ic_16.out w16s Ac_17.out K_17.out T_17.out (by have o_ := ORD10.out; omega)).mono ?_; rintro e w18s ⟨rfl, hb, ha, hx⟩
  have e1 : aStep (.req ⟨0, 1, false⟩) 0 [8640] ⟨0, false, 4416, ⟨1, 0, false, 5, 2⟩, ⟨0, 0, false, 0, 0⟩, 0, 2, 2⟩ = ⟨0, true, 8640, ⟨1, 0, false, 7, 3⟩, ⟨0, 0, false, 0, 0⟩, 0, 2, 3⟩ := by decide +kernel
  have e2 : aWs 0 [8640] ⟨0, false, 4416, ⟨1, 0, false, 5, 2⟩, ⟨0, 0, false, 0, 0⟩, 0, 2, 2⟩ = [8640] := by decide +kernel
  have e3 : aT 0 [8640] ⟨0, false, 4416, ⟨1, 0, false, 5, 2⟩, ⟨0, 0, false, 0, 0⟩, 0, 2, 2⟩ 6 = 7 := by decide +kernel
  have Ic_18 := Lib.hid (e1 ▸ Ic_16.out.step (at_ := 0) (wordF_range K_17.out 0))
  rw [e2, e3] at hb
  rw [e1] at ha ⊢
  have ee : Ex (fun k => k = g ∨ k = rr ∨ k = oc) w16s w18s := hx
  have T_19 := Lib.hid (T_17.out.ex ee (by have o_ := ORD10.out; omega))
  have L_19 := Lib.hid (L_17.out.ex ee (fun b_ h_ => by have o_ := ORD10.out; have h_ : b_ = g ∨ b_ = rr ∨ b_ = oc := h_; first | omega | (show _ ∨ _; omega)))
  have Aa_19 := Lib.hid (Aa_17.out.ex ee (by have o_ := ORD10.out; omega) (by have o_ := ORD10.out; omega))
  have Ad_19 := Lib.hid (Ad_17.out.ex ee (by have o_ := ORD10.out; omega) (by have o_ := ORD10.out; omega))
  have S_19 := Lib.hid (S_17.out.ex ee (by have o_ := ORD10.out; omega))
  have K_19 := Lib.hid (hb)
  have Ac_19 := Lib.hid (ha)
  clear ee K_17 T_17 L_17 Aa_17 Ac_17 Ad_17 S_17 hb ha hx e1 e2 e3 Ic_16
  go_wp2_with fail
  refine (Step_any g rr oc bc [8640] 7 (.req ⟨0, 1, false⟩) ⟨by decide, by decide⟩ 3 0 ⟨0, true, 8640, ⟨1, 0, false, 7, 3⟩, ⟨0, 0, false, 0, 0⟩, 0, 2, 3⟩ Ic_18.out w18s Ac_19.out K_19.out T_19.out (by have o_ := ORD10.out; omega)).mono ?_; rintro e w20s ⟨rfl, hb, ha, hx⟩
  have e1 : aStep (.req ⟨0, 1, false⟩) 0 [8640] ⟨0, true, 8640, ⟨1, 0, false, 7, 3⟩, ⟨0, 0, false, 0, 0⟩, 0, 2, 3⟩ = ⟨1, false, 8640, ⟨1, 0, false, 7, 3⟩, ⟨1, 0, false, 7, 3⟩, 0, 1, 4⟩ := by decide +kernel
  have e2 : aWs 0 [8640] ⟨0, true, 8640, ⟨1, 0, false, 7, 3⟩, ⟨0, 0, false, 0, 0⟩, 0, 2, 3⟩ = [12737] := by decide +kernel
  have e3 : aT 0 [8640] ⟨0, true, 8640, ⟨1, 0, false, 7, 3⟩, ⟨0, 0, false, 0, 0⟩, 0, 2, 3⟩ 7 = 8 := by decide +kernel
  have Ic_20 := Lib.hid (e1 ▸ Ic_18.out.step (at_ := 0) (wordF_range K_19.out 0))
  rw [e2, e3] at hb
  rw [e1] at ha ⊢
  have ee : Ex (fun k => k = g ∨ k = rr ∨ k = oc) w18s w20s := hx
  have T_21 := Lib.hid (T_19.out.ex ee (by have o_ := ORD10.out; omega))
  have L_21 := Lib.hid (L_19.out.ex ee (fun b_ h_ => by have o_ := ORD10.out; have h_ : b_ = g ∨ b_ = rr ∨ b_ = oc := h_; first | omega | (show _ ∨ _; omega)))
  have Aa_21 := Lib.hid (Aa_19.out.ex ee (by have o_ := ORD10.out; omega) (by have o_ := ORD10.out; omega))
  have Ad_21 := Lib.hid (Ad_19.out.ex ee (by have o_ := ORD10.out; omega) (by have o_ := ORD10.out; omega))
  have S_21 := Lib.hid (S_19.out.ex ee (by have o_ := ORD10.out; omega))
  have K_21 := Lib.hid (hb)
  have Ac_21 := Lib.hid (ha)
  clear ee K_19 T_19 L_19 Aa_19 Ac_19 Ad_19 S_19 hb ha hx e1 e2 e3 Ic_18
  go_wp2_with fail
  have HG := Lib.hid (Got_any oc bc (.req ⟨0, 1, false⟩) 0 ⟨1, false, 8640, ⟨1, 0, false, 7, 3⟩, ⟨1, 0, false, 7, 3⟩, 0, 1, 4⟩ w20s Ac_21.out)
  unfold St.val at HG
  simp only at HG
  refine (HG.out).mono ?_; rintro e wg3 ⟨rfl, hb⟩
  clear HG
  have ee : Ex (fun _ => False) w20s wg3 := Ex.of_below hb
  have K_22 := Lib.hid (K_21.out.ex ee (fun h => h) (fun h => h))
  have T_22 := Lib.hid (T_21.out.ex ee (fun h => h))
  have L_22 := Lib.hid (L_21.out.ex ee (fun b_ h_ => h_.elim))
  have Aa_22 := Lib.hid (Aa_21.out.ex ee (fun h => h) (fun h => h))
  have Ac_22 := Lib.hid (Ac_21.out.ex ee (fun h => h) (fun h => h))
  have Ad_22 := Lib.hid (Ad_21.out.ex ee (fun h => h) (fun h => h))
  have S_22 := Lib.hid (S_21.out.ex ee (fun h => h))
  clear ee K_21 T_21 L_21 Aa_21 Ac_21 Ad_21 S_21 hb
  have Sq0 := (S_22.out).cell 0
  have Sq1 := (S_22.out).cell 1
  have Sq2 := (S_22.out).cell 2
  have Sq3 := (S_22.out).cell 3
  have Sq4 := (S_22.out).cell 4
  simp only [List.getElem?_toArray, List.getElem?_cons_succ, List.getElem?_cons_zero] at Sq0 Sq1 Sq2 Sq3 Sq4
  have Sf0 := (S_22.out).frozen 0
  have Sf1 := (S_22.out).frozen 1
  have Sf2 := (S_22.out).frozen 2
  have Sf3 := (S_22.out).frozen 3
  have Sf4 := (S_22.out).frozen 4
  go_wp2_with fail
  clear Sq0 Sq1 Sq2 Sq3 Sq4 Sf0 Sf1 Sf2 Sf3 Sf4
  have hbb := set5_blk (x0 := .int .i64 1) (x1 := .int .i64 0) (x2 := .bool false) (x3 := .int .i64 7) (x4 := .int .u64 3) S_22.out
  have ee : Ex (fun k => k = sb) wg3 (((((wg3.setCell ⟨sb, 0, none⟩ (.int .i64 1)).setCell ⟨sb, 1, none⟩ (.int .i64 0)).setCell ⟨sb, 2, none⟩ (.bool false)).setCell ⟨sb, 3, none⟩ (.int .i64 7)).setCell ⟨sb, 4, none⟩ (.int .u64 3)) := ((((((Ex.refl (fun q => q = sb) wg3).setCell (q := ⟨sb, 0, none⟩) (.inl rfl) (.int .i64 1)).setCell (q := ⟨sb, 1, none⟩) (.inl rfl) (.int .i64 0)).setCell (q := ⟨sb, 2, none⟩) (.inl rfl) (.bool false)).setCell (q := ⟨sb, 3, none⟩) (.inl rfl) (.int .i64 7)).setCell (q := ⟨sb, 4, none⟩) (.inl rfl) (.int .u64 3))
  have K_23 := Lib.hid (K_22.out.ex ee (by have o_ := ORD10.out; omega) (by have o_ := ORD10.out; omega))
  have T_23 := Lib.hid (T_22.out.ex ee (by have o_ := ORD10.out; omega))
  have L_23 := Lib.hid (L_22.out.ex ee (fun b_ h_ => by have o_ := ORD10.out; have h_ : b_ = sb := h_; first | omega | (show _ ∨ _; omega)))
  have Aa_23 := Lib.hid (Aa_22.out.ex ee (by have o_ := ORD10.out; omega) (by have o_ := ORD10.out; omega))
  have Ac_23 := Lib.hid (Ac_22.out.ex ee (by have o_ := ORD10.out; omega) (by have o_ := ORD10.out; omega))
  have Ad_23 := Lib.hid (Ad_22.out.ex ee (by have o_ := ORD10.out; omega) (by have o_ := ORD10.out; omega))
  have S_23 := Lib.hid (hbb)
  clear ee K_22 T_22 L_22 Aa_22 Ac_22 Ad_22 S_22 hbb
  generalize (((((wg3.setCell ⟨sb, 0, none⟩ (.int .i64 1)).setCell ⟨sb, 1, none⟩ (.int .i64 0)).setCell ⟨sb, 2, none⟩ (.bool false)).setCell ⟨sb, 3, none⟩ (.int .i64 7)).setCell ⟨sb, 4, none⟩ (.int .u64 3)) = wg4 at *
  go_wp2_with fail
  refine (ARequest_in 0 3 ⟨0, 3, false⟩ wg4 (by decide)).mono ?_; rintro e w24k ⟨ok, bk, rfl, ha, hs1, hs2, hs3, hs4, hb⟩
  obtain ⟨Mk, hM⟩ : ∃ Mk : Nat, g < Mk ∧ rr < Mk ∧ oa < Mk ∧ ba < Mk ∧ oc < Mk ∧ bc < Mk ∧ od < Mk ∧ bd < Mk ∧ sb < Mk ∧ Mk ≤ ok ∧ (Mk ≤ bk ∨ bk = 0) := ⟨wg4.heap.size, K_23.out.head.lt, K_23.out.row.lt, Aa_23.out.head.lt, ArbAt.blt Aa_23.out rfl, Ac_23.out.head.lt, ArbAt.blt Ac_23.out rfl, Ad_23.out.head.lt, ArbAt.blt Ad_23.out rfl, S_23.out.lt, hs1, hs2⟩
  have ORD24 := Lib.hid (show 0 < rr ∧ rr + 1 = g ∧ g < Ma ∧ rr < Ma ∧ Ma ≤ oa ∧ (Ma ≤ ba ∨ ba = 0) ∧ g < Mc ∧ rr < Mc ∧ oa < Mc ∧ ba < Mc ∧ Mc ≤ oc ∧ (Mc ≤ bc ∨ bc = 0) ∧ g < Md ∧ rr < Md ∧ oa < Md ∧ ba < Md ∧ oc < Md ∧ bc < Md ∧ Md ≤ od ∧ (Md ≤ bd ∨ bd = 0) ∧ g < sb ∧ rr < sb ∧ oa < sb ∧ ba < sb ∧ oc < sb ∧ bc < sb ∧ od < sb ∧ bd < sb ∧ g < Mk ∧ rr < Mk ∧ oa < Mk ∧ ba < Mk ∧ oc < Mk ∧ bc < Mk ∧ od < Mk ∧ bd < Mk ∧ sb < Mk ∧ Mk ≤ ok ∧ (Mk ≤ bk ∨ bk = 0) from by have o_ := ORD10.out; omega)
  have Ik_24 := Lib.hid (show AInv (.req ⟨0, 3, false⟩) 3 (AX.zero 3) from AInv.zero (.inr (by decide)) (fun _ => by decide))
  have ee : Ex (fun _ => False) wg4 w24k := Ex.of_below hb
  have K_25 := Lib.hid (K_23.out.ex ee (fun h => h) (fun h => h))
  have T_25 := Lib.hid (T_23.out.ex ee (fun h => h))
  have L_25 := Lib.hid (L_23.out.ex ee (fun b_ h_ => h_.elim))
  have Aa_25 := Lib.hid (Aa_23.out.ex ee (fun h => h) (fun h => h))
  have Ac_25 := Lib.hid (Ac_23.out.ex ee (fun h => h) (fun h => h))
  have Ad_25 := Lib.hid (Ad_23.out.ex ee (fun h => h) (fun h => h))
  have S_25 := Lib.hid (S_23.out.ex ee (fun h => h))
  have Ak_25 := Lib.hid (ha)
  clear ee K_23 T_23 L_23 Aa_23 Ac_23 Ad_23 S_23 hb hs1 hs2 hs3 hs4 hM ORD10
  have Sq0 := (S_25.out).cell 0
  have Sq1 := (S_25.out).cell 1
  have Sq2 := (S_25.out).cell 2
  have Sq3 := (S_25.out).cell 3
  have Sq4 := (S_25.out).cell 4
  simp only [List.getElem?_toArray, List.getElem?_cons_succ, List.getElem?_cons_zero] at Sq0 Sq1 Sq2 Sq3 Sq4
  go_wp2_with fail
  refine (At_any oc bc (.req ⟨0, 1, false⟩) 0 ⟨1, false, 8640, ⟨1, 0, false, 7, 3⟩, ⟨1, 0, false, 7, 3⟩, 0, 1, 4⟩ w24k Ac_25.out).mono ?_; rintro e w_ ⟨rfl, rfl⟩
  go_wp2_with fail
  clear Sq0 Sq1 Sq2 Sq3 Sq4
  refine (Step_any g rr ok bk [12737] 8 (.req ⟨0, 3, false⟩) ⟨by decide, by decide⟩ 3 0 (AX.zero 3) Ik_24.out w24k Ak_25.out K_25.out T_25.out (by have o_ := ORD24.out; omega)).mono ?_; rintro e w26s ⟨rfl, hb, ha, hx⟩
  have e1 : aStep (.req ⟨0, 3, false⟩) 0 [12737] (AX.zero 3) = ⟨1, false, 0, ⟨0, 0, false, 0, 0⟩, ⟨1, 0, false, 7, 3⟩, 21, 3, 1⟩ := by decide +kernel
  have e2 : aWs 0 [12737] (AX.zero 3) = [12737] := by decide +kernel
  have e3 : aT 0 [12737] (AX.zero 3) 8 = 9 := by decide +kernel
  have Ik_26 := Lib.hid (e1 ▸ Ik_24.out.step (at_ := 0) (wordF_range K_25.out 0))
  rw [e2, e3] at hb
  rw [e1] at ha ⊢
  have ee : Ex (fun k => k = g ∨ k = rr ∨ k = ok) w24k w26s := hx
  have T_27 := Lib.hid (T_25.out.ex ee (by have o_ := ORD24.out; omega))
  have L_27 := Lib.hid (L_25.out.ex ee (fun b_ h_ => by have o_ := ORD24.out; have h_ : b_ = g ∨ b_ = rr ∨ b_ = ok := h_; first | omega | (show _ ∨ _; omega)))
  have Aa_27 := Lib.hid (Aa_25.out.ex ee (by have o_ := ORD24.out; omega) (by have o_ := ORD24.out; omega))
  have Ac_27 := Lib.hid (Ac_25.out.ex ee (by have o_ := ORD24.out; omega) (by have o_ := ORD24.out; omega))
  have Ad_27 := Lib.hid (Ad_25.out.ex ee (by have o_ := ORD24.out; omega) (by have o_ := ORD24.out; omega))
  have S_27 := Lib.hid (S_25.out.ex ee (by have o_ := ORD24.out; omega))
  have K_27 := Lib.hid (hb)
  have Ak_27 := Lib.hid (ha)
  clear ee K_25 T_25 L_25 Aa_25 Ac_25 Ad_25 S_25 Ak_25 hb ha hx e1 e2 e3 Ik_24
  go_wp2_with fail
  have HG := Lib.hid (Got_any ok bk (.req ⟨0, 3, false⟩) 0 ⟨1, false, 0, ⟨0, 0, false, 0, 0⟩, ⟨1, 0, false, 7, 3⟩, 21, 3, 1⟩ w26s Ak_27.out)
  unfold St.val at HG
  simp only at HG
  refine (HG.out).mono ?_; rintro e wg5 ⟨rfl, hb⟩
  clear HG
  have ee : Ex (fun _ => False) w26s wg5 := Ex.of_below hb
  have K_28 := Lib.hid (K_27.out.ex ee (fun h => h) (fun h => h))
  have T_28 := Lib.hid (T_27.out.ex ee (fun h => h))
  have L_28 := Lib.hid (L_27.out.ex ee (fun b_ h_ => h_.elim))
  have Aa_28 := Lib.hid (Aa_27.out.ex ee (fun h => h) (fun h => h))
  have Ac_28 := Lib.hid (Ac_27.out.ex ee (fun h => h) (fun h => h))
  have Ad_28 := Lib.hid (Ad_27.out.ex ee (fun h => h) (fun h => h))
  have S_28 := Lib.hid (S_27.out.ex ee (fun h => h))
  have Ak_28 := Lib.hid (Ak_27.out.ex ee (fun h => h) (fun h => h))
  clear ee K_27 T_27 L_27 Aa_27 Ac_27 Ad_27 S_27 Ak_27 hb
  have Sq0 := (S_28.out).cell 0
  have Sq1 := (S_28.out).cell 1
  have Sq2 := (S_28.out).cell 2
  have Sq3 := (S_28.out).cell 3
  have Sq4 := (S_28.out).cell 4
  simp only [List.getElem?_toArray, List.getElem?_cons_succ, List.getElem?_cons_zero] at Sq0 Sq1 Sq2 Sq3 Sq4
  have Sf0 := (S_28.out).frozen 0
  have Sf1 := (S_28.out).frozen 1
  have Sf2 := (S_28.out).frozen 2
  have Sf3 := (S_28.out).frozen 3
  have Sf4 := (S_28.out).frozen 4
  go_wp2_with fail
  clear Sq0 Sq1 Sq2 Sq3 Sq4 Sf0 Sf1 Sf2 Sf3 Sf4
  have hbb := set5_blk (x0 := .int .i64 1) (x1 := .int .i64 0) (x2 := .bool false) (x3 := .int .i64 7) (x4 := .int .u64 3) S_28.out
  have ee : Ex (fun k => k = sb) wg5 (((((wg5.setCell ⟨sb, 0, none⟩ (.int .i64 1)).setCell ⟨sb, 1, none⟩ (.int .i64 0)).setCell ⟨sb, 2, none⟩ (.bool false)).setCell ⟨sb, 3, none⟩ (.int .i64 7)).setCell ⟨sb, 4, none⟩ (.int .u64 3)) := ((((((Ex.refl (fun q => q = sb) wg5).setCell (q := ⟨sb, 0, none⟩) (.inl rfl) (.int .i64 1)).setCell (q := ⟨sb, 1, none⟩) (.inl rfl) (.int .i64 0)).setCell (q := ⟨sb, 2, none⟩) (.inl rfl) (.bool false)).setCell (q := ⟨sb, 3, none⟩) (.inl rfl) (.int .i64 7)).setCell (q := ⟨sb, 4, none⟩) (.inl rfl) (.int .u64 3))
  have K_29 := Lib.hid (K_28.out.ex ee (by have o_ := ORD24.out; omega) (by have o_ := ORD24.out; omega))
  have T_29 := Lib.hid (T_28.out.ex ee (by have o_ := ORD24.out; omega))
  have L_29 := Lib.hid (L_28.out.ex ee (fun b_ h_ => by have o_ := ORD24.out; have h_ : b_ = sb := h_; first | omega | (show _ ∨ _; omega)))
  have Aa_29 := Lib.hid (Aa_28.out.ex ee (by have o_ := ORD24.out; omega) (by have o_ := ORD24.out; omega))
  have Ac_29 := Lib.hid (Ac_28.out.ex ee (by have o_ := ORD24.out; omega) (by have o_ := ORD24.out; omega))
  have Ad_29 := Lib.hid (Ad_28.out.ex ee (by have o_ := ORD24.out; omega) (by have o_ := ORD24.out; omega))
  have Ak_29 := Lib.hid (Ak_28.out.ex ee (by have o_ := ORD24.out; omega) (by have o_ := ORD24.out; omega))
  have S_29 := Lib.hid (hbb)
  clear ee K_28 T_28 L_28 Aa_28 Ac_28 Ad_28 S_28 Ak_28 hbb
  generalize (((((wg5.setCell ⟨sb, 0, none⟩ (.int .i64 1)).setCell ⟨sb, 1, none⟩ (.int .i64 0)).setCell ⟨sb, 2, none⟩ (.bool false)).setCell ⟨sb, 3, none⟩ (.int .i64 7)).setCell ⟨sb, 4, none⟩ (.int .u64 3)) = wg6 at *
  have Sq4 := (S_29.out).cell 4
  simp only [List.getElem?_toArray, List.getElem?_cons_succ, List.getElem?_cons_zero] at Sq4
  go_wp2_with fail
  refine (At_any ok bk (.req ⟨0, 3, false⟩) 0 ⟨1, false, 0, ⟨0, 0, false, 0, 0⟩, ⟨1, 0, false, 7, 3⟩, 21, 3, 1⟩ wg6 Ak_29.out).mono ?_; rintro e w_ ⟨rfl, rfl⟩
  go_wp2_with fail
  go_ret
  exact ⟨rfl, L_29.out.low.mono HBS.out⟩
end Go.Proofs.YtkmlikohgilnbaaDoor.Arb
