/-
  A step of the arbiter's operation, walked. Printed by wip/tools/mkast.py. Conditions stand at each. By an AI agent.
-/
import Derived.Test.YtkmlikohgilnbaaDoorArbF
import Derived.Test.YtkmlikohgilnbaaDoorRegW
namespace Go.Proofs.YtkmlikohgilnbaaDoor.Bank
open Go Go.RowKit Go.Proofs.YtkmlikohgilnbaaDoor.Base
theorem wordF_range {w : World} {g h : Nat} {ws : List Int} {t : Int} (b : BankAt w g h ws t) (i : Int) : 0 ≤ wordF ws i ∧ wordF ws i ≤ 18446744073709551615 := by
  unfold wordF
  split
  · exact b.range _
  · omega
theorem BankAt.ex {T : Nat → Prop} {w w' : World} {g h : Nat} {ws : List Int} {t : Int} (b : BankAt w g h ws t) (p : Ex T w w') (hg : ¬ T g) (hh : ¬ T h) : BankAt w' g h ws t := ⟨b.head.ex p hg, b.row.ex p hh, b.len, b.fit⟩
end Go.Proofs.YtkmlikohgilnbaaDoor.Bank
namespace Go.Proofs.YtkmlikohgilnbaaDoor.Arb
set_option linter.unusedVariables false
set_option linter.unusedSimpArgs false
open Go Go.RowKit Go.Proofs.YtkmlikohgilnbaaDoor.Base Go.Proofs.YtkmlikohgilnbaaDoor.Reg
open Go.Proofs.YtkmlikohgilnbaaDoor.Bank (BankAt inW wordF setF tickF errF casB errF_in errF_out wordF_in wordF_out tickF_in tickF_out setF_in setF_out casB_out casB_in wordF_range Load_any CAS_any Load_nil)
open Go.Proofs.YtkmlikohgilnbaaDoor.Modes (Tab)
set_option maxRecDepth 100000 in
set_option maxHeartbeats 1000000 in
theorem S_how (g h_ o b : Nat) (ws : List Int) (t : Int) (k : Kd) (at_ : Int) (how : Int) (sw : Bool) (wd : Int) (nx s0 : St) (er left steps : Int) (w : World) (h : ArbAt w o b k at_ ⟨how, sw, wd, nx, s0, er, left, steps⟩) (hb : BankAt w g h_ ws t) (ht : Tab w)
    (ne : o ≠ g ∧ o ≠ h_ ∧ b ≠ g ∧ b ≠ h_ ∧ 0 < o ∧ 0 < g ∧ 0 < h_) (hq : how ≠ 0) :
    Calls Tryd.prog 11 #[.pointer (some ⟨o, 0, none⟩), (.pointer (some ⟨g, 0, none⟩))] w fun e w' => e = .returned (.int .i64 (how)) ∧ BankAt w' g h_ (ws) (t) ∧ ArbAt w' o b k at_ (⟨how, sw, wd, nx, s0, er, left, steps⟩) ∧ Ex (fun q => q = g ∨ q = h_ ∨ q = o) w w' := by
  have kh : (how != 0) = true := by simpa using hq
  have B0 := Lib.hid (show Blk w o 90 _ from h.head)
  have C0 := Lib.hid h.cap
  have K0 := Lib.hid hb
  have T0 := Lib.hid ht
  have HR := Lib.hid (fun i => wordF_range hb i)
  have X0 := Lib.hid (Ex.refl (fun q => q = g ∨ q = h_ ∨ q = o) w)
  unfold aCs at B0
  simp only at B0
  have ORD := Lib.hid (show b ≠ o ∧ o ≠ g ∧ o ≠ h_ ∧ b ≠ g ∧ b ≠ h_ ∧ 0 < o ∧ 0 < g ∧ 0 < h_ from ⟨h.ne, ne⟩)
  have HQ := Lib.hid hq
  clear h hb ht ne hq
  have Bq10 := (B0.out).cell 10
  simp only [List.getElem?_toArray, List.getElem?_cons_succ, List.getElem?_cons_zero] at Bq10
  go_enter Tryd.func11, Tryd.ntmps11
  go_wp2_with fail
  refine wp_scope_ahead 2 (fun c0 HC => ?_)
  go_wp2_with fail
  clear Bq10
  first | rw [goOn_ret] | skip
  go_ret
  refine ⟨rfl, ?_, ⟨B0.out, C0.out, ORD.out.1⟩, X0.out⟩
  exact K0.out
set_option maxRecDepth 100000 in
set_option maxHeartbeats 1000000 in
theorem S_lout (g h_ o b : Nat) (ws : List Int) (t : Int) (k : Kd) (at_ : Int) (how : Int) (sw : Bool) (wd : Int) (nx s0 : St) (er left steps : Int) (w : World) (h : ArbAt w o b k at_ ⟨0, false, wd, nx, s0, er, left, steps⟩) (hb : BankAt w g h_ ws t) (ht : Tab w)
    (ne : o ≠ g ∧ o ≠ h_ ∧ b ≠ g ∧ b ≠ h_ ∧ 0 < o ∧ 0 < g ∧ 0 < h_) (hin : ¬ inW ws at_) :
    Calls Tryd.prog 11 #[.pointer (some ⟨o, 0, none⟩), (.pointer (some ⟨g, 0, none⟩))] w fun e w' => e = .returned (.int .i64 (3)) ∧ BankAt w' g h_ (ws) (tickF ws at_ t) ∧ ArbAt w' o b k at_ (⟨3, false, wd, nx, St.zero, 10, left, steps⟩) ∧ Ex (fun q => q = g ∨ q = h_ ∨ q = o) w w' := by
  have B0 := Lib.hid (show Blk w o 90 _ from h.head)
  have C0 := Lib.hid h.cap
  have K0 := Lib.hid hb
  have T0 := Lib.hid ht
  have HR := Lib.hid (fun i => wordF_range hb i)
  have X0 := Lib.hid (Ex.refl (fun q => q = g ∨ q = h_ ∨ q = o) w)
  unfold aCs at B0
  simp only at B0
  have ORD := Lib.hid (show b ≠ o ∧ o ≠ g ∧ o ≠ h_ ∧ b ≠ g ∧ b ≠ h_ ∧ 0 < o ∧ 0 < g ∧ 0 < h_ from ⟨h.ne, ne⟩)
  have HIN := Lib.hid hin
  clear h hb ht ne hin
  have Bq0 := (B0.out).cell 0
  have Bq3 := (B0.out).cell 3
  have Bq10 := (B0.out).cell 10
  simp only [List.getElem?_toArray, List.getElem?_cons_succ, List.getElem?_cons_zero] at Bq0 Bq3 Bq10
  go_enter Tryd.func11, Tryd.ntmps11
  go_wp2_with fail
  refine wp_scope_ahead 2 (fun c0 HC => ?_)
  go_wp2_with fail
  refine (Load_any g h_ ws t at_ w K0.out).mono ?_; rintro e w1 ⟨rfl, hb1, hx1⟩
  rw [errF_out HIN.out, wordF_out HIN.out]
  clear Bq0 Bq3 Bq10
  have ee : Ex (fun k => k = g ∨ k = h_) w w1 := Ex.of_ex2 (T := fun k => k = g ∨ k = h_) hx1 (.inl rfl) (.inr rfl)
  have B_1 := Lib.hid (B0.out.ex ee (by have o_ := ORD.out; omega))
  have C_1 := Lib.hid (C0.out.ex ee (by have o_ := ORD.out; omega))
  have T_1 := Lib.hid (T0.out.ex ee (by have o_ := ORD.out; omega))
  have K_1 := Lib.hid (hb1)
  have X_1 := Lib.hid (X0.out.trans (ee.mono (fun k hk => hk.elim .inl (fun h => .inr (.inl h)))))
  clear ee B0 C0 K0 T0 X0 hb1 hx1
  go_wp2_with fail
  refine wp_goto ?_
  show goOn Tryd.prog c0 _ 2 (.goto 1) _ _
  refine goOn_jump HC rfl ?_
  go_wp2_with fail
  have HE := Lib.hid (fun W (h : ArbAt W o b k at_ ⟨0, false, wd, nx, s0, er, left, steps⟩) => Aend_any o b k at_ ⟨0, false, wd, nx, s0, er, left, steps⟩ 3 St.zero (10) W h)
  unfold St.val at HE
  simp only [St.zero] at HE
  go_wp2_with fail
  refine (HE.out _ ⟨B_1.out, C_1.out, ORD.out.1⟩).mono ?_; rintro e w9 ⟨rfl, ha, hx⟩
  clear HE
  have ee : Ex (fun k => k = o) w1 w9 := hx
  have C_2 := Lib.hid (C_1.out.ex ee (by have o_ := ORD.out; omega))
  have K_2 := Lib.hid (K_1.out.ex ee (by have o_ := ORD.out; omega) (by have o_ := ORD.out; omega))
  have T_2 := Lib.hid (T_1.out.ex ee (by have o_ := ORD.out; omega))
  have B_2 := Lib.hid (show Blk w9 o 90 _ from ha.head)
  have X_2 := Lib.hid (X_1.out.trans (ee.mono (fun k hk => .inr (.inr hk))))
  clear ee B_1 C_1 K_1 T_1 X_1 ha hx
  go_wp2_with fail
  first | rw [goOn_ret] | skip
  go_ret
  refine ⟨rfl, ?_, ⟨B_2.out, C_2.out, ORD.out.1⟩, X_2.out⟩
  exact K_2.out
set_option maxRecDepth 100000 in
set_option maxHeartbeats 1000000 in
theorem S_load (g h_ o b : Nat) (ws : List Int) (t : Int) (k : Kd) (at_ : Int) (how : Int) (sw : Bool) (wd : Int) (nx s0 : St) (er left steps : Int) (w : World) (h : ArbAt w o b k at_ ⟨0, false, wd, nx, s0, er, left, steps⟩) (hb : BankAt w g h_ ws t) (ht : Tab w)
    (ne : o ≠ g ∧ o ≠ h_ ∧ b ≠ g ∧ b ≠ h_ ∧ 0 < o ∧ 0 < g ∧ 0 < h_) (hin : inW ws at_) (hk : k.Ok) (hst : 0 ≤ steps ∧ steps < 1000) :
    Calls Tryd.prog 11 #[.pointer (some ⟨o, 0, none⟩), (.pointer (some ⟨g, 0, none⟩))] w fun e w' => e = .returned (.int .i64 ((aFound k (wordF ws at_) ⟨0, false, wd, nx, s0, er, left, (steps + 1)⟩).how)) ∧ BankAt w' g h_ (ws) (tickF ws at_ t) ∧ ArbAt w' o b k at_ (aFound k (wordF ws at_) ⟨0, false, wd, nx, s0, er, left, (steps + 1)⟩) ∧ Ex (fun q => q = g ∨ q = h_ ∨ q = o) w w' := by
  have B0 := Lib.hid (show Blk w o 90 _ from h.head)
  have C0 := Lib.hid h.cap
  have K0 := Lib.hid hb
  have T0 := Lib.hid ht
  have HR := Lib.hid (fun i => wordF_range hb i)
  have X0 := Lib.hid (Ex.refl (fun q => q = g ∨ q = h_ ∨ q = o) w)
  unfold aCs at B0
  simp only at B0
  have ORD := Lib.hid (show b ≠ o ∧ o ≠ g ∧ o ≠ h_ ∧ b ≠ g ∧ b ≠ h_ ∧ 0 < o ∧ 0 < g ∧ 0 < h_ from ⟨h.ne, ne⟩)
  have HIN := Lib.hid hin
  have HK := Lib.hid hk
  have HST := Lib.hid hst
  clear h hb ht ne hin hk hst
  have Bq0 := (B0.out).cell 0
  have Bq3 := (B0.out).cell 3
  have Bq10 := (B0.out).cell 10
  simp only [List.getElem?_toArray, List.getElem?_cons_succ, List.getElem?_cons_zero] at Bq0 Bq3 Bq10
  go_enter Tryd.func11, Tryd.ntmps11
  go_wp2_with fail
  refine wp_scope_ahead 2 (fun c0 HC => ?_)
  go_wp2_with fail
  refine (Load_any g h_ ws t at_ w K0.out).mono ?_; rintro e w1 ⟨rfl, hb1, hx1⟩
  rw [errF_in HIN.out]
  clear Bq0 Bq3 Bq10
  have ee : Ex (fun k => k = g ∨ k = h_) w w1 := Ex.of_ex2 (T := fun k => k = g ∨ k = h_) hx1 (.inl rfl) (.inr rfl)
  have B_1 := Lib.hid (B0.out.ex ee (by have o_ := ORD.out; omega))
  have C_1 := Lib.hid (C0.out.ex ee (by have o_ := ORD.out; omega))
  have T_1 := Lib.hid (T0.out.ex ee (by have o_ := ORD.out; omega))
  have K_1 := Lib.hid (hb1)
  have X_1 := Lib.hid (X0.out.trans (ee.mono (fun k hk => hk.elim .inl (fun h => .inr (.inl h)))))
  clear ee B0 C0 K0 T0 X0 hb1 hx1
  generalize hvv : wordF ws at_ = v at *
  have HV := Lib.hid (show 0 ≤ v ∧ v ≤ 18446744073709551615 by rw [← hvv]; exact HR.out _)
  have HVV := Lib.hid hvv
  clear hvv
  have Bq0 := (B_1.out).cell 0
  have Bq17 := (B_1.out).cell 17
  simp only [List.getElem?_toArray, List.getElem?_cons_succ, List.getElem?_cons_zero] at Bq0 Bq17
  have Bf17 := (B_1.out).frozen 17
  have hw7 : wrap64 (steps + 1) = steps + 1 := by unfold wrap64; have := HST.out; omega
  go_upto_region 12 with fail
  clear Bq0 Bq17 Bf17 hw7
  have bb := (B_1.out.set_ 17 (.int .i64 (steps + 1)))
  simp only [List.setIfInBounds_toArray, List.set_cons_succ, List.set_cons_zero] at bb
  have BB := Lib.hid bb
  clear bb
  have ee : Ex (fun k => k = o) w1 (w1.setCell ⟨o, 17, none⟩ (.int .i64 (steps + 1))) := ((Ex.refl (fun q => q = o) w1).setCell (q := ⟨o, 17, none⟩) (.inl rfl) (.int .i64 (steps + 1)))
  have C_2 := Lib.hid (C_1.out.ex ee (by have o_ := ORD.out; omega))
  have K_2 := Lib.hid (K_1.out.ex ee (by have o_ := ORD.out; omega) (by have o_ := ORD.out; omega))
  have T_2 := Lib.hid (T_1.out.ex ee (by have o_ := ORD.out; omega))
  have B_2 := Lib.hid (BB.out)
  have X_2 := Lib.hid (X_1.out.trans (ee.mono (fun k hk => .inr (.inr hk))))
  clear ee B_1 C_1 K_1 T_1 X_1 BB
  generalize (w1.setCell ⟨o, 17, none⟩ (.int .i64 (steps + 1))) = w2 at *
  have HF := Lib.hid (fun W (h : ArbAt W o b k at_ ⟨0, false, wd, nx, s0, er, left, (steps + 1)⟩) (ht : Tab W) => found_any o b k at_ ⟨0, false, wd, nx, s0, er, left, (steps + 1)⟩ v W h rfl HK.out HV.out ht ORD.out.2.2.2.2.2.1)
  go_wp2_with fail
  refine (HF.out _ ⟨B_2.out, C_2.out, ORD.out.1⟩ T_2.out).mono ?_; rintro e w9 ⟨rfl, ha, hx⟩
  clear HF
  have ee : Ex (fun k => k = o) w2 w9 := hx
  have C_3 := Lib.hid (C_2.out.ex ee (by have o_ := ORD.out; omega))
  have K_3 := Lib.hid (K_2.out.ex ee (by have o_ := ORD.out; omega) (by have o_ := ORD.out; omega))
  have T_3 := Lib.hid (T_2.out.ex ee (by have o_ := ORD.out; omega))
  have B_3 := Lib.hid (show Blk w9 o 90 _ from ha.head)
  have X_3 := Lib.hid (X_2.out.trans (ee.mono (fun k hk => .inr (.inr hk))))
  clear ee B_2 C_2 K_2 T_2 X_2 ha hx
  go_wp2_with fail
  first | rw [goOn_ret] | skip
  go_ret
  refine ⟨by rw [HVV.out]; rfl, ?_, ⟨by rw [HVV.out]; exact B_3.out, C_3.out, ORD.out.1⟩, X_3.out⟩
  exact K_3.out
set_option maxRecDepth 100000 in
set_option maxHeartbeats 1000000 in
theorem S_cout (g h_ o b : Nat) (ws : List Int) (t : Int) (k : Kd) (at_ : Int) (how : Int) (sw : Bool) (wd : Int) (nx s0 : St) (er left steps : Int) (w : World) (h : ArbAt w o b k at_ ⟨0, true, wd, nx, s0, er, left, steps⟩) (hb : BankAt w g h_ ws t) (ht : Tab w)
    (ne : o ≠ g ∧ o ≠ h_ ∧ b ≠ g ∧ b ≠ h_ ∧ 0 < o ∧ 0 < g ∧ 0 < h_) (hst : 0 ≤ steps ∧ steps < 1000) (hno : nx.Ok) (hme : mayE nx = 0) (hin : ¬ inW ws at_) :
    Calls Tryd.prog 11 #[.pointer (some ⟨o, 0, none⟩), (.pointer (some ⟨g, 0, none⟩))] w fun e w' => e = .returned (.int .i64 (3)) ∧ BankAt w' g h_ (ws) (tickF ws at_ t) ∧ ArbAt w' o b k at_ (⟨3, true, wd, nx, St.zero, 10, left, steps⟩) ∧ Ex (fun q => q = g ∨ q = h_ ∨ q = o) w w' := by
  have B0 := Lib.hid (show Blk w o 90 _ from h.head)
  have C0 := Lib.hid h.cap
  have K0 := Lib.hid hb
  have T0 := Lib.hid ht
  have HR := Lib.hid (fun i => wordF_range hb i)
  have X0 := Lib.hid (Ex.refl (fun q => q = g ∨ q = h_ ∨ q = o) w)
  unfold aCs at B0
  simp only at B0
  have ORD := Lib.hid (show b ≠ o ∧ o ≠ g ∧ o ≠ h_ ∧ b ≠ g ∧ b ≠ h_ ∧ 0 < o ∧ 0 < g ∧ 0 < h_ from ⟨h.ne, ne⟩)
  have HST := Lib.hid hst
  have HNO := Lib.hid hno
  have HME := Lib.hid hme
  have HIN := Lib.hid hin
  clear h hb ht ne hst hno hme hin
  have Bq0 := (B0.out).cell 0
  have Bq3 := (B0.out).cell 3
  have Bq4 := (B0.out).cell 4
  have Bq5 := (B0.out).cell 5
  have Bq6 := (B0.out).cell 6
  have Bq7 := (B0.out).cell 7
  have Bq8 := (B0.out).cell 8
  have Bq9 := (B0.out).cell 9
  have Bq10 := (B0.out).cell 10
  simp only [List.getElem?_toArray, List.getElem?_cons_succ, List.getElem?_cons_zero] at Bq0 Bq3 Bq4 Bq5 Bq6 Bq7 Bq8 Bq9 Bq10
  go_enter Tryd.func11, Tryd.ntmps11
  go_wp2_with fail
  refine wp_scope_ahead 2 (fun c0 HC => ?_)
  go_wp2_with fail
  refine wp_goto ?_
  show goOn Tryd.prog c0 _ 2 (.goto 0) _ _
  refine goOn_jump HC rfl ?_
  go_wp2_with fail
  have HP := Lib.hid (Pack_ok nx HNO.out HME.out w)
  unfold St.val at HP
  go_wp2_with fail
  refine HP.out.mono ?_; rintro e w1 ⟨rfl, hb1⟩
  clear HP
  clear Bq0 Bq3 Bq4 Bq5 Bq6 Bq7 Bq8 Bq9 Bq10
  have ee : Ex (fun _ => False) w w1 := (Ex.of_below hb1 : Ex (fun _ => False) _ _)
  have B_1 := Lib.hid (B0.out.ex ee (fun h => h))
  have C_1 := Lib.hid (C0.out.ex ee (fun h => h))
  have K_1 := Lib.hid (K0.out.ex ee (fun h => h) (fun h => h))
  have T_1 := Lib.hid (T0.out.ex ee (fun h => h))
  have X_1 := Lib.hid (X0.out.trans (ee.mono (fun k hk => hk.elim)))
  clear ee B0 C0 K0 T0 X0 hb1
  have Bq0 := (B_1.out).cell 0
  have Bq4 := (B_1.out).cell 4
  simp only [List.getElem?_toArray, List.getElem?_cons_succ, List.getElem?_cons_zero] at Bq0 Bq4
  go_upto_region 15 with fail
  have hne : Nonempty (Held (fun W : World => W.cell? ⟨o, 0, none⟩ = some (.int .i64 at_) ∧ W.cell? ⟨o, 4, none⟩ = some (.int .u64 wd))) := ⟨⟨w1, B_1.out.cell 0, B_1.out.cell 4⟩⟩
  have p0 : ∀ y : Held (fun W : World => W.cell? ⟨o, 0, none⟩ = some (.int .i64 at_) ∧ W.cell? ⟨o, 4, none⟩ = some (.int .u64 wd)), y.w.cell? ⟨o, 0, none⟩ = some (.int .i64 at_) := fun y => y.ok.1
  have p4 : ∀ y : Held (fun W : World => W.cell? ⟨o, 0, none⟩ = some (.int .i64 at_) ∧ W.cell? ⟨o, 4, none⟩ = some (.int .u64 wd)), y.w.cell? ⟨o, 4, none⟩ = some (.int .u64 wd) := fun y => y.ok.2
  refine drawn_bars (S := (fun W : World => W.cell? ⟨o, 0, none⟩ = some (.int .i64 at_) ∧ W.cell? ⟨o, 4, none⟩ = some (.int .u64 wd))) [([0, 1, 2, 3, 4, 5, 6, 7, 8, 9], 10)] [11, 12, 13, 14, 15] (by kernel_rfl) (by kernel_rfl) (by kernel_rfl) rfl ⟨B_1.out.cell 0, B_1.out.cell 4⟩ ?_
  refine Phased.go ?_
  simp only [pick, List.map_cons, List.map_nil, List.getElem?_cons_zero, List.getElem?_cons_succ, Option.getD_some]
  repeat (go_big_quiet_step (fail))
  refine wpQuiet_nil ?_
  clear Bq0 Bq4
  have ee : Ex (fun _ => False) w1 w1.drew := (Ex.refl (fun _ => False) w1).drew
  have B_2 := Lib.hid (B_1.out.ex ee (fun h => h))
  have C_2 := Lib.hid (C_1.out.ex ee (fun h => h))
  have K_2 := Lib.hid (K_1.out.ex ee (fun h => h) (fun h => h))
  have T_2 := Lib.hid (T_1.out.ex ee (fun h => h))
  have X_2 := Lib.hid (X_1.out.trans (ee.mono (fun k hk => hk.elim)))
  clear ee B_1 C_1 K_1 T_1 X_1
  generalize w1.drew = w2 at *
  go_wp2_with fail
  refine (CAS_any g h_ ws t at_ wd (wordI nx) w2 K_2.out (wordI_range (mayE_zero.1 HME.out).1 HNO.out)).mono ?_; rintro e w3 ⟨rfl, hb3, hx3⟩
  rw [errF_out HIN.out, casB_out HIN.out]
  rw [casB_out HIN.out, if_neg (show ¬ (false = true) by decide)] at hb3
  have ee : Ex (fun k => k = g ∨ k = h_) w2 w3 := Ex.of_ex2 (T := fun k => k = g ∨ k = h_) hx3 (.inl rfl) (.inr rfl)
  have B_3 := Lib.hid (B_2.out.ex ee (by have o_ := ORD.out; omega))
  have C_3 := Lib.hid (C_2.out.ex ee (by have o_ := ORD.out; omega))
  have T_3 := Lib.hid (T_2.out.ex ee (by have o_ := ORD.out; omega))
  have K_3 := Lib.hid (hb3)
  have X_3 := Lib.hid (X_2.out.trans (ee.mono (fun k hk => hk.elim .inl (fun h => .inr (.inl h)))))
  clear ee B_2 C_2 K_2 T_2 X_2 hb3 hx3
  go_wp2_with fail
  refine behind_normal ⟨(fun W : World => W.cell? ⟨o, 0, none⟩ = some (.int .i64 at_) ∧ W.cell? ⟨o, 4, none⟩ = some (.int .u64 wd)), fun W h => h, ⟨B_3.out.cell 0, B_3.out.cell 4⟩, ?_⟩
  refine Phased.end_ ?_
  have hne5 : Nonempty (Held (fun W => W = w3)) := ⟨⟨_, rfl⟩⟩
  simp only [pick, List.map_cons, List.map_nil, List.getElem?_cons_zero, List.getElem?_cons_succ, Option.getD_some]
  repeat (go_big_quiet_step (fail))
  refine wpQuiet_nil ?_
  clear hne hne5 p0 p4
  have Bq0 := (B_3.out).cell 0
  have Bq3 := (B_3.out).cell 3
  simp only [List.getElem?_toArray, List.getElem?_cons_succ, List.getElem?_cons_zero] at Bq0 Bq3
  go_wp2_with fail
  refine wp_goto ?_
  show goOn Tryd.prog c0 _ 1 (.goto 1) _ _
  refine goOn_jump HC rfl ?_
  go_wp2_with fail
  have HE := Lib.hid (fun W (h : ArbAt W o b k at_ ⟨0, true, wd, nx, s0, er, left, steps⟩) => Aend_any o b k at_ ⟨0, true, wd, nx, s0, er, left, steps⟩ 3 St.zero (10) W h)
  unfold St.val at HE
  simp only [St.zero] at HE
  go_wp2_with fail
  refine (HE.out _ ⟨B_3.out, C_3.out, ORD.out.1⟩).mono ?_; rintro e w9 ⟨rfl, ha, hx⟩
  clear HE
  clear Bq0 Bq3
  have ee : Ex (fun k => k = o) w3 w9 := hx
  have C_4 := Lib.hid (C_3.out.ex ee (by have o_ := ORD.out; omega))
  have K_4 := Lib.hid (K_3.out.ex ee (by have o_ := ORD.out; omega) (by have o_ := ORD.out; omega))
  have T_4 := Lib.hid (T_3.out.ex ee (by have o_ := ORD.out; omega))
  have B_4 := Lib.hid (show Blk w9 o 90 _ from ha.head)
  have X_4 := Lib.hid (X_3.out.trans (ee.mono (fun k hk => .inr (.inr hk))))
  clear ee B_3 C_3 K_3 T_3 X_3 ha hx
  go_wp2_with fail
  first | rw [goOn_ret] | skip
  go_ret
  refine ⟨rfl, ?_, ⟨B_4.out, C_4.out, ORD.out.1⟩, X_4.out⟩
  exact K_4.out
set_option maxRecDepth 100000 in
set_option maxHeartbeats 1000000 in
theorem S_hit (g h_ o b : Nat) (ws : List Int) (t : Int) (k : Kd) (at_ : Int) (how : Int) (sw : Bool) (wd : Int) (nx s0 : St) (er left steps : Int) (w : World) (h : ArbAt w o b k at_ ⟨0, true, wd, nx, s0, er, left, steps⟩) (hb : BankAt w g h_ ws t) (ht : Tab w)
    (ne : o ≠ g ∧ o ≠ h_ ∧ b ≠ g ∧ b ≠ h_ ∧ 0 < o ∧ 0 < g ∧ 0 < h_) (hst : 0 ≤ steps ∧ steps < 1000) (hno : nx.Ok) (hme : mayE nx = 0) (hin : inW ws at_) (hcb : casB ws at_ wd = true) (hlf : 1 ≤ left ∧ left ≤ 16) :
    Calls Tryd.prog 11 #[.pointer (some ⟨o, 0, none⟩), (.pointer (some ⟨g, 0, none⟩))] w fun e w' => e = .returned (.int .i64 (1)) ∧ BankAt w' g h_ (setF ws at_ (wordI nx)) (tickF ws at_ t) ∧ ArbAt w' o b k at_ (⟨1, false, wd, nx, nx, 0, (left - 1), (steps + 1)⟩) ∧ Ex (fun q => q = g ∨ q = h_ ∨ q = o) w w' := by
  have B0 := Lib.hid (show Blk w o 90 _ from h.head)
  have C0 := Lib.hid h.cap
  have K0 := Lib.hid hb
  have T0 := Lib.hid ht
  have HR := Lib.hid (fun i => wordF_range hb i)
  have X0 := Lib.hid (Ex.refl (fun q => q = g ∨ q = h_ ∨ q = o) w)
  unfold aCs at B0
  simp only at B0
  have ORD := Lib.hid (show b ≠ o ∧ o ≠ g ∧ o ≠ h_ ∧ b ≠ g ∧ b ≠ h_ ∧ 0 < o ∧ 0 < g ∧ 0 < h_ from ⟨h.ne, ne⟩)
  have HST := Lib.hid hst
  have HNO := Lib.hid hno
  have HME := Lib.hid hme
  have HIN := Lib.hid hin
  have HCB := Lib.hid hcb
  have HLF := Lib.hid hlf
  clear h hb ht ne hst hno hme hin hcb hlf
  have Bq0 := (B0.out).cell 0
  have Bq3 := (B0.out).cell 3
  have Bq4 := (B0.out).cell 4
  have Bq5 := (B0.out).cell 5
  have Bq6 := (B0.out).cell 6
  have Bq7 := (B0.out).cell 7
  have Bq8 := (B0.out).cell 8
  have Bq9 := (B0.out).cell 9
  have Bq10 := (B0.out).cell 10
  simp only [List.getElem?_toArray, List.getElem?_cons_succ, List.getElem?_cons_zero] at Bq0 Bq3 Bq4 Bq5 Bq6 Bq7 Bq8 Bq9 Bq10
  go_enter Tryd.func11, Tryd.ntmps11
  go_wp2_with fail
  refine wp_scope_ahead 2 (fun c0 HC => ?_)
  go_wp2_with fail
  refine wp_goto ?_
  show goOn Tryd.prog c0 _ 2 (.goto 0) _ _
  refine goOn_jump HC rfl ?_
  go_wp2_with fail
  have HP := Lib.hid (Pack_ok nx HNO.out HME.out w)
  unfold St.val at HP
  go_wp2_with fail
  refine HP.out.mono ?_; rintro e w1 ⟨rfl, hb1⟩
  clear HP
  clear Bq0 Bq3 Bq4 Bq5 Bq6 Bq7 Bq8 Bq9 Bq10
  have ee : Ex (fun _ => False) w w1 := (Ex.of_below hb1 : Ex (fun _ => False) _ _)
  have B_1 := Lib.hid (B0.out.ex ee (fun h => h))
  have C_1 := Lib.hid (C0.out.ex ee (fun h => h))
  have K_1 := Lib.hid (K0.out.ex ee (fun h => h) (fun h => h))
  have T_1 := Lib.hid (T0.out.ex ee (fun h => h))
  have X_1 := Lib.hid (X0.out.trans (ee.mono (fun k hk => hk.elim)))
  clear ee B0 C0 K0 T0 X0 hb1
  have Bq0 := (B_1.out).cell 0
  have Bq4 := (B_1.out).cell 4
  simp only [List.getElem?_toArray, List.getElem?_cons_succ, List.getElem?_cons_zero] at Bq0 Bq4
  go_upto_region 15 with fail
  have hne : Nonempty (Held (fun W : World => W.cell? ⟨o, 0, none⟩ = some (.int .i64 at_) ∧ W.cell? ⟨o, 4, none⟩ = some (.int .u64 wd))) := ⟨⟨w1, B_1.out.cell 0, B_1.out.cell 4⟩⟩
  have p0 : ∀ y : Held (fun W : World => W.cell? ⟨o, 0, none⟩ = some (.int .i64 at_) ∧ W.cell? ⟨o, 4, none⟩ = some (.int .u64 wd)), y.w.cell? ⟨o, 0, none⟩ = some (.int .i64 at_) := fun y => y.ok.1
  have p4 : ∀ y : Held (fun W : World => W.cell? ⟨o, 0, none⟩ = some (.int .i64 at_) ∧ W.cell? ⟨o, 4, none⟩ = some (.int .u64 wd)), y.w.cell? ⟨o, 4, none⟩ = some (.int .u64 wd) := fun y => y.ok.2
  refine drawn_bars (S := (fun W : World => W.cell? ⟨o, 0, none⟩ = some (.int .i64 at_) ∧ W.cell? ⟨o, 4, none⟩ = some (.int .u64 wd))) [([0, 1, 2, 3, 4, 5, 6, 7, 8, 9], 10)] [11, 12, 13, 14, 15] (by kernel_rfl) (by kernel_rfl) (by kernel_rfl) rfl ⟨B_1.out.cell 0, B_1.out.cell 4⟩ ?_
  refine Phased.go ?_
  simp only [pick, List.map_cons, List.map_nil, List.getElem?_cons_zero, List.getElem?_cons_succ, Option.getD_some]
  repeat (go_big_quiet_step (fail))
  refine wpQuiet_nil ?_
  clear Bq0 Bq4
  have ee : Ex (fun _ => False) w1 w1.drew := (Ex.refl (fun _ => False) w1).drew
  have B_2 := Lib.hid (B_1.out.ex ee (fun h => h))
  have C_2 := Lib.hid (C_1.out.ex ee (fun h => h))
  have K_2 := Lib.hid (K_1.out.ex ee (fun h => h) (fun h => h))
  have T_2 := Lib.hid (T_1.out.ex ee (fun h => h))
  have X_2 := Lib.hid (X_1.out.trans (ee.mono (fun k hk => hk.elim)))
  clear ee B_1 C_1 K_1 T_1 X_1
  generalize w1.drew = w2 at *
  go_wp2_with fail
  refine (CAS_any g h_ ws t at_ wd (wordI nx) w2 K_2.out (wordI_range (mayE_zero.1 HME.out).1 HNO.out)).mono ?_; rintro e w3 ⟨rfl, hb3, hx3⟩
  rw [errF_in HIN.out, HCB.out]
  rw [HCB.out, if_pos (show true = true by decide)] at hb3
  have ee : Ex (fun k => k = g ∨ k = h_) w2 w3 := Ex.of_ex2 (T := fun k => k = g ∨ k = h_) hx3 (.inl rfl) (.inr rfl)
  have B_3 := Lib.hid (B_2.out.ex ee (by have o_ := ORD.out; omega))
  have C_3 := Lib.hid (C_2.out.ex ee (by have o_ := ORD.out; omega))
  have T_3 := Lib.hid (T_2.out.ex ee (by have o_ := ORD.out; omega))
  have K_3 := Lib.hid (hb3)
  have X_3 := Lib.hid (X_2.out.trans (ee.mono (fun k hk => hk.elim .inl (fun h => .inr (.inl h)))))
  clear ee B_2 C_2 K_2 T_2 X_2 hb3 hx3
  go_wp2_with fail
  refine behind_normal ⟨(fun W : World => W.cell? ⟨o, 0, none⟩ = some (.int .i64 at_) ∧ W.cell? ⟨o, 4, none⟩ = some (.int .u64 wd)), fun W h => h, ⟨B_3.out.cell 0, B_3.out.cell 4⟩, ?_⟩
  refine Phased.end_ ?_
  have hne5 : Nonempty (Held (fun W => W = w3)) := ⟨⟨_, rfl⟩⟩
  simp only [pick, List.map_cons, List.map_nil, List.getElem?_cons_zero, List.getElem?_cons_succ, Option.getD_some]
  repeat (go_big_quiet_step (fail))
  refine wpQuiet_nil ?_
  clear hne hne5 p0 p4
  have Bq0 := (B_3.out).cell 0
  have Bq1 := (B_3.out).cell 1
  have Bq3 := (B_3.out).cell 3
  have Bq5 := (B_3.out).cell 5
  have Bq6 := (B_3.out).cell 6
  have Bq7 := (B_3.out).cell 7
  have Bq8 := (B_3.out).cell 8
  have Bq9 := (B_3.out).cell 9
  have Bq17 := (B_3.out).cell 17
  simp only [List.getElem?_toArray, List.getElem?_cons_succ, List.getElem?_cons_zero] at Bq0 Bq1 Bq3 Bq5 Bq6 Bq7 Bq8 Bq9 Bq17
  have Bf1 := (B_3.out).frozen 1
  have Bf3 := (B_3.out).frozen 3
  have Bf17 := (B_3.out).frozen 17
  have hw7 : wrap64 (steps + 1) = steps + 1 := by unfold wrap64; have := HST.out; omega
  have hw8 : wrap64 (left - 1) = left - 1 := by unfold wrap64; have := HLF.out; omega
  go_upto_region 20 with fail
  clear Bq0 Bq1 Bq3 Bq5 Bq6 Bq7 Bq8 Bq9 Bq17 Bf1 Bf3 Bf17 hw7 hw8
  have bb := (((B_3.out.set_ 17 (.int .i64 (steps + 1))).set_ 1 (.int .i64 (left - 1))).set_ 3 (.bool false))
  simp only [List.setIfInBounds_toArray, List.set_cons_succ, List.set_cons_zero] at bb
  have BB := Lib.hid bb
  clear bb
  have ee : Ex (fun k => k = o) w3 (((w3.setCell ⟨o, 17, none⟩ (.int .i64 (steps + 1))).setCell ⟨o, 1, none⟩ (.int .i64 (left - 1))).setCell ⟨o, 3, none⟩ (.bool false)) := ((((Ex.refl (fun q => q = o) w3).setCell (q := ⟨o, 17, none⟩) (.inl rfl) (.int .i64 (steps + 1))).setCell (q := ⟨o, 1, none⟩) (.inl rfl) (.int .i64 (left - 1))).setCell (q := ⟨o, 3, none⟩) (.inl rfl) (.bool false))
  have C_4 := Lib.hid (C_3.out.ex ee (by have o_ := ORD.out; omega))
  have K_4 := Lib.hid (K_3.out.ex ee (by have o_ := ORD.out; omega) (by have o_ := ORD.out; omega))
  have T_4 := Lib.hid (T_3.out.ex ee (by have o_ := ORD.out; omega))
  have B_4 := Lib.hid (BB.out)
  have X_4 := Lib.hid (X_3.out.trans (ee.mono (fun k hk => .inr (.inr hk))))
  clear ee B_3 C_3 K_3 T_3 X_3 BB
  generalize (((w3.setCell ⟨o, 17, none⟩ (.int .i64 (steps + 1))).setCell ⟨o, 1, none⟩ (.int .i64 (left - 1))).setCell ⟨o, 3, none⟩ (.bool false)) = w4 at *
  have Bq0 := (B_4.out).cell 0
  have Bq5 := (B_4.out).cell 5
  have Bq6 := (B_4.out).cell 6
  have Bq7 := (B_4.out).cell 7
  have Bq8 := (B_4.out).cell 8
  have Bq9 := (B_4.out).cell 9
  simp only [List.getElem?_toArray, List.getElem?_cons_succ, List.getElem?_cons_zero] at Bq0 Bq5 Bq6 Bq7 Bq8 Bq9
  have HE := Lib.hid (fun W (h : ArbAt W o b k at_ ⟨0, false, wd, nx, s0, er, (left - 1), (steps + 1)⟩) => Aend_any o b k at_ ⟨0, false, wd, nx, s0, er, (left - 1), (steps + 1)⟩ 1 nx (0) W h)
  unfold St.val at HE
  go_wp2_with fail
  refine (HE.out _ ⟨B_4.out, C_4.out, ORD.out.1⟩).mono ?_; rintro e w9 ⟨rfl, ha, hx⟩
  clear HE
  clear Bq0 Bq5 Bq6 Bq7 Bq8 Bq9
  have ee : Ex (fun k => k = o) w4 w9 := hx
  have C_5 := Lib.hid (C_4.out.ex ee (by have o_ := ORD.out; omega))
  have K_5 := Lib.hid (K_4.out.ex ee (by have o_ := ORD.out; omega) (by have o_ := ORD.out; omega))
  have T_5 := Lib.hid (T_4.out.ex ee (by have o_ := ORD.out; omega))
  have B_5 := Lib.hid (show Blk w9 o 90 _ from ha.head)
  have X_5 := Lib.hid (X_4.out.trans (ee.mono (fun k hk => .inr (.inr hk))))
  clear ee B_4 C_4 K_4 T_4 X_4 ha hx
  go_wp2_with fail
  first | rw [goOn_ret] | skip
  go_ret
  refine ⟨rfl, ?_, ⟨B_5.out, C_5.out, ORD.out.1⟩, X_5.out⟩
  exact K_5.out
set_option maxRecDepth 100000 in
set_option maxHeartbeats 1000000 in
theorem S_spent (g h_ o b : Nat) (ws : List Int) (t : Int) (k : Kd) (at_ : Int) (how : Int) (sw : Bool) (wd : Int) (nx s0 : St) (er left steps : Int) (w : World) (h : ArbAt w o b k at_ ⟨0, true, wd, nx, s0, er, left, steps⟩) (hb : BankAt w g h_ ws t) (ht : Tab w)
    (ne : o ≠ g ∧ o ≠ h_ ∧ b ≠ g ∧ b ≠ h_ ∧ 0 < o ∧ 0 < g ∧ 0 < h_) (hst : 0 ≤ steps ∧ steps < 1000) (hno : nx.Ok) (hme : mayE nx = 0) (hin : inW ws at_) (hcb : casB ws at_ wd = false) (hlf : left = 1) :
    Calls Tryd.prog 11 #[.pointer (some ⟨o, 0, none⟩), (.pointer (some ⟨g, 0, none⟩))] w fun e w' => e = .returned (.int .i64 (2)) ∧ BankAt w' g h_ (ws) (tickF ws at_ t) ∧ ArbAt w' o b k at_ (⟨2, false, wd, nx, St.zero, 20, (left - 1), (steps + 1)⟩) ∧ Ex (fun q => q = g ∨ q = h_ ∨ q = o) w w' := by
  have B0 := Lib.hid (show Blk w o 90 _ from h.head)
  have C0 := Lib.hid h.cap
  have K0 := Lib.hid hb
  have T0 := Lib.hid ht
  have HR := Lib.hid (fun i => wordF_range hb i)
  have X0 := Lib.hid (Ex.refl (fun q => q = g ∨ q = h_ ∨ q = o) w)
  unfold aCs at B0
  simp only at B0
  have ORD := Lib.hid (show b ≠ o ∧ o ≠ g ∧ o ≠ h_ ∧ b ≠ g ∧ b ≠ h_ ∧ 0 < o ∧ 0 < g ∧ 0 < h_ from ⟨h.ne, ne⟩)
  have HST := Lib.hid hst
  have HNO := Lib.hid hno
  have HME := Lib.hid hme
  have HIN := Lib.hid hin
  have HCB := Lib.hid hcb
  have HLF := Lib.hid hlf
  clear h hb ht ne hst hno hme hin hcb hlf
  have Bq0 := (B0.out).cell 0
  have Bq3 := (B0.out).cell 3
  have Bq4 := (B0.out).cell 4
  have Bq5 := (B0.out).cell 5
  have Bq6 := (B0.out).cell 6
  have Bq7 := (B0.out).cell 7
  have Bq8 := (B0.out).cell 8
  have Bq9 := (B0.out).cell 9
  have Bq10 := (B0.out).cell 10
  simp only [List.getElem?_toArray, List.getElem?_cons_succ, List.getElem?_cons_zero] at Bq0 Bq3 Bq4 Bq5 Bq6 Bq7 Bq8 Bq9 Bq10
  go_enter Tryd.func11, Tryd.ntmps11
  go_wp2_with fail
  refine wp_scope_ahead 2 (fun c0 HC => ?_)
  go_wp2_with fail
  refine wp_goto ?_
  show goOn Tryd.prog c0 _ 2 (.goto 0) _ _
  refine goOn_jump HC rfl ?_
  go_wp2_with fail
  have HP := Lib.hid (Pack_ok nx HNO.out HME.out w)
  unfold St.val at HP
  go_wp2_with fail
  refine HP.out.mono ?_; rintro e w1 ⟨rfl, hb1⟩
  clear HP
  clear Bq0 Bq3 Bq4 Bq5 Bq6 Bq7 Bq8 Bq9 Bq10
  have ee : Ex (fun _ => False) w w1 := (Ex.of_below hb1 : Ex (fun _ => False) _ _)
  have B_1 := Lib.hid (B0.out.ex ee (fun h => h))
  have C_1 := Lib.hid (C0.out.ex ee (fun h => h))
  have K_1 := Lib.hid (K0.out.ex ee (fun h => h) (fun h => h))
  have T_1 := Lib.hid (T0.out.ex ee (fun h => h))
  have X_1 := Lib.hid (X0.out.trans (ee.mono (fun k hk => hk.elim)))
  clear ee B0 C0 K0 T0 X0 hb1
  have Bq0 := (B_1.out).cell 0
  have Bq4 := (B_1.out).cell 4
  simp only [List.getElem?_toArray, List.getElem?_cons_succ, List.getElem?_cons_zero] at Bq0 Bq4
  go_upto_region 15 with fail
  have hne : Nonempty (Held (fun W : World => W.cell? ⟨o, 0, none⟩ = some (.int .i64 at_) ∧ W.cell? ⟨o, 4, none⟩ = some (.int .u64 wd))) := ⟨⟨w1, B_1.out.cell 0, B_1.out.cell 4⟩⟩
  have p0 : ∀ y : Held (fun W : World => W.cell? ⟨o, 0, none⟩ = some (.int .i64 at_) ∧ W.cell? ⟨o, 4, none⟩ = some (.int .u64 wd)), y.w.cell? ⟨o, 0, none⟩ = some (.int .i64 at_) := fun y => y.ok.1
  have p4 : ∀ y : Held (fun W : World => W.cell? ⟨o, 0, none⟩ = some (.int .i64 at_) ∧ W.cell? ⟨o, 4, none⟩ = some (.int .u64 wd)), y.w.cell? ⟨o, 4, none⟩ = some (.int .u64 wd) := fun y => y.ok.2
  refine drawn_bars (S := (fun W : World => W.cell? ⟨o, 0, none⟩ = some (.int .i64 at_) ∧ W.cell? ⟨o, 4, none⟩ = some (.int .u64 wd))) [([0, 1, 2, 3, 4, 5, 6, 7, 8, 9], 10)] [11, 12, 13, 14, 15] (by kernel_rfl) (by kernel_rfl) (by kernel_rfl) rfl ⟨B_1.out.cell 0, B_1.out.cell 4⟩ ?_
  refine Phased.go ?_
  simp only [pick, List.map_cons, List.map_nil, List.getElem?_cons_zero, List.getElem?_cons_succ, Option.getD_some]
  repeat (go_big_quiet_step (fail))
  refine wpQuiet_nil ?_
  clear Bq0 Bq4
  have ee : Ex (fun _ => False) w1 w1.drew := (Ex.refl (fun _ => False) w1).drew
  have B_2 := Lib.hid (B_1.out.ex ee (fun h => h))
  have C_2 := Lib.hid (C_1.out.ex ee (fun h => h))
  have K_2 := Lib.hid (K_1.out.ex ee (fun h => h) (fun h => h))
  have T_2 := Lib.hid (T_1.out.ex ee (fun h => h))
  have X_2 := Lib.hid (X_1.out.trans (ee.mono (fun k hk => hk.elim)))
  clear ee B_1 C_1 K_1 T_1 X_1
  generalize w1.drew = w2 at *
  go_wp2_with fail
  refine (CAS_any g h_ ws t at_ wd (wordI nx) w2 K_2.out (wordI_range (mayE_zero.1 HME.out).1 HNO.out)).mono ?_; rintro e w3 ⟨rfl, hb3, hx3⟩
  rw [errF_in HIN.out, HCB.out]
  rw [HCB.out, if_neg (show ¬ (false = true) by decide)] at hb3
  have ee : Ex (fun k => k = g ∨ k = h_) w2 w3 := Ex.of_ex2 (T := fun k => k = g ∨ k = h_) hx3 (.inl rfl) (.inr rfl)
  have B_3 := Lib.hid (B_2.out.ex ee (by have o_ := ORD.out; omega))
  have C_3 := Lib.hid (C_2.out.ex ee (by have o_ := ORD.out; omega))
  have T_3 := Lib.hid (T_2.out.ex ee (by have o_ := ORD.out; omega))
  have K_3 := Lib.hid (hb3)
  have X_3 := Lib.hid (X_2.out.trans (ee.mono (fun k hk => hk.elim .inl (fun h => .inr (.inl h)))))
  clear ee B_2 C_2 K_2 T_2 X_2 hb3 hx3
  go_wp2_with fail
  refine behind_normal ⟨(fun W : World => W.cell? ⟨o, 0, none⟩ = some (.int .i64 at_) ∧ W.cell? ⟨o, 4, none⟩ = some (.int .u64 wd)), fun W h => h, ⟨B_3.out.cell 0, B_3.out.cell 4⟩, ?_⟩
  refine Phased.end_ ?_
  have hne5 : Nonempty (Held (fun W => W = w3)) := ⟨⟨_, rfl⟩⟩
  simp only [pick, List.map_cons, List.map_nil, List.getElem?_cons_zero, List.getElem?_cons_succ, Option.getD_some]
  repeat (go_big_quiet_step (fail))
  refine wpQuiet_nil ?_
  clear hne hne5 p0 p4
  have Bq0 := (B_3.out).cell 0
  have Bq1 := (B_3.out).cell 1
  have Bq3 := (B_3.out).cell 3
  have Bq5 := (B_3.out).cell 5
  have Bq6 := (B_3.out).cell 6
  have Bq7 := (B_3.out).cell 7
  have Bq8 := (B_3.out).cell 8
  have Bq9 := (B_3.out).cell 9
  have Bq17 := (B_3.out).cell 17
  simp only [List.getElem?_toArray, List.getElem?_cons_succ, List.getElem?_cons_zero] at Bq0 Bq1 Bq3 Bq5 Bq6 Bq7 Bq8 Bq9 Bq17
  have Bf1 := (B_3.out).frozen 1
  have Bf3 := (B_3.out).frozen 3
  have Bf17 := (B_3.out).frozen 17
  have hw7 : wrap64 (steps + 1) = steps + 1 := by unfold wrap64; have := HST.out; omega
  have hw8 : wrap64 (left - 1) = left - 1 := by unfold wrap64; have := HLF.out; omega
  go_upto_region 20 with fail
  clear Bq0 Bq1 Bq3 Bq5 Bq6 Bq7 Bq8 Bq9 Bq17 Bf1 Bf3 Bf17 hw7 hw8
  have bb := (((B_3.out.set_ 17 (.int .i64 (steps + 1))).set_ 1 (.int .i64 (left - 1))).set_ 3 (.bool false))
  simp only [List.setIfInBounds_toArray, List.set_cons_succ, List.set_cons_zero] at bb
  have BB := Lib.hid bb
  clear bb
  have ee : Ex (fun k => k = o) w3 (((w3.setCell ⟨o, 17, none⟩ (.int .i64 (steps + 1))).setCell ⟨o, 1, none⟩ (.int .i64 (left - 1))).setCell ⟨o, 3, none⟩ (.bool false)) := ((((Ex.refl (fun q => q = o) w3).setCell (q := ⟨o, 17, none⟩) (.inl rfl) (.int .i64 (steps + 1))).setCell (q := ⟨o, 1, none⟩) (.inl rfl) (.int .i64 (left - 1))).setCell (q := ⟨o, 3, none⟩) (.inl rfl) (.bool false))
  have C_4 := Lib.hid (C_3.out.ex ee (by have o_ := ORD.out; omega))
  have K_4 := Lib.hid (K_3.out.ex ee (by have o_ := ORD.out; omega) (by have o_ := ORD.out; omega))
  have T_4 := Lib.hid (T_3.out.ex ee (by have o_ := ORD.out; omega))
  have B_4 := Lib.hid (BB.out)
  have X_4 := Lib.hid (X_3.out.trans (ee.mono (fun k hk => .inr (.inr hk))))
  clear ee B_3 C_3 K_3 T_3 X_3 BB
  generalize (((w3.setCell ⟨o, 17, none⟩ (.int .i64 (steps + 1))).setCell ⟨o, 1, none⟩ (.int .i64 (left - 1))).setCell ⟨o, 3, none⟩ (.bool false)) = w4 at *
  have kl : (left - 1 == 0) = true := by have := HLF.out; simp; omega
  have Bq0 := (B_4.out).cell 0
  have Bq1 := (B_4.out).cell 1
  simp only [List.getElem?_toArray, List.getElem?_cons_succ, List.getElem?_cons_zero] at Bq0 Bq1
  have HE := Lib.hid (fun W (h : ArbAt W o b k at_ ⟨0, false, wd, nx, s0, er, (left - 1), (steps + 1)⟩) => Aend_any o b k at_ ⟨0, false, wd, nx, s0, er, (left - 1), (steps + 1)⟩ 2 St.zero (20) W h)
  unfold St.val at HE
  simp only [St.zero] at HE
  go_wp2_with fail
  refine (HE.out _ ⟨B_4.out, C_4.out, ORD.out.1⟩).mono ?_; rintro e w9 ⟨rfl, ha, hx⟩
  clear HE
  clear kl Bq0 Bq1
  have ee : Ex (fun k => k = o) w4 w9 := hx
  have C_5 := Lib.hid (C_4.out.ex ee (by have o_ := ORD.out; omega))
  have K_5 := Lib.hid (K_4.out.ex ee (by have o_ := ORD.out; omega) (by have o_ := ORD.out; omega))
  have T_5 := Lib.hid (T_4.out.ex ee (by have o_ := ORD.out; omega))
  have B_5 := Lib.hid (show Blk w9 o 90 _ from ha.head)
  have X_5 := Lib.hid (X_4.out.trans (ee.mono (fun k hk => .inr (.inr hk))))
  clear ee B_4 C_4 K_4 T_4 X_4 ha hx
  go_wp2_with fail
  first | rw [goOn_ret] | skip
  go_ret
  refine ⟨rfl, ?_, ⟨B_5.out, C_5.out, ORD.out.1⟩, X_5.out⟩
  exact K_5.out
set_option maxRecDepth 100000 in
set_option maxHeartbeats 1000000 in
theorem S_busy (g h_ o b : Nat) (ws : List Int) (t : Int) (k : Kd) (at_ : Int) (how : Int) (sw : Bool) (wd : Int) (nx s0 : St) (er left steps : Int) (w : World) (h : ArbAt w o b k at_ ⟨0, true, wd, nx, s0, er, left, steps⟩) (hb : BankAt w g h_ ws t) (ht : Tab w)
    (ne : o ≠ g ∧ o ≠ h_ ∧ b ≠ g ∧ b ≠ h_ ∧ 0 < o ∧ 0 < g ∧ 0 < h_) (hst : 0 ≤ steps ∧ steps < 1000) (hno : nx.Ok) (hme : mayE nx = 0) (hin : inW ws at_) (hcb : casB ws at_ wd = false) (hlf : 2 ≤ left ∧ left ≤ 16) :
    Calls Tryd.prog 11 #[.pointer (some ⟨o, 0, none⟩), (.pointer (some ⟨g, 0, none⟩))] w fun e w' => e = .returned (.int .i64 (0)) ∧ BankAt w' g h_ (ws) (tickF ws at_ t) ∧ ArbAt w' o b k at_ (⟨0, false, wd, nx, s0, er, (left - 1), (steps + 1)⟩) ∧ Ex (fun q => q = g ∨ q = h_ ∨ q = o) w w' := by
  have B0 := Lib.hid (show Blk w o 90 _ from h.head)
  have C0 := Lib.hid h.cap
  have K0 := Lib.hid hb
  have T0 := Lib.hid ht
  have HR := Lib.hid (fun i => wordF_range hb i)
  have X0 := Lib.hid (Ex.refl (fun q => q = g ∨ q = h_ ∨ q = o) w)
  unfold aCs at B0
  simp only at B0
  have ORD := Lib.hid (show b ≠ o ∧ o ≠ g ∧ o ≠ h_ ∧ b ≠ g ∧ b ≠ h_ ∧ 0 < o ∧ 0 < g ∧ 0 < h_ from ⟨h.ne, ne⟩)
  have HST := Lib.hid hst
  have HNO := Lib.hid hno
  have HME := Lib.hid hme
  have HIN := Lib.hid hin
  have HCB := Lib.hid hcb
  have HLF := Lib.hid hlf
  clear h hb ht ne hst hno hme hin hcb hlf
  have Bq0 := (B0.out).cell 0
  have Bq3 := (B0.out).cell 3
  have Bq4 := (B0.out).cell 4
  have Bq5 := (B0.out).cell 5
  have Bq6 := (B0.out).cell 6
  have Bq7 := (B0.out).cell 7
  have Bq8 := (B0.out).cell 8
  have Bq9 := (B0.out).cell 9
  have Bq10 := (B0.out).cell 10
  simp only [List.getElem?_toArray, List.getElem?_cons_succ, List.getElem?_cons_zero] at Bq0 Bq3 Bq4 Bq5 Bq6 Bq7 Bq8 Bq9 Bq10
  go_enter Tryd.func11, Tryd.ntmps11
  go_wp2_with fail
  refine wp_scope_ahead 2 (fun c0 HC => ?_)
  go_wp2_with fail
  refine wp_goto ?_
  show goOn Tryd.prog c0 _ 2 (.goto 0) _ _
  refine goOn_jump HC rfl ?_
  go_wp2_with fail
  have HP := Lib.hid (Pack_ok nx HNO.out HME.out w)
  unfold St.val at HP
  go_wp2_with fail
  refine HP.out.mono ?_; rintro e w1 ⟨rfl, hb1⟩
  clear HP
  clear Bq0 Bq3 Bq4 Bq5 Bq6 Bq7 Bq8 Bq9 Bq10
  have ee : Ex (fun _ => False) w w1 := (Ex.of_below hb1 : Ex (fun _ => False) _ _)
  have B_1 := Lib.hid (B0.out.ex ee (fun h => h))
  have C_1 := Lib.hid (C0.out.ex ee (fun h => h))
  have K_1 := Lib.hid (K0.out.ex ee (fun h => h) (fun h => h))
  have T_1 := Lib.hid (T0.out.ex ee (fun h => h))
  have X_1 := Lib.hid (X0.out.trans (ee.mono (fun k hk => hk.elim)))
  clear ee B0 C0 K0 T0 X0 hb1
  have Bq0 := (B_1.out).cell 0
  have Bq4 := (B_1.out).cell 4
  simp only [List.getElem?_toArray, List.getElem?_cons_succ, List.getElem?_cons_zero] at Bq0 Bq4
  go_upto_region 15 with fail
  have hne : Nonempty (Held (fun W : World => W.cell? ⟨o, 0, none⟩ = some (.int .i64 at_) ∧ W.cell? ⟨o, 4, none⟩ = some (.int .u64 wd))) := ⟨⟨w1, B_1.out.cell 0, B_1.out.cell 4⟩⟩
  have p0 : ∀ y : Held (fun W : World => W.cell? ⟨o, 0, none⟩ = some (.int .i64 at_) ∧ W.cell? ⟨o, 4, none⟩ = some (.int .u64 wd)), y.w.cell? ⟨o, 0, none⟩ = some (.int .i64 at_) := fun y => y.ok.1
  have p4 : ∀ y : Held (fun W : World => W.cell? ⟨o, 0, none⟩ = some (.int .i64 at_) ∧ W.cell? ⟨o, 4, none⟩ = some (.int .u64 wd)), y.w.cell? ⟨o, 4, none⟩ = some (.int .u64 wd) := fun y => y.ok.2
  refine drawn_bars (S := (fun W : World => W.cell? ⟨o, 0, none⟩ = some (.int .i64 at_) ∧ W.cell? ⟨o, 4, none⟩ = some (.int .u64 wd))) [([0, 1, 2, 3, 4, 5, 6, 7, 8, 9], 10)] [11, 12, 13, 14, 15] (by kernel_rfl) (by kernel_rfl) (by kernel_rfl) rfl ⟨B_1.out.cell 0, B_1.out.cell 4⟩ ?_
  refine Phased.go ?_
  simp only [pick, List.map_cons, List.map_nil, List.getElem?_cons_zero, List.getElem?_cons_succ, Option.getD_some]
  repeat (go_big_quiet_step (fail))
  refine wpQuiet_nil ?_
  clear Bq0 Bq4
  have ee : Ex (fun _ => False) w1 w1.drew := (Ex.refl (fun _ => False) w1).drew
  have B_2 := Lib.hid (B_1.out.ex ee (fun h => h))
  have C_2 := Lib.hid (C_1.out.ex ee (fun h => h))
  have K_2 := Lib.hid (K_1.out.ex ee (fun h => h) (fun h => h))
  have T_2 := Lib.hid (T_1.out.ex ee (fun h => h))
  have X_2 := Lib.hid (X_1.out.trans (ee.mono (fun k hk => hk.elim)))
  clear ee B_1 C_1 K_1 T_1 X_1
  generalize w1.drew = w2 at *
  go_wp2_with fail
  refine (CAS_any g h_ ws t at_ wd (wordI nx) w2 K_2.out (wordI_range (mayE_zero.1 HME.out).1 HNO.out)).mono ?_; rintro e w3 ⟨rfl, hb3, hx3⟩
  rw [errF_in HIN.out, HCB.out]
  rw [HCB.out, if_neg (show ¬ (false = true) by decide)] at hb3
  have ee : Ex (fun k => k = g ∨ k = h_) w2 w3 := Ex.of_ex2 (T := fun k => k = g ∨ k = h_) hx3 (.inl rfl) (.inr rfl)
  have B_3 := Lib.hid (B_2.out.ex ee (by have o_ := ORD.out; omega))
  have C_3 := Lib.hid (C_2.out.ex ee (by have o_ := ORD.out; omega))
  have T_3 := Lib.hid (T_2.out.ex ee (by have o_ := ORD.out; omega))
  have K_3 := Lib.hid (hb3)
  have X_3 := Lib.hid (X_2.out.trans (ee.mono (fun k hk => hk.elim .inl (fun h => .inr (.inl h)))))
  clear ee B_2 C_2 K_2 T_2 X_2 hb3 hx3
  go_wp2_with fail
  refine behind_normal ⟨(fun W : World => W.cell? ⟨o, 0, none⟩ = some (.int .i64 at_) ∧ W.cell? ⟨o, 4, none⟩ = some (.int .u64 wd)), fun W h => h, ⟨B_3.out.cell 0, B_3.out.cell 4⟩, ?_⟩
  refine Phased.end_ ?_
  have hne5 : Nonempty (Held (fun W => W = w3)) := ⟨⟨_, rfl⟩⟩
  simp only [pick, List.map_cons, List.map_nil, List.getElem?_cons_zero, List.getElem?_cons_succ, Option.getD_some]
  repeat (go_big_quiet_step (fail))
  refine wpQuiet_nil ?_
  clear hne hne5 p0 p4
  have Bq0 := (B_3.out).cell 0
  have Bq1 := (B_3.out).cell 1
  have Bq3 := (B_3.out).cell 3
  have Bq5 := (B_3.out).cell 5
  have Bq6 := (B_3.out).cell 6
  have Bq7 := (B_3.out).cell 7
  have Bq8 := (B_3.out).cell 8
  have Bq9 := (B_3.out).cell 9
  have Bq17 := (B_3.out).cell 17
  simp only [List.getElem?_toArray, List.getElem?_cons_succ, List.getElem?_cons_zero] at Bq0 Bq1 Bq3 Bq5 Bq6 Bq7 Bq8 Bq9 Bq17
  have Bf1 := (B_3.out).frozen 1
  have Bf3 := (B_3.out).frozen 3
  have Bf17 := (B_3.out).frozen 17
  have hw7 : wrap64 (steps + 1) = steps + 1 := by unfold wrap64; have := HST.out; omega
  have hw8 : wrap64 (left - 1) = left - 1 := by unfold wrap64; have := HLF.out; omega
  go_upto_region 20 with fail
  clear Bq0 Bq1 Bq3 Bq5 Bq6 Bq7 Bq8 Bq9 Bq17 Bf1 Bf3 Bf17 hw7 hw8
  have bb := (((B_3.out.set_ 17 (.int .i64 (steps + 1))).set_ 1 (.int .i64 (left - 1))).set_ 3 (.bool false))
  simp only [List.setIfInBounds_toArray, List.set_cons_succ, List.set_cons_zero] at bb
  have BB := Lib.hid bb
  clear bb
  have ee : Ex (fun k => k = o) w3 (((w3.setCell ⟨o, 17, none⟩ (.int .i64 (steps + 1))).setCell ⟨o, 1, none⟩ (.int .i64 (left - 1))).setCell ⟨o, 3, none⟩ (.bool false)) := ((((Ex.refl (fun q => q = o) w3).setCell (q := ⟨o, 17, none⟩) (.inl rfl) (.int .i64 (steps + 1))).setCell (q := ⟨o, 1, none⟩) (.inl rfl) (.int .i64 (left - 1))).setCell (q := ⟨o, 3, none⟩) (.inl rfl) (.bool false))
  have C_4 := Lib.hid (C_3.out.ex ee (by have o_ := ORD.out; omega))
  have K_4 := Lib.hid (K_3.out.ex ee (by have o_ := ORD.out; omega) (by have o_ := ORD.out; omega))
  have T_4 := Lib.hid (T_3.out.ex ee (by have o_ := ORD.out; omega))
  have B_4 := Lib.hid (BB.out)
  have X_4 := Lib.hid (X_3.out.trans (ee.mono (fun k hk => .inr (.inr hk))))
  clear ee B_3 C_3 K_3 T_3 X_3 BB
  generalize (((w3.setCell ⟨o, 17, none⟩ (.int .i64 (steps + 1))).setCell ⟨o, 1, none⟩ (.int .i64 (left - 1))).setCell ⟨o, 3, none⟩ (.bool false)) = w4 at *
  have kl : (left - 1 == 0) = false := by have := HLF.out; simp; omega
  have Bq0 := (B_4.out).cell 0
  have Bq1 := (B_4.out).cell 1
  simp only [List.getElem?_toArray, List.getElem?_cons_succ, List.getElem?_cons_zero] at Bq0 Bq1
  go_wp2_with fail
  clear kl Bq0 Bq1
  first | rw [goOn_ret] | skip
  go_ret
  refine ⟨rfl, ?_, ⟨B_4.out, C_4.out, ORD.out.1⟩, X_4.out⟩
  exact K_4.out
end Go.Proofs.YtkmlikohgilnbaaDoor.Arb
