/-
  The document's operation of chapter 15: its step. Printed by wip/tools/mkarq.py. Conditions stand at each. By an AI agent.
-/
import Derived.Test.YtkmlikohgilnbaaDoorArbR
import Derived.Test.YtkmlikohgilnbaaDoorArbP
import Derived.Test.YtkmlikohgilnbaaDoorRefM
namespace Go.Proofs.YtkmlikohgilnbaaDoor.Arb
set_option linter.unusedVariables false
set_option linter.unusedSimpArgs false
open Go Go.RowKit Go.Proofs.YtkmlikohgilnbaaDoor.Base Go.Proofs.YtkmlikohgilnbaaDoor.Reg
open Go.Proofs.YtkmlikohgilnbaaDoor.Bank (BankAt inW wordF setF tickF errF casB errF_in errF_out wordF_in wordF_out tickF_in tickF_out setF_in setF_out casB_out casB_in wordF_range Load_any CAS_any Load_nil New_in Store_any Peek_any Touches_any zeros)
open Go.Proofs.YtkmlikohgilnbaaDoor.Modes (Tab)

set_option maxRecDepth 100000 in
set_option maxHeartbeats 1000000 in
theorem Rdone_any (r : Nat) (p : Pl) (n : Int) (y : RX) (s : St) (e0 : Int) (w : World) (h : Blk w r 46 (RX.cells p n y)) :
    Calls Tryd.prog 42 #[.pointer (some ⟨r, 0, none⟩), s.val, .int .i64 e0] w fun e w' => e = .returned (.tuple #[]) ∧ Blk w' r 46 (RX.cells p n ⟨y.next, y.swaps, y.w, 1, s, e0, y.steps, y.steps⟩) ∧ Ex (fun q => q = r) w w' := by
  obtain ⟨pk, so, mo, fr, fl⟩ := p
  obtain ⟨rk, hrk⟩ : ∃ rk, Pl.rk ⟨pk, so, mo, fr, fl⟩ = rk := ⟨_, rfl⟩
  obtain ⟨nx, sw, wd, how, s0, er, st, at_⟩ := y
  unfold RX.cells at h ⊢
  simp only [hrk] at h ⊢
  clear hrk
  have R0 := Lib.hid h
  have SZ := Lib.hid (show r < w.heap.size from Blk.lt h)
  have S0 := Lib.hid (Blk.new w 34 #[.int .i64 s.mode, .int .i64 s.source, .bool s.hold, .int .i64 s.flags, .int .u64 s.epoch])
  clear h
  unfold St.val
  go_enter Tryd.func42, Tryd.ntmps42
  go_upto_region 1 with fail
  have R1 := Lib.hid (R0.out.alloc (.cells #[.int .i64 s.mode, .int .i64 s.source, .bool s.hold, .int .i64 s.flags, .int .u64 s.epoch] 34))
  have X1 := Lib.hid ((Ex.refl (fun q => q = r) w).alloc (.cells #[.int .i64 s.mode, .int .i64 s.source, .bool s.hold, .int .i64 s.flags, .int .u64 s.epoch] 34))
  clear R0
  generalize (w.alloc (.cells #[.int .i64 s.mode, .int .i64 s.source, .bool s.hold, .int .i64 s.flags, .int .u64 s.epoch] 34)) = w1 at *
  obtain ⟨sb, hsb⟩ : ∃ sb, w.heap.size = sb := ⟨_, rfl⟩
  simp only [hsb] at SZ S0 ⊢
  have ORD := Lib.hid (show r < sb from SZ.out)
  clear SZ hsb
  have Rq0 := (R1.out).cell 0
  have Rq9 := (R1.out).cell 9
  simp only [List.getElem?_toArray, List.getElem?_cons_succ, List.getElem?_cons_zero] at Rq0 Rq9
  have Rf9 := (R1.out).frozen 9
  go_upto_region 2 with fail
  clear Rq0 Rq9 Rf9
  have bb := (R1.out.set_ 9 (.int .i64 1))
  simp only [List.setIfInBounds_toArray, List.set_cons_succ, List.set_cons_zero] at bb
  have BB := Lib.hid bb
  clear bb
  have ee : Ex (fun k => k = r) w1 (w1.setCell ⟨r, 9, none⟩ (.int .i64 1)) := ((Ex.refl (fun q => q = r) w1).setCell (q := ⟨r, 9, none⟩) (.inl rfl) (.int .i64 1))
  have S_1 := Lib.hid (S0.out.ex ee (by have o_ := ORD.out; omega))
  have R_1 := Lib.hid (BB.out)
  have X_1 := Lib.hid (X1.out.trans ee)
  clear ee R1 S0 X1 BB
  generalize (w1.setCell ⟨r, 9, none⟩ (.int .i64 1)) = w2 at *
  have Sq0 := (S_1.out).cell 0
  have Sq1 := (S_1.out).cell 1
  have Sq2 := (S_1.out).cell 2
  have Sq3 := (S_1.out).cell 3
  have Sq4 := (S_1.out).cell 4
  simp only [List.getElem?_toArray, List.getElem?_cons_succ, List.getElem?_cons_zero] at Sq0 Sq1 Sq2 Sq3 Sq4
  have Rq0 := (R_1.out).cell 0
  have Rq10 := (R_1.out).cell 10
  have Rq11 := (R_1.out).cell 11
  have Rq12 := (R_1.out).cell 12
  have Rq13 := (R_1.out).cell 13
  have Rq14 := (R_1.out).cell 14
  simp only [List.getElem?_toArray, List.getElem?_cons_succ, List.getElem?_cons_zero] at Rq0 Rq10 Rq11 Rq12 Rq13 Rq14
  have Rf10 := (R_1.out).frozen 10
  have Rf11 := (R_1.out).frozen 11
  have Rf12 := (R_1.out).frozen 12
  have Rf13 := (R_1.out).frozen 13
  have Rf14 := (R_1.out).frozen 14
  go_upto_region 3 with fail
  clear Sq0 Sq1 Sq2 Sq3 Sq4 Rq0 Rq10 Rq11 Rq12 Rq13 Rq14 Rf10 Rf11 Rf12 Rf13 Rf14
  have bb := (((((R_1.out.set_ 10 (.int .i64 s.mode)).set_ 11 (.int .i64 s.source)).set_ 12 (.bool s.hold)).set_ 13 (.int .i64 s.flags)).set_ 14 (.int .u64 s.epoch))
  simp only [List.setIfInBounds_toArray, List.set_cons_succ, List.set_cons_zero] at bb
  have BB := Lib.hid bb
  clear bb
  have ee : Ex (fun k => k = r) w2 (((((w2.setCell ⟨r, 10, none⟩ (.int .i64 s.mode)).setCell ⟨r, 11, none⟩ (.int .i64 s.source)).setCell ⟨r, 12, none⟩ (.bool s.hold)).setCell ⟨r, 13, none⟩ (.int .i64 s.flags)).setCell ⟨r, 14, none⟩ (.int .u64 s.epoch)) := ((((((Ex.refl (fun q => q = r) w2).setCell (q := ⟨r, 10, none⟩) (.inl rfl) (.int .i64 s.mode)).setCell (q := ⟨r, 11, none⟩) (.inl rfl) (.int .i64 s.source)).setCell (q := ⟨r, 12, none⟩) (.inl rfl) (.bool s.hold)).setCell (q := ⟨r, 13, none⟩) (.inl rfl) (.int .i64 s.flags)).setCell (q := ⟨r, 14, none⟩) (.inl rfl) (.int .u64 s.epoch))
  have S_2 := Lib.hid (S_1.out.ex ee (by have o_ := ORD.out; omega))
  have R_2 := Lib.hid (BB.out)
  have X_2 := Lib.hid (X_1.out.trans ee)
  clear ee R_1 S_1 X_1 BB
  generalize (((((w2.setCell ⟨r, 10, none⟩ (.int .i64 s.mode)).setCell ⟨r, 11, none⟩ (.int .i64 s.source)).setCell ⟨r, 12, none⟩ (.bool s.hold)).setCell ⟨r, 13, none⟩ (.int .i64 s.flags)).setCell ⟨r, 14, none⟩ (.int .u64 s.epoch)) = w3 at *
  have Rq0 := (R_2.out).cell 0
  have Rq15 := (R_2.out).cell 15
  simp only [List.getElem?_toArray, List.getElem?_cons_succ, List.getElem?_cons_zero] at Rq0 Rq15
  have Rf15 := (R_2.out).frozen 15
  go_upto_region 4 with fail
  clear Rq0 Rq15 Rf15
  have bb := (R_2.out.set_ 15 (.int .i64 e0))
  simp only [List.setIfInBounds_toArray, List.set_cons_succ, List.set_cons_zero] at bb
  have BB := Lib.hid bb
  clear bb
  have ee : Ex (fun k => k = r) w3 (w3.setCell ⟨r, 15, none⟩ (.int .i64 e0)) := ((Ex.refl (fun q => q = r) w3).setCell (q := ⟨r, 15, none⟩) (.inl rfl) (.int .i64 e0))
  have S_3 := Lib.hid (S_2.out.ex ee (by have o_ := ORD.out; omega))
  have R_3 := Lib.hid (BB.out)
  have X_3 := Lib.hid (X_2.out.trans ee)
  clear ee R_2 S_2 X_2 BB
  generalize (w3.setCell ⟨r, 15, none⟩ (.int .i64 e0)) = w4 at *
  have Rq0 := (R_3.out).cell 0
  have Rq16 := (R_3.out).cell 16
  have Rq17 := (R_3.out).cell 17
  simp only [List.getElem?_toArray, List.getElem?_cons_succ, List.getElem?_cons_zero] at Rq0 Rq16 Rq17
  have Rf17 := (R_3.out).frozen 17
  go_wp2_with fail
  clear Rq0 Rq16 Rq17 Rf17
  have bb := (R_3.out.set_ 17 (.int .i64 st))
  simp only [List.setIfInBounds_toArray, List.set_cons_succ, List.set_cons_zero] at bb
  have BB := Lib.hid bb
  clear bb
  have ee : Ex (fun k => k = r) w4 (w4.setCell ⟨r, 17, none⟩ (.int .i64 st)) := ((Ex.refl (fun q => q = r) w4).setCell (q := ⟨r, 17, none⟩) (.inl rfl) (.int .i64 st))
  have S_4 := Lib.hid (S_3.out.ex ee (by have o_ := ORD.out; omega))
  have R_4 := Lib.hid (BB.out)
  have X_4 := Lib.hid (X_3.out.trans ee)
  clear ee R_3 S_3 X_3 BB
  generalize (w4.setCell ⟨r, 17, none⟩ (.int .i64 st)) = w5 at *
  first | (refine bodyPost_ret (results_none rfl _ _ _) rfl ?_) | go_end0
  exact ⟨rfl, R_4.out, X_4.out⟩
set_option maxRecDepth 100000 in
set_option maxHeartbeats 1000000 in
theorem Rafter_req (r : Nat) (so mo : Int) (fr : Bool) (fl n : Int) (hok : (⟨so, mo, fr⟩ : Reg.Ask).Ok) (y : RX) (s : St) (hs : s.Ok) (w : World) (h : Blk w r 46 (RX.cells ⟨0, so, mo, fr, fl⟩ n y)) :
    Calls Tryd.prog 40 #[.pointer (some ⟨r, 0, none⟩), s.val] w fun e w' => e = .returned (.tuple #[((Kd.req ⟨so, mo, fr⟩).S s).val, .int .i64 ((Kd.req ⟨so, mo, fr⟩).E s)]) ∧ Below w.heap.size w w' := by
  obtain ⟨nx, sw, wd, how, s0, er, st, at_⟩ := y
  obtain ⟨S9, hS9⟩ : ∃ S9, (Kd.req ⟨so, mo, fr⟩).S s = S9 := ⟨_, rfl⟩
  obtain ⟨E9, hE9⟩ : ∃ E9, (Kd.req ⟨so, mo, fr⟩).E s = E9 := ⟨_, rfl⟩
  have hdc : ∀ W, Calls Tryd.prog 61 #[.agg #[.int .i64 s.mode, .int .i64 s.source, .bool s.hold, .int .i64 s.flags, .int .u64 s.epoch], .agg #[.int .i64 so, .int .i64 mo, .bool fr]] W fun e w' => e = .returned (.tuple #[.agg #[.int .i64 S9.mode, .int .i64 S9.source, .bool S9.hold, .int .i64 S9.flags, .int .u64 S9.epoch], .int .i64 E9]) ∧ Below W.heap.size W w' := by
    intro W
    have := refDecide_any s hs ⟨so, mo, fr⟩ hok W
    rw [show decideS s ⟨so, mo, fr⟩ = S9 from hS9, show decideE s ⟨so, mo, fr⟩ = E9 from hE9] at this
    exact this
  have HDC := Lib.hid hdc
  rw [hS9, hE9]
  clear hdc hS9 hE9
  have h' : Blk w r 46 #[.int .i64 0, .int .i64 so, .int .i64 mo, .bool fr, .int .i64 fl, .int .i64 n, .int .i64 nx, .int .i64 sw, .int .u64 wd, .int .i64 how, .int .i64 s0.mode, .int .i64 s0.source, .bool s0.hold, .int .i64 s0.flags, .int .u64 s0.epoch, .int .i64 er, .int .i64 st, .int .i64 at_] := h
  unfold St.val
  have SZ := Lib.hid (show r < w.heap.size from Blk.lt h')
  have R0 := Lib.hid ((h'.alloc (.cells #[.int .i64 s.mode, .int .i64 s.source, .bool s.hold, .int .i64 s.flags, .int .u64 s.epoch] 34)).alloc (.cells #[.int .i64 0, .int .i64 0, .bool false, .int .i64 0, .int .u64 0] 34))
  have S0 := Lib.hid ((Blk.new w 34 #[.int .i64 s.mode, .int .i64 s.source, .bool s.hold, .int .i64 s.flags, .int .u64 s.epoch]).alloc (.cells #[.int .i64 0, .int .i64 0, .bool false, .int .i64 0, .int .u64 0] 34))
  have Z0_ := Lib.hid (blk_new' (w.alloc (.cells #[.int .i64 s.mode, .int .i64 s.source, .bool s.hold, .int .i64 s.flags, .int .u64 s.epoch] 34)) (g := w.heap.size + 1) (by simp) 34 #[.int .i64 0, .int .i64 0, .bool false, .int .i64 0, .int .u64 0])
  have L0 := Lib.hid (((Below.refl w.heap.size w).alloc (Nat.le_refl _) (.cells #[.int .i64 s.mode, .int .i64 s.source, .bool s.hold, .int .i64 s.flags, .int .u64 s.epoch] 34)).alloc (by simp) (.cells #[.int .i64 0, .int .i64 0, .bool false, .int .i64 0, .int .u64 0] 34))
  clear h h' hs hok
  go_enter Tryd.func40, Tryd.ntmps40
  go_upto_region 1 with fail
  generalize ((w.alloc (.cells #[.int .i64 s.mode, .int .i64 s.source, .bool s.hold, .int .i64 s.flags, .int .u64 s.epoch] 34)).alloc (.cells #[.int .i64 0, .int .i64 0, .bool false, .int .i64 0, .int .u64 0] 34)) = w1 at *
  obtain ⟨sb, hsb⟩ : ∃ sb, w.heap.size = sb := ⟨_, rfl⟩
  have HSB := Lib.hid (Nat.le_of_eq hsb)
  simp only [hsb] at SZ S0 Z0_ ⊢
  obtain ⟨zb, hzb⟩ : ∃ zb, sb + 1 = zb := ⟨_, rfl⟩
  simp only [hzb] at Z0_ ⊢
  have ORD := Lib.hid (show r < sb ∧ sb + 1 = zb from ⟨SZ.out, hzb⟩)
  clear SZ hsb hzb
  have Rq0 := (R0.out).cell 0
  simp only [List.getElem?_toArray, List.getElem?_cons_succ, List.getElem?_cons_zero] at Rq0
  go_upto_region 2 with fail
  clear Rq0
  have hne : Nonempty (Held (fun W : World => Blk W r 46 #[.int .i64 0, .int .i64 so, .int .i64 mo, .bool fr, .int .i64 fl, .int .i64 n, .int .i64 nx, .int .i64 sw, .int .u64 wd, .int .i64 how, .int .i64 s0.mode, .int .i64 s0.source, .bool s0.hold, .int .i64 s0.flags, .int .u64 s0.epoch, .int .i64 er, .int .i64 st, .int .i64 at_] ∧ Blk W sb 34 #[.int .i64 s.mode, .int .i64 s.source, .bool s.hold, .int .i64 s.flags, .int .u64 s.epoch])) := ⟨⟨w1, R0.out, S0.out⟩⟩
  have p0 : ∀ y : Held (fun W : World => Blk W r 46 #[.int .i64 0, .int .i64 so, .int .i64 mo, .bool fr, .int .i64 fl, .int .i64 n, .int .i64 nx, .int .i64 sw, .int .u64 wd, .int .i64 how, .int .i64 s0.mode, .int .i64 s0.source, .bool s0.hold, .int .i64 s0.flags, .int .u64 s0.epoch, .int .i64 er, .int .i64 st, .int .i64 at_] ∧ Blk W sb 34 #[.int .i64 s.mode, .int .i64 s.source, .bool s.hold, .int .i64 s.flags, .int .u64 s.epoch]), y.w.cell? ⟨r, 0, none⟩ = some (.int .i64 0) := fun y => y.ok.1.cell 0
  have p1 : ∀ y : Held (fun W : World => Blk W r 46 #[.int .i64 0, .int .i64 so, .int .i64 mo, .bool fr, .int .i64 fl, .int .i64 n, .int .i64 nx, .int .i64 sw, .int .u64 wd, .int .i64 how, .int .i64 s0.mode, .int .i64 s0.source, .bool s0.hold, .int .i64 s0.flags, .int .u64 s0.epoch, .int .i64 er, .int .i64 st, .int .i64 at_] ∧ Blk W sb 34 #[.int .i64 s.mode, .int .i64 s.source, .bool s.hold, .int .i64 s.flags, .int .u64 s.epoch]), y.w.cell? ⟨r, 1, none⟩ = some (.int .i64 so) := fun y => y.ok.1.cell 1
  have p2 : ∀ y : Held (fun W : World => Blk W r 46 #[.int .i64 0, .int .i64 so, .int .i64 mo, .bool fr, .int .i64 fl, .int .i64 n, .int .i64 nx, .int .i64 sw, .int .u64 wd, .int .i64 how, .int .i64 s0.mode, .int .i64 s0.source, .bool s0.hold, .int .i64 s0.flags, .int .u64 s0.epoch, .int .i64 er, .int .i64 st, .int .i64 at_] ∧ Blk W sb 34 #[.int .i64 s.mode, .int .i64 s.source, .bool s.hold, .int .i64 s.flags, .int .u64 s.epoch]), y.w.cell? ⟨r, 2, none⟩ = some (.int .i64 mo) := fun y => y.ok.1.cell 2
  have p3 : ∀ y : Held (fun W : World => Blk W r 46 #[.int .i64 0, .int .i64 so, .int .i64 mo, .bool fr, .int .i64 fl, .int .i64 n, .int .i64 nx, .int .i64 sw, .int .u64 wd, .int .i64 how, .int .i64 s0.mode, .int .i64 s0.source, .bool s0.hold, .int .i64 s0.flags, .int .u64 s0.epoch, .int .i64 er, .int .i64 st, .int .i64 at_] ∧ Blk W sb 34 #[.int .i64 s.mode, .int .i64 s.source, .bool s.hold, .int .i64 s.flags, .int .u64 s.epoch]), y.w.cell? ⟨r, 3, none⟩ = some (.bool fr) := fun y => y.ok.1.cell 3
  have sc0 : ∀ y : Held (fun W : World => Blk W r 46 #[.int .i64 0, .int .i64 so, .int .i64 mo, .bool fr, .int .i64 fl, .int .i64 n, .int .i64 nx, .int .i64 sw, .int .u64 wd, .int .i64 how, .int .i64 s0.mode, .int .i64 s0.source, .bool s0.hold, .int .i64 s0.flags, .int .u64 s0.epoch, .int .i64 er, .int .i64 st, .int .i64 at_] ∧ Blk W sb 34 #[.int .i64 s.mode, .int .i64 s.source, .bool s.hold, .int .i64 s.flags, .int .u64 s.epoch]), y.w.cell? ⟨sb, 0, none⟩ = some (.int .i64 s.mode) := fun y => y.ok.2.cell 0
  have sc1 : ∀ y : Held (fun W : World => Blk W r 46 #[.int .i64 0, .int .i64 so, .int .i64 mo, .bool fr, .int .i64 fl, .int .i64 n, .int .i64 nx, .int .i64 sw, .int .u64 wd, .int .i64 how, .int .i64 s0.mode, .int .i64 s0.source, .bool s0.hold, .int .i64 s0.flags, .int .u64 s0.epoch, .int .i64 er, .int .i64 st, .int .i64 at_] ∧ Blk W sb 34 #[.int .i64 s.mode, .int .i64 s.source, .bool s.hold, .int .i64 s.flags, .int .u64 s.epoch]), y.w.cell? ⟨sb, 1, none⟩ = some (.int .i64 s.source) := fun y => y.ok.2.cell 1
  have sc2 : ∀ y : Held (fun W : World => Blk W r 46 #[.int .i64 0, .int .i64 so, .int .i64 mo, .bool fr, .int .i64 fl, .int .i64 n, .int .i64 nx, .int .i64 sw, .int .u64 wd, .int .i64 how, .int .i64 s0.mode, .int .i64 s0.source, .bool s0.hold, .int .i64 s0.flags, .int .u64 s0.epoch, .int .i64 er, .int .i64 st, .int .i64 at_] ∧ Blk W sb 34 #[.int .i64 s.mode, .int .i64 s.source, .bool s.hold, .int .i64 s.flags, .int .u64 s.epoch]), y.w.cell? ⟨sb, 2, none⟩ = some (.bool s.hold) := fun y => y.ok.2.cell 2
  have sc3 : ∀ y : Held (fun W : World => Blk W r 46 #[.int .i64 0, .int .i64 so, .int .i64 mo, .bool fr, .int .i64 fl, .int .i64 n, .int .i64 nx, .int .i64 sw, .int .u64 wd, .int .i64 how, .int .i64 s0.mode, .int .i64 s0.source, .bool s0.hold, .int .i64 s0.flags, .int .u64 s0.epoch, .int .i64 er, .int .i64 st, .int .i64 at_] ∧ Blk W sb 34 #[.int .i64 s.mode, .int .i64 s.source, .bool s.hold, .int .i64 s.flags, .int .u64 s.epoch]), y.w.cell? ⟨sb, 3, none⟩ = some (.int .i64 s.flags) := fun y => y.ok.2.cell 3
  have sc4 : ∀ y : Held (fun W : World => Blk W r 46 #[.int .i64 0, .int .i64 so, .int .i64 mo, .bool fr, .int .i64 fl, .int .i64 n, .int .i64 nx, .int .i64 sw, .int .u64 wd, .int .i64 how, .int .i64 s0.mode, .int .i64 s0.source, .bool s0.hold, .int .i64 s0.flags, .int .u64 s0.epoch, .int .i64 er, .int .i64 st, .int .i64 at_] ∧ Blk W sb 34 #[.int .i64 s.mode, .int .i64 s.source, .bool s.hold, .int .i64 s.flags, .int .u64 s.epoch]), y.w.cell? ⟨sb, 4, none⟩ = some (.int .u64 s.epoch) := fun y => y.ok.2.cell 4
  refine drawn_bars (S := (fun W : World => Blk W r 46 #[.int .i64 0, .int .i64 so, .int .i64 mo, .bool fr, .int .i64 fl, .int .i64 n, .int .i64 nx, .int .i64 sw, .int .u64 wd, .int .i64 how, .int .i64 s0.mode, .int .i64 s0.source, .bool s0.hold, .int .i64 s0.flags, .int .u64 s0.epoch, .int .i64 er, .int .i64 st, .int .i64 at_] ∧ Blk W sb 34 #[.int .i64 s.mode, .int .i64 s.source, .bool s.hold, .int .i64 s.flags, .int .u64 s.epoch])) [([0, 1, 2, 3, 4], 5), ([6, 7], 8)] [9] (by kernel_rfl) (by kernel_rfl) (by kernel_rfl) rfl ⟨R0.out, S0.out⟩ ?_
  refine Phased.go ?_
  simp only [pick, List.map_cons, List.map_nil, List.getElem?_cons_zero, List.getElem?_cons_succ, Option.getD_some]
  repeat (go_big_quiet_step (fail))
  refine wpQuiet_nil ?_
  have L1 := Lib.hid L0.out.drew
  clear L0
  have ee : Ex (fun _ => False) w1 w1.drew := (Ex.refl _ w1).drew
  have R_1 := Lib.hid (R0.out.ex ee (fun h => h))
  have S_1 := Lib.hid (S0.out.ex ee (fun h => h))
  have Z_1 := Lib.hid (Z0_.out.ex ee (fun h => h))
  clear ee R0 S0 Z0_
  generalize w1.drew = w2 at *
  go_wp2_with fail
  refine (HDC.out w2).mono ?_; rintro e w3 ⟨rfl, hb⟩
  have L2 := Lib.hid (bl L1.out hb)
  clear L1
  have ee : Ex (fun _ => False) w2 w3 := Ex.of_below hb
  have R_2 := Lib.hid (R_1.out.ex ee (fun h => h))
  have S_2 := Lib.hid (S_1.out.ex ee (fun h => h))
  have Z_2 := Lib.hid (Z_1.out.ex ee (fun h => h))
  clear ee R_1 S_1 Z_1 hb
  go_wp2_with fail
  refine behind_normal ⟨(fun W : World => Blk W r 46 #[.int .i64 0, .int .i64 so, .int .i64 mo, .bool fr, .int .i64 fl, .int .i64 n, .int .i64 nx, .int .i64 sw, .int .u64 wd, .int .i64 how, .int .i64 s0.mode, .int .i64 s0.source, .bool s0.hold, .int .i64 s0.flags, .int .u64 s0.epoch, .int .i64 er, .int .i64 st, .int .i64 at_] ∧ Blk W sb 34 #[.int .i64 s.mode, .int .i64 s.source, .bool s.hold, .int .i64 s.flags, .int .u64 s.epoch]), fun W h => h, ⟨R_2.out, S_2.out⟩, ?_⟩
  refine Phased.go ?_
  simp only [pick, List.map_cons, List.map_nil, List.getElem?_cons_zero, List.getElem?_cons_succ, Option.getD_some]
  repeat (go_big_quiet_step (fail))
  refine wpQuiet_nil ?_
  have Zq0 := (Z_2.out).cell 0
  have Zq1 := (Z_2.out).cell 1
  have Zq2 := (Z_2.out).cell 2
  have Zq3 := (Z_2.out).cell 3
  have Zq4 := (Z_2.out).cell 4
  simp only [List.getElem?_toArray, List.getElem?_cons_succ, List.getElem?_cons_zero] at Zq0 Zq1 Zq2 Zq3 Zq4
  have Zf0 := (Z_2.out).frozen 0
  have Zf1 := (Z_2.out).frozen 1
  have Zf2 := (Z_2.out).frozen 2
  have Zf3 := (Z_2.out).frozen 3
  have Zf4 := (Z_2.out).frozen 4
  go_wp2_with fail
  clear Zq0 Zq1 Zq2 Zq3 Zq4 Zf0 Zf1 Zf2 Zf3 Zf4
  have hb := set5_blk (x0 := .int .i64 S9.mode) (x1 := .int .i64 S9.source) (x2 := .bool S9.hold) (x3 := .int .i64 S9.flags) (x4 := .int .u64 S9.epoch) Z_2.out
  have LB := Lib.hid (set5_below (x0 := .int .i64 S9.mode) (x1 := .int .i64 S9.source) (x2 := .bool S9.hold) (x3 := .int .i64 S9.flags) (x4 := .int .u64 S9.epoch) L2.out (show w.heap.size ≤ zb by have := ORD.out; have := HSB.out; omega))
  have Z9 := Lib.hid hb
  clear hb L2
  have ee : Ex (fun k => k = zb) w3 (((((w3.setCell ⟨zb, 0, none⟩ (.int .i64 S9.mode)).setCell ⟨zb, 1, none⟩ (.int .i64 S9.source)).setCell ⟨zb, 2, none⟩ (.bool S9.hold)).setCell ⟨zb, 3, none⟩ (.int .i64 S9.flags)).setCell ⟨zb, 4, none⟩ (.int .u64 S9.epoch)) := ((((((Ex.refl (fun q => q = zb) w3).setCell (q := ⟨zb, 0, none⟩) (.inl rfl) (.int .i64 S9.mode)).setCell (q := ⟨zb, 1, none⟩) (.inl rfl) (.int .i64 S9.source)).setCell (q := ⟨zb, 2, none⟩) (.inl rfl) (.bool S9.hold)).setCell (q := ⟨zb, 3, none⟩) (.inl rfl) (.int .i64 S9.flags)).setCell (q := ⟨zb, 4, none⟩) (.inl rfl) (.int .u64 S9.epoch))
  have R_3 := Lib.hid (R_2.out.ex ee (by have o_ := ORD.out; omega))
  have S_3 := Lib.hid (S_2.out.ex ee (by have o_ := ORD.out; omega))
  have Z_3 := Lib.hid (Z9.out)
  clear ee R_2 S_2 Z_2 Z9
  generalize (((((w3.setCell ⟨zb, 0, none⟩ (.int .i64 S9.mode)).setCell ⟨zb, 1, none⟩ (.int .i64 S9.source)).setCell ⟨zb, 2, none⟩ (.bool S9.hold)).setCell ⟨zb, 3, none⟩ (.int .i64 S9.flags)).setCell ⟨zb, 4, none⟩ (.int .u64 S9.epoch)) = w4 at *
  refine behind_normal ⟨(fun W : World => Blk W r 46 #[.int .i64 0, .int .i64 so, .int .i64 mo, .bool fr, .int .i64 fl, .int .i64 n, .int .i64 nx, .int .i64 sw, .int .u64 wd, .int .i64 how, .int .i64 s0.mode, .int .i64 s0.source, .bool s0.hold, .int .i64 s0.flags, .int .u64 s0.epoch, .int .i64 er, .int .i64 st, .int .i64 at_] ∧ Blk W sb 34 #[.int .i64 s.mode, .int .i64 s.source, .bool s.hold, .int .i64 s.flags, .int .u64 s.epoch]), fun W h => h, ⟨R_3.out, S_3.out⟩, ?_⟩
  refine Phased.end_ ?_
  have hne5 : Nonempty (Held (fun W => W = w4)) := ⟨⟨_, rfl⟩⟩
  simp only [pick, List.map_cons, List.map_nil, List.getElem?_cons_zero, List.getElem?_cons_succ, Option.getD_some]
  repeat (go_big_quiet_step (fail))
  refine wpQuiet_nil ?_
  clear hne hne5 p0 p1 p2 p3 sc0 sc1 sc2 sc3 sc4
  go_wp2_with fail
  exact bodyPost_ret (res_cell_tmp (fn := Tryd.f40) rfl _ _ zb _ _ _ _ rfl Z_3.out Tryd.underlying34 rfl (by kernel_rfl)) rfl ⟨rfl, LB.out⟩
set_option maxRecDepth 100000 in
set_option maxHeartbeats 1000000 in
theorem Rafter_tell (r : Nat) (so mo : Int) (fr : Bool) (fl n : Int) (y : RX) (s : St) (hs : s.Ok) (w : World) (h : Blk w r 46 (RX.cells ⟨1, so, mo, fr, fl⟩ n y)) :
    Calls Tryd.prog 40 #[.pointer (some ⟨r, 0, none⟩), s.val] w fun e w' => e = .returned (.tuple #[((Kd.tell fl).S s).val, .int .i64 ((Kd.tell fl).E s)]) ∧ Below w.heap.size w w' := by
  obtain ⟨nx, sw, wd, how, s0, er, st, at_⟩ := y
  obtain ⟨S9, hS9⟩ : ∃ S9, (Kd.tell fl).S s = S9 := ⟨_, rfl⟩
  obtain ⟨E9, hE9⟩ : ∃ E9, (Kd.tell fl).E s = E9 := ⟨_, rfl⟩
  have hdc : ∀ W, Calls Tryd.prog 62 #[.agg #[.int .i64 s.mode, .int .i64 s.source, .bool s.hold, .int .i64 s.flags, .int .u64 s.epoch], .int .i64 fl] W fun e w' => e = .returned (.tuple #[.agg #[.int .i64 S9.mode, .int .i64 S9.source, .bool S9.hold, .int .i64 S9.flags, .int .u64 S9.epoch], .int .i64 E9]) ∧ Below W.heap.size W w' := by
    intro W
    have := refHealth_any s hs fl W
    rw [show healthS s fl = S9 from hS9, show healthE s fl = E9 from hE9] at this
    exact this
  have HDC := Lib.hid hdc
  rw [hS9, hE9]
  clear hdc hS9 hE9
  have h' : Blk w r 46 #[.int .i64 1, .int .i64 so, .int .i64 mo, .bool fr, .int .i64 fl, .int .i64 n, .int .i64 nx, .int .i64 sw, .int .u64 wd, .int .i64 how, .int .i64 s0.mode, .int .i64 s0.source, .bool s0.hold, .int .i64 s0.flags, .int .u64 s0.epoch, .int .i64 er, .int .i64 st, .int .i64 at_] := h
  unfold St.val
  have SZ := Lib.hid (show r < w.heap.size from Blk.lt h')
  have R0 := Lib.hid ((h'.alloc (.cells #[.int .i64 s.mode, .int .i64 s.source, .bool s.hold, .int .i64 s.flags, .int .u64 s.epoch] 34)).alloc (.cells #[.int .i64 0, .int .i64 0, .bool false, .int .i64 0, .int .u64 0] 34))
  have S0 := Lib.hid ((Blk.new w 34 #[.int .i64 s.mode, .int .i64 s.source, .bool s.hold, .int .i64 s.flags, .int .u64 s.epoch]).alloc (.cells #[.int .i64 0, .int .i64 0, .bool false, .int .i64 0, .int .u64 0] 34))
  have Z0_ := Lib.hid (blk_new' (w.alloc (.cells #[.int .i64 s.mode, .int .i64 s.source, .bool s.hold, .int .i64 s.flags, .int .u64 s.epoch] 34)) (g := w.heap.size + 1) (by simp) 34 #[.int .i64 0, .int .i64 0, .bool false, .int .i64 0, .int .u64 0])
  have L0 := Lib.hid (((Below.refl w.heap.size w).alloc (Nat.le_refl _) (.cells #[.int .i64 s.mode, .int .i64 s.source, .bool s.hold, .int .i64 s.flags, .int .u64 s.epoch] 34)).alloc (by simp) (.cells #[.int .i64 0, .int .i64 0, .bool false, .int .i64 0, .int .u64 0] 34))
  clear h h' hs
  go_enter Tryd.func40, Tryd.ntmps40
  go_upto_region 1 with fail
  generalize ((w.alloc (.cells #[.int .i64 s.mode, .int .i64 s.source, .bool s.hold, .int .i64 s.flags, .int .u64 s.epoch] 34)).alloc (.cells #[.int .i64 0, .int .i64 0, .bool false, .int .i64 0, .int .u64 0] 34)) = w1 at *
  obtain ⟨sb, hsb⟩ : ∃ sb, w.heap.size = sb := ⟨_, rfl⟩
  have HSB := Lib.hid (Nat.le_of_eq hsb)
  simp only [hsb] at SZ S0 Z0_ ⊢
  obtain ⟨zb, hzb⟩ : ∃ zb, sb + 1 = zb := ⟨_, rfl⟩
  simp only [hzb] at Z0_ ⊢
  have ORD := Lib.hid (show r < sb ∧ sb + 1 = zb from ⟨SZ.out, hzb⟩)
  clear SZ hsb hzb
  have Rq0 := (R0.out).cell 0
  simp only [List.getElem?_toArray, List.getElem?_cons_succ, List.getElem?_cons_zero] at Rq0
  go_upto_region 3 with fail
  clear Rq0
  have hne : Nonempty (Held (fun W : World => Blk W r 46 #[.int .i64 1, .int .i64 so, .int .i64 mo, .bool fr, .int .i64 fl, .int .i64 n, .int .i64 nx, .int .i64 sw, .int .u64 wd, .int .i64 how, .int .i64 s0.mode, .int .i64 s0.source, .bool s0.hold, .int .i64 s0.flags, .int .u64 s0.epoch, .int .i64 er, .int .i64 st, .int .i64 at_] ∧ Blk W sb 34 #[.int .i64 s.mode, .int .i64 s.source, .bool s.hold, .int .i64 s.flags, .int .u64 s.epoch])) := ⟨⟨w1, R0.out, S0.out⟩⟩
  have p0 : ∀ y : Held (fun W : World => Blk W r 46 #[.int .i64 1, .int .i64 so, .int .i64 mo, .bool fr, .int .i64 fl, .int .i64 n, .int .i64 nx, .int .i64 sw, .int .u64 wd, .int .i64 how, .int .i64 s0.mode, .int .i64 s0.source, .bool s0.hold, .int .i64 s0.flags, .int .u64 s0.epoch, .int .i64 er, .int .i64 st, .int .i64 at_] ∧ Blk W sb 34 #[.int .i64 s.mode, .int .i64 s.source, .bool s.hold, .int .i64 s.flags, .int .u64 s.epoch]), y.w.cell? ⟨r, 0, none⟩ = some (.int .i64 1) := fun y => y.ok.1.cell 0
  have p4 : ∀ y : Held (fun W : World => Blk W r 46 #[.int .i64 1, .int .i64 so, .int .i64 mo, .bool fr, .int .i64 fl, .int .i64 n, .int .i64 nx, .int .i64 sw, .int .u64 wd, .int .i64 how, .int .i64 s0.mode, .int .i64 s0.source, .bool s0.hold, .int .i64 s0.flags, .int .u64 s0.epoch, .int .i64 er, .int .i64 st, .int .i64 at_] ∧ Blk W sb 34 #[.int .i64 s.mode, .int .i64 s.source, .bool s.hold, .int .i64 s.flags, .int .u64 s.epoch]), y.w.cell? ⟨r, 4, none⟩ = some (.int .i64 fl) := fun y => y.ok.1.cell 4
  have sc0 : ∀ y : Held (fun W : World => Blk W r 46 #[.int .i64 1, .int .i64 so, .int .i64 mo, .bool fr, .int .i64 fl, .int .i64 n, .int .i64 nx, .int .i64 sw, .int .u64 wd, .int .i64 how, .int .i64 s0.mode, .int .i64 s0.source, .bool s0.hold, .int .i64 s0.flags, .int .u64 s0.epoch, .int .i64 er, .int .i64 st, .int .i64 at_] ∧ Blk W sb 34 #[.int .i64 s.mode, .int .i64 s.source, .bool s.hold, .int .i64 s.flags, .int .u64 s.epoch]), y.w.cell? ⟨sb, 0, none⟩ = some (.int .i64 s.mode) := fun y => y.ok.2.cell 0
  have sc1 : ∀ y : Held (fun W : World => Blk W r 46 #[.int .i64 1, .int .i64 so, .int .i64 mo, .bool fr, .int .i64 fl, .int .i64 n, .int .i64 nx, .int .i64 sw, .int .u64 wd, .int .i64 how, .int .i64 s0.mode, .int .i64 s0.source, .bool s0.hold, .int .i64 s0.flags, .int .u64 s0.epoch, .int .i64 er, .int .i64 st, .int .i64 at_] ∧ Blk W sb 34 #[.int .i64 s.mode, .int .i64 s.source, .bool s.hold, .int .i64 s.flags, .int .u64 s.epoch]), y.w.cell? ⟨sb, 1, none⟩ = some (.int .i64 s.source) := fun y => y.ok.2.cell 1
  have sc2 : ∀ y : Held (fun W : World => Blk W r 46 #[.int .i64 1, .int .i64 so, .int .i64 mo, .bool fr, .int .i64 fl, .int .i64 n, .int .i64 nx, .int .i64 sw, .int .u64 wd, .int .i64 how, .int .i64 s0.mode, .int .i64 s0.source, .bool s0.hold, .int .i64 s0.flags, .int .u64 s0.epoch, .int .i64 er, .int .i64 st, .int .i64 at_] ∧ Blk W sb 34 #[.int .i64 s.mode, .int .i64 s.source, .bool s.hold, .int .i64 s.flags, .int .u64 s.epoch]), y.w.cell? ⟨sb, 2, none⟩ = some (.bool s.hold) := fun y => y.ok.2.cell 2
  have sc3 : ∀ y : Held (fun W : World => Blk W r 46 #[.int .i64 1, .int .i64 so, .int .i64 mo, .bool fr, .int .i64 fl, .int .i64 n, .int .i64 nx, .int .i64 sw, .int .u64 wd, .int .i64 how, .int .i64 s0.mode, .int .i64 s0.source, .bool s0.hold, .int .i64 s0.flags, .int .u64 s0.epoch, .int .i64 er, .int .i64 st, .int .i64 at_] ∧ Blk W sb 34 #[.int .i64 s.mode, .int .i64 s.source, .bool s.hold, .int .i64 s.flags, .int .u64 s.epoch]), y.w.cell? ⟨sb, 3, none⟩ = some (.int .i64 s.flags) := fun y => y.ok.2.cell 3
  have sc4 : ∀ y : Held (fun W : World => Blk W r 46 #[.int .i64 1, .int .i64 so, .int .i64 mo, .bool fr, .int .i64 fl, .int .i64 n, .int .i64 nx, .int .i64 sw, .int .u64 wd, .int .i64 how, .int .i64 s0.mode, .int .i64 s0.source, .bool s0.hold, .int .i64 s0.flags, .int .u64 s0.epoch, .int .i64 er, .int .i64 st, .int .i64 at_] ∧ Blk W sb 34 #[.int .i64 s.mode, .int .i64 s.source, .bool s.hold, .int .i64 s.flags, .int .u64 s.epoch]), y.w.cell? ⟨sb, 4, none⟩ = some (.int .u64 s.epoch) := fun y => y.ok.2.cell 4
  refine drawn_bars (S := (fun W : World => Blk W r 46 #[.int .i64 1, .int .i64 so, .int .i64 mo, .bool fr, .int .i64 fl, .int .i64 n, .int .i64 nx, .int .i64 sw, .int .u64 wd, .int .i64 how, .int .i64 s0.mode, .int .i64 s0.source, .bool s0.hold, .int .i64 s0.flags, .int .u64 s0.epoch, .int .i64 er, .int .i64 st, .int .i64 at_] ∧ Blk W sb 34 #[.int .i64 s.mode, .int .i64 s.source, .bool s.hold, .int .i64 s.flags, .int .u64 s.epoch])) [([0, 1, 2, 3, 4], 5), ([6, 7], 8)] [9] (by kernel_rfl) (by kernel_rfl) (by kernel_rfl) rfl ⟨R0.out, S0.out⟩ ?_
  refine Phased.go ?_
  simp only [pick, List.map_cons, List.map_nil, List.getElem?_cons_zero, List.getElem?_cons_succ, Option.getD_some]
  repeat (go_big_quiet_step (fail))
  refine wpQuiet_nil ?_
  have L1 := Lib.hid L0.out.drew
  clear L0
  have ee : Ex (fun _ => False) w1 w1.drew := (Ex.refl _ w1).drew
  have R_1 := Lib.hid (R0.out.ex ee (fun h => h))
  have S_1 := Lib.hid (S0.out.ex ee (fun h => h))
  have Z_1 := Lib.hid (Z0_.out.ex ee (fun h => h))
  clear ee R0 S0 Z0_
  generalize w1.drew = w2 at *
  go_wp2_with fail
  refine (HDC.out w2).mono ?_; rintro e w3 ⟨rfl, hb⟩
  have L2 := Lib.hid (bl L1.out hb)
  clear L1
  have ee : Ex (fun _ => False) w2 w3 := Ex.of_below hb
  have R_2 := Lib.hid (R_1.out.ex ee (fun h => h))
  have S_2 := Lib.hid (S_1.out.ex ee (fun h => h))
  have Z_2 := Lib.hid (Z_1.out.ex ee (fun h => h))
  clear ee R_1 S_1 Z_1 hb
  go_wp2_with fail
  refine behind_normal ⟨(fun W : World => Blk W r 46 #[.int .i64 1, .int .i64 so, .int .i64 mo, .bool fr, .int .i64 fl, .int .i64 n, .int .i64 nx, .int .i64 sw, .int .u64 wd, .int .i64 how, .int .i64 s0.mode, .int .i64 s0.source, .bool s0.hold, .int .i64 s0.flags, .int .u64 s0.epoch, .int .i64 er, .int .i64 st, .int .i64 at_] ∧ Blk W sb 34 #[.int .i64 s.mode, .int .i64 s.source, .bool s.hold, .int .i64 s.flags, .int .u64 s.epoch]), fun W h => h, ⟨R_2.out, S_2.out⟩, ?_⟩
  refine Phased.go ?_
  simp only [pick, List.map_cons, List.map_nil, List.getElem?_cons_zero, List.getElem?_cons_succ, Option.getD_some]
  repeat (go_big_quiet_step (fail))
  refine wpQuiet_nil ?_
  have Zq0 := (Z_2.out).cell 0
  have Zq1 := (Z_2.out).cell 1
  have Zq2 := (Z_2.out).cell 2
  have Zq3 := (Z_2.out).cell 3
  have Zq4 := (Z_2.out).cell 4
  simp only [List.getElem?_toArray, List.getElem?_cons_succ, List.getElem?_cons_zero] at Zq0 Zq1 Zq2 Zq3 Zq4
  have Zf0 := (Z_2.out).frozen 0
  have Zf1 := (Z_2.out).frozen 1
  have Zf2 := (Z_2.out).frozen 2
  have Zf3 := (Z_2.out).frozen 3
  have Zf4 := (Z_2.out).frozen 4
  go_wp2_with fail
  clear Zq0 Zq1 Zq2 Zq3 Zq4 Zf0 Zf1 Zf2 Zf3 Zf4
  have hb := set5_blk (x0 := .int .i64 S9.mode) (x1 := .int .i64 S9.source) (x2 := .bool S9.hold) (x3 := .int .i64 S9.flags) (x4 := .int .u64 S9.epoch) Z_2.out
  have LB := Lib.hid (set5_below (x0 := .int .i64 S9.mode) (x1 := .int .i64 S9.source) (x2 := .bool S9.hold) (x3 := .int .i64 S9.flags) (x4 := .int .u64 S9.epoch) L2.out (show w.heap.size ≤ zb by have := ORD.out; have := HSB.out; omega))
  have Z9 := Lib.hid hb
  clear hb L2
  have ee : Ex (fun k => k = zb) w3 (((((w3.setCell ⟨zb, 0, none⟩ (.int .i64 S9.mode)).setCell ⟨zb, 1, none⟩ (.int .i64 S9.source)).setCell ⟨zb, 2, none⟩ (.bool S9.hold)).setCell ⟨zb, 3, none⟩ (.int .i64 S9.flags)).setCell ⟨zb, 4, none⟩ (.int .u64 S9.epoch)) := ((((((Ex.refl (fun q => q = zb) w3).setCell (q := ⟨zb, 0, none⟩) (.inl rfl) (.int .i64 S9.mode)).setCell (q := ⟨zb, 1, none⟩) (.inl rfl) (.int .i64 S9.source)).setCell (q := ⟨zb, 2, none⟩) (.inl rfl) (.bool S9.hold)).setCell (q := ⟨zb, 3, none⟩) (.inl rfl) (.int .i64 S9.flags)).setCell (q := ⟨zb, 4, none⟩) (.inl rfl) (.int .u64 S9.epoch))
  have R_3 := Lib.hid (R_2.out.ex ee (by have o_ := ORD.out; omega))
  have S_3 := Lib.hid (S_2.out.ex ee (by have o_ := ORD.out; omega))
  have Z_3 := Lib.hid (Z9.out)
  clear ee R_2 S_2 Z_2 Z9
  generalize (((((w3.setCell ⟨zb, 0, none⟩ (.int .i64 S9.mode)).setCell ⟨zb, 1, none⟩ (.int .i64 S9.source)).setCell ⟨zb, 2, none⟩ (.bool S9.hold)).setCell ⟨zb, 3, none⟩ (.int .i64 S9.flags)).setCell ⟨zb, 4, none⟩ (.int .u64 S9.epoch)) = w4 at *
  refine behind_normal ⟨(fun W : World => Blk W r 46 #[.int .i64 1, .int .i64 so, .int .i64 mo, .bool fr, .int .i64 fl, .int .i64 n, .int .i64 nx, .int .i64 sw, .int .u64 wd, .int .i64 how, .int .i64 s0.mode, .int .i64 s0.source, .bool s0.hold, .int .i64 s0.flags, .int .u64 s0.epoch, .int .i64 er, .int .i64 st, .int .i64 at_] ∧ Blk W sb 34 #[.int .i64 s.mode, .int .i64 s.source, .bool s.hold, .int .i64 s.flags, .int .u64 s.epoch]), fun W h => h, ⟨R_3.out, S_3.out⟩, ?_⟩
  refine Phased.end_ ?_
  have hne5 : Nonempty (Held (fun W => W = w4)) := ⟨⟨_, rfl⟩⟩
  simp only [pick, List.map_cons, List.map_nil, List.getElem?_cons_zero, List.getElem?_cons_succ, Option.getD_some]
  repeat (go_big_quiet_step (fail))
  refine wpQuiet_nil ?_
  clear hne hne5 p0 p4 sc0 sc1 sc2 sc3 sc4
  go_wp2_with fail
  exact bodyPost_ret (res_cell_tmp (fn := Tryd.f40) rfl _ _ zb _ _ _ _ rfl Z_3.out Tryd.underlying34 rfl (by kernel_rfl)) rfl ⟨rfl, LB.out⟩
theorem Rafter_any (r : Nat) (p : Pl) (hp : p.Ok) (hk : p.kd.isRead = false) (n : Int) (y : RX) (s : St) (hs : s.Ok) (w : World) (h : Blk w r 46 (RX.cells p n y)) :
    Calls Tryd.prog 40 #[.pointer (some ⟨r, 0, none⟩), s.val] w fun e w' => e = .returned (.tuple #[(p.kd.S s).val, .int .i64 (p.kd.E s)]) ∧ Below w.heap.size w w' := by
  obtain ⟨pk, so, mo, fr, fl⟩ := p
  by_cases h0 : pk = 0
  · subst h0
    exact Rafter_req r so mo fr fl n ⟨hp.source, hp.mode⟩ y s hs w h
  · by_cases h1 : pk = 1
    · subst h1
      exact Rafter_tell r so mo fr fl n y s hs w h
    · unfold Pl.kd at hk
      rw [if_neg h0, if_neg h1] at hk
      simp [Kd.isRead] at hk
set_option maxRecDepth 100000 in
set_option maxHeartbeats 1000000 in
theorem RS_how (r : Nat) (p : Pl) (n v : Int) (nx sw wd how : Int) (s0 : St) (er st at_ : Int) (w : World) (h : Blk w r 46 (RX.cells p n ⟨nx, sw, wd, how, s0, er, st, at_⟩)) (hst : 0 ≤ st ∧ st < 1000) (hsw : 0 ≤ sw ∧ sw < 1000) (hh : how ≠ 0) :
    Calls Tryd.prog 22 #[.pointer (some ⟨r, 0, none⟩), .int .u64 v] w fun e w' => e = .returned (.int .u64 (v)) ∧ Blk w' r 46 (RX.cells p n ⟨nx, sw, wd, how, s0, er, st, at_⟩) ∧ Ex (fun q => q = r) w w' := by
  obtain ⟨pk, so, mo, fr, fl⟩ := p
  obtain ⟨rk, hrk⟩ : ∃ rk, Pl.rk ⟨pk, so, mo, fr, fl⟩ = rk := ⟨_, rfl⟩
  have HD := Lib.hid (fun W y s e0 h => Rdone_any r ⟨pk, so, mo, fr, fl⟩ n y s e0 W h)
  unfold RX.cells at h ⊢ HD
  simp only [hrk] at h ⊢ HD
  clear hrk
  unfold St.val at HD
  have HH := Lib.hid hh
  have R0 := Lib.hid h
  have X0 := Lib.hid (Ex.refl (fun q => q = r) w)
  have ORD := Lib.hid (show 0 ≤ r from Nat.zero_le _)
  have w7 : wrap64 (st + 1) = st + 1 := by unfold wrap64; omega
  have w8 : wrap64 (sw + 1) = sw + 1 := by unfold wrap64; omega
  clear h hst hsw hh
  have kh : (how != 0) = true := by simpa using HH.out
  clear w7 w8
  have Rq0 := (R0.out).cell 0
  have Rq9 := (R0.out).cell 9
  simp only [List.getElem?_toArray, List.getElem?_cons_succ, List.getElem?_cons_zero] at Rq0 Rq9
  go_enter Tryd.func22, Tryd.ntmps22
  go_wp2_with fail
  clear Rq0 Rq9
  go_ret
  exact ⟨rfl, R0.out, X0.out⟩
set_option maxRecDepth 100000 in
set_option maxHeartbeats 1000000 in
theorem RS_hit (r : Nat) (p : Pl) (n v : Int) (k : Kd) (hkk : p.kd = k) (hp : p.Ok) (hrd : p.kd.isRead = false) (hv : 0 ≤ v ∧ v ≤ 18446744073709551615) (t : St) (nx sw wd how : Int) (s0 : St) (er st at_ : Int) (w : World) (h : Blk w r 46 (RX.cells p n ⟨2, sw, v, 0, s0, er, st, at_⟩)) (hst : 0 ≤ st ∧ st < 1000) (hsw : 0 ≤ sw ∧ sw < 1000) (ht : k.S (partsOf v) = t) (he : k.E (partsOf v) = 0) (hto : t.Ok ∧ t.Parts) :
    Calls Tryd.prog 22 #[.pointer (some ⟨r, 0, none⟩), .int .u64 v] w fun e w' => e = .returned (.int .u64 (wordI t)) ∧ Blk w' r 46 (RX.cells p n ⟨1, sw + 1, v, 1, t, 0, st + 1, st + 1⟩) ∧ Ex (fun q => q = r) w w' := by
  obtain ⟨pk, so, mo, fr, fl⟩ := p
  obtain ⟨rk, hrk⟩ : ∃ rk, Pl.rk ⟨pk, so, mo, fr, fl⟩ = rk := ⟨_, rfl⟩
  have HA := Lib.hid (fun W y s hs h => Rafter_any r ⟨pk, so, mo, fr, fl⟩ hp hrd n y s hs W h)
  simp only [hkk] at HA
  clear hkk hrd hp
  have HD := Lib.hid (fun W y s e0 h => Rdone_any r ⟨pk, so, mo, fr, fl⟩ n y s e0 W h)
  unfold RX.cells at h ⊢ HA HD
  simp only [hrk] at h ⊢ HA HD
  clear hrk
  unfold St.val at HA HD
  have HPT := Lib.hid (fun W => Parts_any v hv W)
  have HSO := Lib.hid (partsOf_ok hv)
  have HT := Lib.hid ht
  have HE := Lib.hid he
  have HTO := Lib.hid hto
  have R0 := Lib.hid h
  have X0 := Lib.hid (Ex.refl (fun q => q = r) w)
  have ORD := Lib.hid (show 0 ≤ r from Nat.zero_le _)
  have w7 : wrap64 (st + 1) = st + 1 := by unfold wrap64; omega
  have w8 : wrap64 (sw + 1) = sw + 1 := by unfold wrap64; omega
  clear h hst hsw ht he hto
  have Rq0 := (R0.out).cell 0
  have Rq9 := (R0.out).cell 9
  have Rq16 := (R0.out).cell 16
  simp only [List.getElem?_toArray, List.getElem?_cons_succ, List.getElem?_cons_zero] at Rq0 Rq9 Rq16
  have Rf16 := (R0.out).frozen 16
  go_enter Tryd.func22, Tryd.ntmps22
  go_upto_region 4 with fail
  clear Rq0 Rq9 Rq16 Rf16
  have bb := (R0.out.set_ 16 (.int .i64 (st + 1)))
  simp only [List.setIfInBounds_toArray, List.set_cons_succ, List.set_cons_zero] at bb
  have BB := Lib.hid bb
  clear bb
  have ee : Ex (fun k => k = r) w (w.setCell ⟨r, 16, none⟩ (.int .i64 (st + 1))) := ((Ex.refl (fun q => q = r) w).setCell (q := ⟨r, 16, none⟩) (.inl rfl) (.int .i64 (st + 1)))
  have R_1 := Lib.hid (BB.out)
  have X_1 := Lib.hid (X0.out.trans ee)
  clear ee R0 X0 BB
  generalize (w.setCell ⟨r, 16, none⟩ (.int .i64 (st + 1))) = wa at *
  have Rq0 := (R_1.out).cell 0
  have Rq6 := (R_1.out).cell 6
  have Rq7 := (R_1.out).cell 7
  simp only [List.getElem?_toArray, List.getElem?_cons_succ, List.getElem?_cons_zero] at Rq0 Rq6 Rq7
  have Rf6 := (R_1.out).frozen 6
  have Rf7 := (R_1.out).frozen 7
  go_upto_region 7 with fail
  clear Rq0 Rq6 Rq7 Rf6 Rf7
  have bb := ((R_1.out.set_ 6 (.int .i64 1)).set_ 7 (.int .i64 (sw + 1)))
  simp only [List.setIfInBounds_toArray, List.set_cons_succ, List.set_cons_zero] at bb
  have BB := Lib.hid bb
  clear bb
  have ee : Ex (fun k => k = r) wa ((wa.setCell ⟨r, 6, none⟩ (.int .i64 1)).setCell ⟨r, 7, none⟩ (.int .i64 (sw + 1))) := (((Ex.refl (fun q => q = r) wa).setCell (q := ⟨r, 6, none⟩) (.inl rfl) (.int .i64 1)).setCell (q := ⟨r, 7, none⟩) (.inl rfl) (.int .i64 (sw + 1)))
  have R_2 := Lib.hid (BB.out)
  have X_2 := Lib.hid (X_1.out.trans ee)
  clear ee R_1 X_1 BB
  generalize ((wa.setCell ⟨r, 6, none⟩ (.int .i64 1)).setCell ⟨r, 7, none⟩ (.int .i64 (sw + 1))) = wb at *
  have kv : (v == v) = true := by simp
  have Rq0 := (R_2.out).cell 0
  have Rq8 := (R_2.out).cell 8
  simp only [List.getElem?_toArray, List.getElem?_cons_succ, List.getElem?_cons_zero] at Rq0 Rq8
  go_wp2_with fail
  refine (HPT.out wb).mono ?_; rintro e wc ⟨rfl, hb⟩
  clear Rq0 Rq8
  have ee : Ex (fun _ => False) wb wc := Ex.of_below hb
  have R_3 := Lib.hid (R_2.out.ex ee (fun h => h))
  have X_3 := Lib.hid (X_2.out.trans (Ex.of_below hb))
  clear ee R_2 X_2 hb
  unfold St.val
  generalize partsOf v = s at *
  go_wp2_with fail
  have HAA := Lib.hid (HA.out wc ⟨1, sw + 1, v, 0, s0, er, st + 1, at_⟩ s HSO.out R_3.out)
  rw [HT.out, HE.out] at HAA
  refine (HAA.out).mono ?_; rintro e wd_ ⟨rfl, hb⟩
  have ee : Ex (fun _ => False) wc wd_ := Ex.of_below hb
  have R_4 := Lib.hid (R_3.out.ex ee (fun h => h))
  have X_4 := Lib.hid (X_3.out.trans (Ex.of_below hb))
  clear ee R_3 X_3 hb HAA
  go_upto_region 9 with fail
  have hq := Blk.new wd_ 34 #[.int .i64 t.mode, .int .i64 t.source, .bool t.hold, .int .i64 t.flags, .int .u64 t.epoch]
  obtain ⟨tb, htb⟩ : ∃ tb, wd_.heap.size = tb := ⟨_, rfl⟩
  have hlt : r < tb := htb ▸ R_4.out.lt
  simp only [htb] at hq ⊢
  have ORD2 := Lib.hid hlt
  have ee : Ex (fun _ => False) wd_ (wd_.alloc (.cells #[.int .i64 t.mode, .int .i64 t.source, .bool t.hold, .int .i64 t.flags, .int .u64 t.epoch] 34)) := (Ex.refl (fun _ => False) wd_).alloc (.cells #[.int .i64 t.mode, .int .i64 t.source, .bool t.hold, .int .i64 t.flags, .int .u64 t.epoch] 34)
  have R_5 := Lib.hid (R_4.out.ex ee (fun h => h))
  have Q_5 := Lib.hid (hq)
  have X_5 := Lib.hid (X_4.out.trans ((Ex.refl _ wd_).alloc (.cells #[.int .i64 t.mode, .int .i64 t.source, .bool t.hold, .int .i64 t.flags, .int .u64 t.epoch] 34)))
  clear ee R_4 X_4 hq hlt htb ORD
  generalize wd_.alloc (.cells #[.int .i64 t.mode, .int .i64 t.source, .bool t.hold, .int .i64 t.flags, .int .u64 t.epoch] 34) = we at *
  have Qq0 := (Q_5.out).cell 0
  have Qq1 := (Q_5.out).cell 1
  have Qq2 := (Q_5.out).cell 2
  have Qq3 := (Q_5.out).cell 3
  have Qq4 := (Q_5.out).cell 4
  simp only [List.getElem?_toArray, List.getElem?_cons_succ, List.getElem?_cons_zero] at Qq0 Qq1 Qq2 Qq3 Qq4
  go_wp2_with fail
  clear Qq0 Qq1 Qq2 Qq3 Qq4
  refine (HD.out we ⟨1, (sw + 1), v, 0, s0, er, (st + 1), at_⟩ t 0 R_5.out).mono ?_; rintro e wf ⟨rfl, ha, hx⟩
  have ee : Ex (fun k => k = r) we wf := hx
  have Q_6 := Lib.hid (Q_5.out.ex ee (by have o_ := ORD2.out; omega))
  have R_6 := Lib.hid (ha)
  have X_6 := Lib.hid (X_5.out.trans hx)
  clear ee R_5 X_5 Q_5 ha hx
  have Qq0 := (Q_6.out).cell 0
  have Qq1 := (Q_6.out).cell 1
  have Qq2 := (Q_6.out).cell 2
  have Qq3 := (Q_6.out).cell 3
  have Qq4 := (Q_6.out).cell 4
  simp only [List.getElem?_toArray, List.getElem?_cons_succ, List.getElem?_cons_zero] at Qq0 Qq1 Qq2 Qq3 Qq4
  go_wp2_with fail
  have HW := Lib.hid (Word_any t HTO.out.1 HTO.out.2 wf)
  unfold St.val at HW
  refine (HW.out).mono ?_; rintro e wg ⟨rfl, hb⟩
  clear Qq0 Qq1 Qq2 Qq3 Qq4
  have ee : Ex (fun _ => False) wf wg := Ex.of_below hb
  have R_7 := Lib.hid (R_6.out.ex ee (fun h => h))
  have Q_7 := Lib.hid (Q_6.out.ex ee (fun h => h))
  have X_7 := Lib.hid (X_6.out.trans (Ex.of_below hb))
  clear ee R_6 X_6 Q_6 hb HW
  go_wp2_with fail
  go_ret
  exact ⟨rfl, R_7.out, X_7.out⟩
set_option maxRecDepth 100000 in
set_option maxHeartbeats 1000000 in
theorem RS_spent (r : Nat) (p : Pl) (n v : Int) (nx sw wd how : Int) (s0 : St) (er st at_ : Int) (w : World) (h : Blk w r 46 (RX.cells p n ⟨2, sw, wd, 0, s0, er, st, at_⟩)) (hst : 0 ≤ st ∧ st < 1000) (hsw : 0 ≤ sw ∧ sw < 1000) (hvw : v ≠ wd) (hl : sw + 1 = n) :
    Calls Tryd.prog 22 #[.pointer (some ⟨r, 0, none⟩), .int .u64 v] w fun e w' => e = .returned (.int .u64 (v)) ∧ Blk w' r 46 (RX.cells p n ⟨1, sw + 1, wd, 2, s0, 20, st + 1, at_⟩) ∧ Ex (fun q => q = r) w w' := by
  obtain ⟨pk, so, mo, fr, fl⟩ := p
  obtain ⟨rk, hrk⟩ : ∃ rk, Pl.rk ⟨pk, so, mo, fr, fl⟩ = rk := ⟨_, rfl⟩
  have HD := Lib.hid (fun W y s e0 h => Rdone_any r ⟨pk, so, mo, fr, fl⟩ n y s e0 W h)
  unfold RX.cells at h ⊢ HD
  simp only [hrk] at h ⊢ HD
  clear hrk
  unfold St.val at HD
  have HVW := Lib.hid hvw
  have HL := Lib.hid hl
  have R0 := Lib.hid h
  have X0 := Lib.hid (Ex.refl (fun q => q = r) w)
  have ORD := Lib.hid (show 0 ≤ r from Nat.zero_le _)
  have w7 : wrap64 (st + 1) = st + 1 := by unfold wrap64; omega
  have w8 : wrap64 (sw + 1) = sw + 1 := by unfold wrap64; omega
  clear h hst hsw hvw hl
  have Rq0 := (R0.out).cell 0
  have Rq9 := (R0.out).cell 9
  have Rq16 := (R0.out).cell 16
  simp only [List.getElem?_toArray, List.getElem?_cons_succ, List.getElem?_cons_zero] at Rq0 Rq9 Rq16
  have Rf16 := (R0.out).frozen 16
  go_enter Tryd.func22, Tryd.ntmps22
  go_upto_region 4 with fail
  clear Rq0 Rq9 Rq16 Rf16
  have bb := (R0.out.set_ 16 (.int .i64 (st + 1)))
  simp only [List.setIfInBounds_toArray, List.set_cons_succ, List.set_cons_zero] at bb
  have BB := Lib.hid bb
  clear bb
  have ee : Ex (fun k => k = r) w (w.setCell ⟨r, 16, none⟩ (.int .i64 (st + 1))) := ((Ex.refl (fun q => q = r) w).setCell (q := ⟨r, 16, none⟩) (.inl rfl) (.int .i64 (st + 1)))
  have R_1 := Lib.hid (BB.out)
  have X_1 := Lib.hid (X0.out.trans ee)
  clear ee R0 X0 BB
  generalize (w.setCell ⟨r, 16, none⟩ (.int .i64 (st + 1))) = wa at *
  have Rq0 := (R_1.out).cell 0
  have Rq6 := (R_1.out).cell 6
  have Rq7 := (R_1.out).cell 7
  simp only [List.getElem?_toArray, List.getElem?_cons_succ, List.getElem?_cons_zero] at Rq0 Rq6 Rq7
  have Rf6 := (R_1.out).frozen 6
  have Rf7 := (R_1.out).frozen 7
  go_upto_region 7 with fail
  clear Rq0 Rq6 Rq7 Rf6 Rf7
  have bb := ((R_1.out.set_ 6 (.int .i64 1)).set_ 7 (.int .i64 (sw + 1)))
  simp only [List.setIfInBounds_toArray, List.set_cons_succ, List.set_cons_zero] at bb
  have BB := Lib.hid bb
  clear bb
  have ee : Ex (fun k => k = r) wa ((wa.setCell ⟨r, 6, none⟩ (.int .i64 1)).setCell ⟨r, 7, none⟩ (.int .i64 (sw + 1))) := (((Ex.refl (fun q => q = r) wa).setCell (q := ⟨r, 6, none⟩) (.inl rfl) (.int .i64 1)).setCell (q := ⟨r, 7, none⟩) (.inl rfl) (.int .i64 (sw + 1)))
  have R_2 := Lib.hid (BB.out)
  have X_2 := Lib.hid (X_1.out.trans ee)
  clear ee R_1 X_1 BB
  generalize ((wa.setCell ⟨r, 6, none⟩ (.int .i64 1)).setCell ⟨r, 7, none⟩ (.int .i64 (sw + 1))) = wb at *
  have kv : (v == wd) = false := by simpa using HVW.out
  have Rq0 := (R_2.out).cell 0
  have Rq8 := (R_2.out).cell 8
  simp only [List.getElem?_toArray, List.getElem?_cons_succ, List.getElem?_cons_zero] at Rq0 Rq8
  go_upto_region 11 with fail
  clear Rq0 Rq8
  have hne : Nonempty (Held (fun W => W = wb.drew)) := ⟨⟨_, rfl⟩⟩
  have hn9 : (sw + 1 == n) = true := by simpa using HL.out
  have p0 : ∀ y : Held (fun W => W = wb.drew), y.w.cell? ⟨r, 0, none⟩ = some (.int .i64 rk) := fun y => by rw [y.ok]; exact R_2.out.cell 0
  have p5 : ∀ y : Held (fun W => W = wb.drew), y.w.cell? ⟨r, 5, none⟩ = some (.int .i64 n) := fun y => by rw [y.ok]; exact R_2.out.cell 5
  have p7 : ∀ y : Held (fun W => W = wb.drew), y.w.cell? ⟨r, 7, none⟩ = some (.int .i64 (sw + 1)) := fun y => by rw [y.ok]; exact R_2.out.cell 7
  refine drawn_bars (S := fun _ => True) [] [0, 1, 2, 3, 4, 5, 6, 7, 8] (by kernel_rfl) (by kernel_rfl) (by kernel_rfl) rfl trivial ?_
  refine Phased.end_ ?_
  simp only [pick, List.map_cons, List.map_nil, List.getElem?_cons_zero, List.getElem?_cons_succ, Option.getD_some]
  repeat (go_big_quiet_step (fail))
  refine wpQuiet_nil ?_
  clear hne p0 p5 p7
  have ee : Ex (fun _ => False) wb wb.drew := (Ex.refl _ wb).drew
  have R_3 := Lib.hid (R_2.out.ex ee (fun h => h))
  have X_3 := Lib.hid (X_2.out.trans ((Ex.refl _ wb).drew))
  clear ee R_2 X_2
  generalize wb.drew = wc at *
  have Rq0 := (R_3.out).cell 0
  have Rq9 := (R_3.out).cell 9
  have Rq15 := (R_3.out).cell 15
  simp only [List.getElem?_toArray, List.getElem?_cons_succ, List.getElem?_cons_zero] at Rq0 Rq9 Rq15
  have Rf9 := (R_3.out).frozen 9
  have Rf15 := (R_3.out).frozen 15
  go_wp2_with fail
  clear Rq0 Rq9 Rq15 Rf9 Rf15
  have bb := ((R_3.out.set_ 9 (.int .i64 2)).set_ 15 (.int .i64 20))
  simp only [List.setIfInBounds_toArray, List.set_cons_succ, List.set_cons_zero] at bb
  have BB := Lib.hid bb
  clear bb
  have ee : Ex (fun k => k = r) wc ((wc.setCell ⟨r, 9, none⟩ (.int .i64 2)).setCell ⟨r, 15, none⟩ (.int .i64 20)) := (((Ex.refl (fun q => q = r) wc).setCell (q := ⟨r, 9, none⟩) (.inl rfl) (.int .i64 2)).setCell (q := ⟨r, 15, none⟩) (.inl rfl) (.int .i64 20))
  have R_4 := Lib.hid (BB.out)
  have X_4 := Lib.hid (X_3.out.trans ee)
  clear ee R_3 X_3 BB
  generalize ((wc.setCell ⟨r, 9, none⟩ (.int .i64 2)).setCell ⟨r, 15, none⟩ (.int .i64 20)) = wd_ at *
  go_ret
  exact ⟨rfl, R_4.out, X_4.out⟩
set_option maxRecDepth 100000 in
set_option maxHeartbeats 1000000 in
theorem RS_busy (r : Nat) (p : Pl) (n v : Int) (nx sw wd how : Int) (s0 : St) (er st at_ : Int) (w : World) (h : Blk w r 46 (RX.cells p n ⟨2, sw, wd, 0, s0, er, st, at_⟩)) (hst : 0 ≤ st ∧ st < 1000) (hsw : 0 ≤ sw ∧ sw < 1000) (hvw : v ≠ wd) (hl : sw + 1 ≠ n) :
    Calls Tryd.prog 22 #[.pointer (some ⟨r, 0, none⟩), .int .u64 v] w fun e w' => e = .returned (.int .u64 (v)) ∧ Blk w' r 46 (RX.cells p n ⟨1, sw + 1, wd, 0, s0, er, st + 1, at_⟩) ∧ Ex (fun q => q = r) w w' := by
  obtain ⟨pk, so, mo, fr, fl⟩ := p
  obtain ⟨rk, hrk⟩ : ∃ rk, Pl.rk ⟨pk, so, mo, fr, fl⟩ = rk := ⟨_, rfl⟩
  have HD := Lib.hid (fun W y s e0 h => Rdone_any r ⟨pk, so, mo, fr, fl⟩ n y s e0 W h)
  unfold RX.cells at h ⊢ HD
  simp only [hrk] at h ⊢ HD
  clear hrk
  unfold St.val at HD
  have HVW := Lib.hid hvw
  have HL := Lib.hid hl
  have R0 := Lib.hid h
  have X0 := Lib.hid (Ex.refl (fun q => q = r) w)
  have ORD := Lib.hid (show 0 ≤ r from Nat.zero_le _)
  have w7 : wrap64 (st + 1) = st + 1 := by unfold wrap64; omega
  have w8 : wrap64 (sw + 1) = sw + 1 := by unfold wrap64; omega
  clear h hst hsw hvw hl
  have Rq0 := (R0.out).cell 0
  have Rq9 := (R0.out).cell 9
  have Rq16 := (R0.out).cell 16
  simp only [List.getElem?_toArray, List.getElem?_cons_succ, List.getElem?_cons_zero] at Rq0 Rq9 Rq16
  have Rf16 := (R0.out).frozen 16
  go_enter Tryd.func22, Tryd.ntmps22
  go_upto_region 4 with fail
  clear Rq0 Rq9 Rq16 Rf16
  have bb := (R0.out.set_ 16 (.int .i64 (st + 1)))
  simp only [List.setIfInBounds_toArray, List.set_cons_succ, List.set_cons_zero] at bb
  have BB := Lib.hid bb
  clear bb
  have ee : Ex (fun k => k = r) w (w.setCell ⟨r, 16, none⟩ (.int .i64 (st + 1))) := ((Ex.refl (fun q => q = r) w).setCell (q := ⟨r, 16, none⟩) (.inl rfl) (.int .i64 (st + 1)))
  have R_1 := Lib.hid (BB.out)
  have X_1 := Lib.hid (X0.out.trans ee)
  clear ee R0 X0 BB
  generalize (w.setCell ⟨r, 16, none⟩ (.int .i64 (st + 1))) = wa at *
  have Rq0 := (R_1.out).cell 0
  have Rq6 := (R_1.out).cell 6
  have Rq7 := (R_1.out).cell 7
  simp only [List.getElem?_toArray, List.getElem?_cons_succ, List.getElem?_cons_zero] at Rq0 Rq6 Rq7
  have Rf6 := (R_1.out).frozen 6
  have Rf7 := (R_1.out).frozen 7
  go_upto_region 7 with fail
  clear Rq0 Rq6 Rq7 Rf6 Rf7
  have bb := ((R_1.out.set_ 6 (.int .i64 1)).set_ 7 (.int .i64 (sw + 1)))
  simp only [List.setIfInBounds_toArray, List.set_cons_succ, List.set_cons_zero] at bb
  have BB := Lib.hid bb
  clear bb
  have ee : Ex (fun k => k = r) wa ((wa.setCell ⟨r, 6, none⟩ (.int .i64 1)).setCell ⟨r, 7, none⟩ (.int .i64 (sw + 1))) := (((Ex.refl (fun q => q = r) wa).setCell (q := ⟨r, 6, none⟩) (.inl rfl) (.int .i64 1)).setCell (q := ⟨r, 7, none⟩) (.inl rfl) (.int .i64 (sw + 1)))
  have R_2 := Lib.hid (BB.out)
  have X_2 := Lib.hid (X_1.out.trans ee)
  clear ee R_1 X_1 BB
  generalize ((wa.setCell ⟨r, 6, none⟩ (.int .i64 1)).setCell ⟨r, 7, none⟩ (.int .i64 (sw + 1))) = wb at *
  have kv : (v == wd) = false := by simpa using HVW.out
  have Rq0 := (R_2.out).cell 0
  have Rq8 := (R_2.out).cell 8
  simp only [List.getElem?_toArray, List.getElem?_cons_succ, List.getElem?_cons_zero] at Rq0 Rq8
  go_upto_region 11 with fail
  clear Rq0 Rq8
  have hne : Nonempty (Held (fun W => W = wb.drew)) := ⟨⟨_, rfl⟩⟩
  have hn9 : (sw + 1 == n) = false := by simpa using HL.out
  have p0 : ∀ y : Held (fun W => W = wb.drew), y.w.cell? ⟨r, 0, none⟩ = some (.int .i64 rk) := fun y => by rw [y.ok]; exact R_2.out.cell 0
  have p5 : ∀ y : Held (fun W => W = wb.drew), y.w.cell? ⟨r, 5, none⟩ = some (.int .i64 n) := fun y => by rw [y.ok]; exact R_2.out.cell 5
  have p7 : ∀ y : Held (fun W => W = wb.drew), y.w.cell? ⟨r, 7, none⟩ = some (.int .i64 (sw + 1)) := fun y => by rw [y.ok]; exact R_2.out.cell 7
  refine drawn_bars (S := fun _ => True) [] [0, 1, 2, 3, 4, 5, 6, 7, 8] (by kernel_rfl) (by kernel_rfl) (by kernel_rfl) rfl trivial ?_
  refine Phased.end_ ?_
  simp only [pick, List.map_cons, List.map_nil, List.getElem?_cons_zero, List.getElem?_cons_succ, Option.getD_some]
  repeat (go_big_quiet_step (fail))
  refine wpQuiet_nil ?_
  clear hne p0 p5 p7
  have ee : Ex (fun _ => False) wb wb.drew := (Ex.refl _ wb).drew
  have R_3 := Lib.hid (R_2.out.ex ee (fun h => h))
  have X_3 := Lib.hid (X_2.out.trans ((Ex.refl _ wb).drew))
  clear ee R_2 X_2
  generalize wb.drew = wc at *
  go_wp2_with fail
  go_ret
  exact ⟨rfl, R_3.out, X_3.out⟩
set_option maxRecDepth 100000 in
set_option maxHeartbeats 1000000 in
theorem RS_form (r : Nat) (p : Pl) (n v : Int) (hv : 0 ≤ v ∧ v ≤ 18446744073709551615) (nx sw wd how : Int) (s0 : St) (er st at_ : Int) (w : World) (h : Blk w r 46 (RX.cells p n ⟨nx, sw, wd, 0, s0, er, st, at_⟩)) (hst : 0 ≤ st ∧ st < 1000) (hsw : 0 ≤ sw ∧ sw < 1000) (hnx : nx ≠ 2) (hr : rightB (partsOf v) = false) :
    Calls Tryd.prog 22 #[.pointer (some ⟨r, 0, none⟩), .int .u64 v] w fun e w' => e = .returned (.int .u64 (v)) ∧ Blk w' r 46 (RX.cells p n ⟨nx, sw, wd, 1, St.zero, 11, st + 1, st + 1⟩) ∧ Ex (fun q => q = r) w w' := by
  obtain ⟨pk, so, mo, fr, fl⟩ := p
  obtain ⟨rk, hrk⟩ : ∃ rk, Pl.rk ⟨pk, so, mo, fr, fl⟩ = rk := ⟨_, rfl⟩
  have HD := Lib.hid (fun W y s e0 h => Rdone_any r ⟨pk, so, mo, fr, fl⟩ n y s e0 W h)
  unfold RX.cells at h ⊢ HD
  simp only [hrk] at h ⊢ HD
  clear hrk
  unfold St.val at HD
  have HPT := Lib.hid (fun W => Parts_any v hv W)
  have HSO := Lib.hid (partsOf_ok hv)
  have HNX := Lib.hid hnx
  have HR := Lib.hid hr
  have R0 := Lib.hid h
  have X0 := Lib.hid (Ex.refl (fun q => q = r) w)
  have ORD := Lib.hid (show 0 ≤ r from Nat.zero_le _)
  have w7 : wrap64 (st + 1) = st + 1 := by unfold wrap64; omega
  have w8 : wrap64 (sw + 1) = sw + 1 := by unfold wrap64; omega
  clear h hst hsw hnx hr
  have Rq0 := (R0.out).cell 0
  have Rq9 := (R0.out).cell 9
  have Rq16 := (R0.out).cell 16
  simp only [List.getElem?_toArray, List.getElem?_cons_succ, List.getElem?_cons_zero] at Rq0 Rq9 Rq16
  have Rf16 := (R0.out).frozen 16
  go_enter Tryd.func22, Tryd.ntmps22
  go_upto_region 4 with fail
  clear Rq0 Rq9 Rq16 Rf16
  have bb := (R0.out.set_ 16 (.int .i64 (st + 1)))
  simp only [List.setIfInBounds_toArray, List.set_cons_succ, List.set_cons_zero] at bb
  have BB := Lib.hid bb
  clear bb
  have ee : Ex (fun k => k = r) w (w.setCell ⟨r, 16, none⟩ (.int .i64 (st + 1))) := ((Ex.refl (fun q => q = r) w).setCell (q := ⟨r, 16, none⟩) (.inl rfl) (.int .i64 (st + 1)))
  have R_1 := Lib.hid (BB.out)
  have X_1 := Lib.hid (X0.out.trans ee)
  clear ee R0 X0 BB
  generalize (w.setCell ⟨r, 16, none⟩ (.int .i64 (st + 1))) = wa at *
  have kn : (nx == 2) = false := by simpa using HNX.out
  have Rq0 := (R_1.out).cell 0
  have Rq6 := (R_1.out).cell 6
  simp only [List.getElem?_toArray, List.getElem?_cons_succ, List.getElem?_cons_zero] at Rq0 Rq6
  go_wp2_with fail
  refine (HPT.out wa).mono ?_; rintro e wb ⟨rfl, hb⟩
  clear Rq0 Rq6
  have ee : Ex (fun _ => False) wa wb := Ex.of_below hb
  have R_2 := Lib.hid (R_1.out.ex ee (fun h => h))
  have X_2 := Lib.hid (X_1.out.trans (Ex.of_below hb))
  clear ee R_1 X_1 hb
  unfold St.val
  have HRB := Lib.hid (fun W => Right_any (partsOf v) HSO.out W)
  obtain ⟨s, hsv⟩ : ∃ s, partsOf v = s := ⟨_, rfl⟩
  have HSV := Lib.hid hsv
  simp only [hsv] at HSO HRB ⊢
  simp only [hsv] at HR
  clear hsv
  unfold St.val at HRB
  go_upto_region 16 with fail
  have hq := Blk.new wb 34 #[.int .i64 s.mode, .int .i64 s.source, .bool s.hold, .int .i64 s.flags, .int .u64 s.epoch]
  obtain ⟨sb, htb⟩ : ∃ sb, wb.heap.size = sb := ⟨_, rfl⟩
  have hlt : r < sb := htb ▸ R_2.out.lt
  simp only [htb] at hq ⊢
  have ORDs := Lib.hid (show 0 ≤ r ∧ r < sb ∧ r < sb from ⟨ORD.out, hlt, htb ▸ R_2.out.lt⟩)
  have ee : Ex (fun _ => False) wb (wb.alloc (.cells #[.int .i64 s.mode, .int .i64 s.source, .bool s.hold, .int .i64 s.flags, .int .u64 s.epoch] 34)) := (Ex.refl (fun _ => False) wb).alloc (.cells #[.int .i64 s.mode, .int .i64 s.source, .bool s.hold, .int .i64 s.flags, .int .u64 s.epoch] 34)
  have R_3 := Lib.hid (R_2.out.ex ee (fun h => h))
  have S_3 := Lib.hid (hq)
  have X_3 := Lib.hid (X_2.out.trans ((Ex.refl _ wb).alloc (.cells #[.int .i64 s.mode, .int .i64 s.source, .bool s.hold, .int .i64 s.flags, .int .u64 s.epoch] 34)))
  clear ee R_2 X_2 hq hlt htb
  generalize wb.alloc (.cells #[.int .i64 s.mode, .int .i64 s.source, .bool s.hold, .int .i64 s.flags, .int .u64 s.epoch] 34) = wc at *
  have Sq0 := (S_3.out).cell 0
  have Sq1 := (S_3.out).cell 1
  have Sq2 := (S_3.out).cell 2
  have Sq3 := (S_3.out).cell 3
  have Sq4 := (S_3.out).cell 4
  simp only [List.getElem?_toArray, List.getElem?_cons_succ, List.getElem?_cons_zero] at Sq0 Sq1 Sq2 Sq3 Sq4
  go_wp2_with fail
  simp only [HR.out] at HRB
  refine (HRB.out wc).mono ?_; rintro e wd_ ⟨rfl, hb⟩
  clear Sq0 Sq1 Sq2 Sq3 Sq4
  have ee : Ex (fun _ => False) wc wd_ := Ex.of_below hb
  have R_4 := Lib.hid (R_3.out.ex ee (fun h => h))
  have S_4 := Lib.hid (S_3.out.ex ee (fun h => h))
  have X_4 := Lib.hid (X_3.out.trans (Ex.of_below hb))
  clear ee R_3 X_3 S_3 hb
  go_wp2_with fail
  have HDD := Lib.hid (HD.out wd_ ⟨nx, sw, wd, 0, s0, er, (st + 1), at_⟩ St.zero 11 R_4.out)
  simp only [St.zero] at HDD
  refine (HDD.out).mono ?_; rintro e wf ⟨rfl, ha, hx⟩
  have ee : Ex (fun k => k = r) wd_ wf := hx
  have S_5 := Lib.hid (S_4.out.ex ee (by have o_ := ORDs.out; omega))
  have R_5 := Lib.hid (ha)
  have X_5 := Lib.hid (X_4.out.trans hx)
  clear ee R_4 X_4 S_4 ha hx HDD
  go_wp2_with fail
  go_ret
  exact ⟨rfl, R_5.out, X_5.out⟩
set_option maxRecDepth 100000 in
set_option maxHeartbeats 1000000 in
theorem RS_read (r : Nat) (p : Pl) (n v : Int) (hv : 0 ≤ v ∧ v ≤ 18446744073709551615) (nx sw wd how : Int) (s0 : St) (er st at_ : Int) (w : World) (h : Blk w r 46 (RX.cells p n ⟨nx, sw, wd, 0, s0, er, st, at_⟩)) (hst : 0 ≤ st ∧ st < 1000) (hsw : 0 ≤ sw ∧ sw < 1000) (hnx : nx ≠ 2) (hr : rightB (partsOf v) = true) (hrk' : Pl.rk p = 2) :
    Calls Tryd.prog 22 #[.pointer (some ⟨r, 0, none⟩), .int .u64 v] w fun e w' => e = .returned (.int .u64 (v)) ∧ Blk w' r 46 (RX.cells p n ⟨nx, sw, wd, 1, partsOf v, 0, st + 1, st + 1⟩) ∧ Ex (fun q => q = r) w w' := by
  obtain ⟨pk, so, mo, fr, fl⟩ := p
  obtain ⟨rk, hrk⟩ : ∃ rk, Pl.rk ⟨pk, so, mo, fr, fl⟩ = rk := ⟨_, rfl⟩
  have HD := Lib.hid (fun W y s e0 h => Rdone_any r ⟨pk, so, mo, fr, fl⟩ n y s e0 W h)
  obtain rfl : rk = 2 := hrk.symm.trans hrk'
  clear hrk'
  unfold RX.cells at h ⊢ HD
  simp only [hrk] at h ⊢ HD
  clear hrk
  unfold St.val at HD
  have HPT := Lib.hid (fun W => Parts_any v hv W)
  have HSO := Lib.hid (partsOf_ok hv)
  have HNX := Lib.hid hnx
  have HR := Lib.hid hr
  have R0 := Lib.hid h
  have X0 := Lib.hid (Ex.refl (fun q => q = r) w)
  have ORD := Lib.hid (show 0 ≤ r from Nat.zero_le _)
  have w7 : wrap64 (st + 1) = st + 1 := by unfold wrap64; omega
  have w8 : wrap64 (sw + 1) = sw + 1 := by unfold wrap64; omega
  clear h hst hsw hnx hr
  have Rq0 := (R0.out).cell 0
  have Rq9 := (R0.out).cell 9
  have Rq16 := (R0.out).cell 16
  simp only [List.getElem?_toArray, List.getElem?_cons_succ, List.getElem?_cons_zero] at Rq0 Rq9 Rq16
  have Rf16 := (R0.out).frozen 16
  go_enter Tryd.func22, Tryd.ntmps22
  go_upto_region 4 with fail
  clear Rq0 Rq9 Rq16 Rf16
  have bb := (R0.out.set_ 16 (.int .i64 (st + 1)))
  simp only [List.setIfInBounds_toArray, List.set_cons_succ, List.set_cons_zero] at bb
  have BB := Lib.hid bb
  clear bb
  have ee : Ex (fun k => k = r) w (w.setCell ⟨r, 16, none⟩ (.int .i64 (st + 1))) := ((Ex.refl (fun q => q = r) w).setCell (q := ⟨r, 16, none⟩) (.inl rfl) (.int .i64 (st + 1)))
  have R_1 := Lib.hid (BB.out)
  have X_1 := Lib.hid (X0.out.trans ee)
  clear ee R0 X0 BB
  generalize (w.setCell ⟨r, 16, none⟩ (.int .i64 (st + 1))) = wa at *
  have kn : (nx == 2) = false := by simpa using HNX.out
  have Rq0 := (R_1.out).cell 0
  have Rq6 := (R_1.out).cell 6
  simp only [List.getElem?_toArray, List.getElem?_cons_succ, List.getElem?_cons_zero] at Rq0 Rq6
  go_wp2_with fail
  refine (HPT.out wa).mono ?_; rintro e wb ⟨rfl, hb⟩
  clear Rq0 Rq6
  have ee : Ex (fun _ => False) wa wb := Ex.of_below hb
  have R_2 := Lib.hid (R_1.out.ex ee (fun h => h))
  have X_2 := Lib.hid (X_1.out.trans (Ex.of_below hb))
  clear ee R_1 X_1 hb
  unfold St.val
  have HRB := Lib.hid (fun W => Right_any (partsOf v) HSO.out W)
  obtain ⟨s, hsv⟩ : ∃ s, partsOf v = s := ⟨_, rfl⟩
  have HSV := Lib.hid hsv
  simp only [hsv] at HSO HRB ⊢
  simp only [hsv] at HR
  clear hsv
  unfold St.val at HRB
  go_upto_region 16 with fail
  have hq := Blk.new wb 34 #[.int .i64 s.mode, .int .i64 s.source, .bool s.hold, .int .i64 s.flags, .int .u64 s.epoch]
  obtain ⟨sb, htb⟩ : ∃ sb, wb.heap.size = sb := ⟨_, rfl⟩
  have hlt : r < sb := htb ▸ R_2.out.lt
  simp only [htb] at hq ⊢
  have ORDs := Lib.hid (show 0 ≤ r ∧ r < sb ∧ r < sb from ⟨ORD.out, hlt, htb ▸ R_2.out.lt⟩)
  have ee : Ex (fun _ => False) wb (wb.alloc (.cells #[.int .i64 s.mode, .int .i64 s.source, .bool s.hold, .int .i64 s.flags, .int .u64 s.epoch] 34)) := (Ex.refl (fun _ => False) wb).alloc (.cells #[.int .i64 s.mode, .int .i64 s.source, .bool s.hold, .int .i64 s.flags, .int .u64 s.epoch] 34)
  have R_3 := Lib.hid (R_2.out.ex ee (fun h => h))
  have S_3 := Lib.hid (hq)
  have X_3 := Lib.hid (X_2.out.trans ((Ex.refl _ wb).alloc (.cells #[.int .i64 s.mode, .int .i64 s.source, .bool s.hold, .int .i64 s.flags, .int .u64 s.epoch] 34)))
  clear ee R_2 X_2 hq hlt htb
  generalize wb.alloc (.cells #[.int .i64 s.mode, .int .i64 s.source, .bool s.hold, .int .i64 s.flags, .int .u64 s.epoch] 34) = wc at *
  have Sq0 := (S_3.out).cell 0
  have Sq1 := (S_3.out).cell 1
  have Sq2 := (S_3.out).cell 2
  have Sq3 := (S_3.out).cell 3
  have Sq4 := (S_3.out).cell 4
  simp only [List.getElem?_toArray, List.getElem?_cons_succ, List.getElem?_cons_zero] at Sq0 Sq1 Sq2 Sq3 Sq4
  go_wp2_with fail
  simp only [HR.out] at HRB
  refine (HRB.out wc).mono ?_; rintro e wd_ ⟨rfl, hb⟩
  clear Sq0 Sq1 Sq2 Sq3 Sq4
  have ee : Ex (fun _ => False) wc wd_ := Ex.of_below hb
  have R_4 := Lib.hid (R_3.out.ex ee (fun h => h))
  have S_4 := Lib.hid (S_3.out.ex ee (fun h => h))
  have X_4 := Lib.hid (X_3.out.trans (Ex.of_below hb))
  clear ee R_3 X_3 S_3 hb
  have Rq0 := (R_4.out).cell 0
  simp only [List.getElem?_toArray, List.getElem?_cons_succ, List.getElem?_cons_zero] at Rq0
  have Sq0 := (S_4.out).cell 0
  have Sq1 := (S_4.out).cell 1
  have Sq2 := (S_4.out).cell 2
  have Sq3 := (S_4.out).cell 3
  have Sq4 := (S_4.out).cell 4
  simp only [List.getElem?_toArray, List.getElem?_cons_succ, List.getElem?_cons_zero] at Sq0 Sq1 Sq2 Sq3 Sq4
  go_wp2_with fail
  refine (HD.out wd_ ⟨nx, sw, wd, 0, s0, er, (st + 1), at_⟩ s 0 R_4.out).mono ?_; rintro e wf ⟨rfl, ha, hx⟩
  clear Rq0 Sq0 Sq1 Sq2 Sq3 Sq4
  have ee : Ex (fun k => k = r) wd_ wf := hx
  have S_5 := Lib.hid (S_4.out.ex ee (by have o_ := ORDs.out; omega))
  have R_5 := Lib.hid (ha)
  have X_5 := Lib.hid (X_4.out.trans hx)
  clear ee R_4 X_4 S_4 ha hx
  go_wp2_with fail
  go_ret
  rw [HSV.out]
  exact ⟨rfl, R_5.out, X_5.out⟩
set_option maxRecDepth 100000 in
set_option maxHeartbeats 1000000 in
theorem RS_refuse (r : Nat) (p : Pl) (n v : Int) (k : Kd) (hkk : p.kd = k) (hp : p.Ok) (hrd : p.kd.isRead = false) (hv : 0 ≤ v ∧ v ≤ 18446744073709551615) (nx sw wd how : Int) (s0 : St) (er st at_ : Int) (w : World) (h : Blk w r 46 (RX.cells p n ⟨nx, sw, wd, 0, s0, er, st, at_⟩)) (hst : 0 ≤ st ∧ st < 1000) (hsw : 0 ≤ sw ∧ sw < 1000) (hnx : nx ≠ 2) (hr : rightB (partsOf v) = true) (hrk0 : Pl.rk p ≠ 2) (he : k.E (partsOf v) ≠ 0) :
    Calls Tryd.prog 22 #[.pointer (some ⟨r, 0, none⟩), .int .u64 v] w fun e w' => e = .returned (.int .u64 (v)) ∧ Blk w' r 46 (RX.cells p n ⟨nx, sw, wd, 1, partsOf v, k.E (partsOf v), st + 1, st + 1⟩) ∧ Ex (fun q => q = r) w w' := by
  obtain ⟨pk, so, mo, fr, fl⟩ := p
  obtain ⟨rk, hrk⟩ : ∃ rk, Pl.rk ⟨pk, so, mo, fr, fl⟩ = rk := ⟨_, rfl⟩
  have HA := Lib.hid (fun W y s hs h => Rafter_any r ⟨pk, so, mo, fr, fl⟩ hp hrd n y s hs W h)
  simp only [hkk] at HA
  clear hkk hrd hp
  have HD := Lib.hid (fun W y s e0 h => Rdone_any r ⟨pk, so, mo, fr, fl⟩ n y s e0 W h)
  have HRK := Lib.hid (show rk ≠ 2 from hrk ▸ hrk0)
  clear hrk0
  unfold RX.cells at h ⊢ HA HD
  simp only [hrk] at h ⊢ HA HD
  clear hrk
  unfold St.val at HA HD
  have HPT := Lib.hid (fun W => Parts_any v hv W)
  have HSO := Lib.hid (partsOf_ok hv)
  have HNX := Lib.hid hnx
  have HR := Lib.hid hr
  have HE := Lib.hid he
  have R0 := Lib.hid h
  have X0 := Lib.hid (Ex.refl (fun q => q = r) w)
  have ORD := Lib.hid (show 0 ≤ r from Nat.zero_le _)
  have w7 : wrap64 (st + 1) = st + 1 := by unfold wrap64; omega
  have w8 : wrap64 (sw + 1) = sw + 1 := by unfold wrap64; omega
  clear h hst hsw hnx hr he
  have Rq0 := (R0.out).cell 0
  have Rq9 := (R0.out).cell 9
  have Rq16 := (R0.out).cell 16
  simp only [List.getElem?_toArray, List.getElem?_cons_succ, List.getElem?_cons_zero] at Rq0 Rq9 Rq16
  have Rf16 := (R0.out).frozen 16
  go_enter Tryd.func22, Tryd.ntmps22
  go_upto_region 4 with fail
  clear Rq0 Rq9 Rq16 Rf16
  have bb := (R0.out.set_ 16 (.int .i64 (st + 1)))
  simp only [List.setIfInBounds_toArray, List.set_cons_succ, List.set_cons_zero] at bb
  have BB := Lib.hid bb
  clear bb
  have ee : Ex (fun k => k = r) w (w.setCell ⟨r, 16, none⟩ (.int .i64 (st + 1))) := ((Ex.refl (fun q => q = r) w).setCell (q := ⟨r, 16, none⟩) (.inl rfl) (.int .i64 (st + 1)))
  have R_1 := Lib.hid (BB.out)
  have X_1 := Lib.hid (X0.out.trans ee)
  clear ee R0 X0 BB
  generalize (w.setCell ⟨r, 16, none⟩ (.int .i64 (st + 1))) = wa at *
  have kn : (nx == 2) = false := by simpa using HNX.out
  have Rq0 := (R_1.out).cell 0
  have Rq6 := (R_1.out).cell 6
  simp only [List.getElem?_toArray, List.getElem?_cons_succ, List.getElem?_cons_zero] at Rq0 Rq6
  go_wp2_with fail
  refine (HPT.out wa).mono ?_; rintro e wb ⟨rfl, hb⟩
  clear Rq0 Rq6
  have ee : Ex (fun _ => False) wa wb := Ex.of_below hb
  have R_2 := Lib.hid (R_1.out.ex ee (fun h => h))
  have X_2 := Lib.hid (X_1.out.trans (Ex.of_below hb))
  clear ee R_1 X_1 hb
  unfold St.val
  have HRB := Lib.hid (fun W => Right_any (partsOf v) HSO.out W)
  obtain ⟨s, hsv⟩ : ∃ s, partsOf v = s := ⟨_, rfl⟩
  have HSV := Lib.hid hsv
  simp only [hsv] at HSO HRB ⊢
  simp only [hsv] at HR HE
  clear hsv
  unfold St.val at HRB
  go_upto_region 16 with fail
  have hq := Blk.new wb 34 #[.int .i64 s.mode, .int .i64 s.source, .bool s.hold, .int .i64 s.flags, .int .u64 s.epoch]
  obtain ⟨sb, htb⟩ : ∃ sb, wb.heap.size = sb := ⟨_, rfl⟩
  have hlt : r < sb := htb ▸ R_2.out.lt
  simp only [htb] at hq ⊢
  have ORDs := Lib.hid (show 0 ≤ r ∧ r < sb ∧ r < sb from ⟨ORD.out, hlt, htb ▸ R_2.out.lt⟩)
  have ee : Ex (fun _ => False) wb (wb.alloc (.cells #[.int .i64 s.mode, .int .i64 s.source, .bool s.hold, .int .i64 s.flags, .int .u64 s.epoch] 34)) := (Ex.refl (fun _ => False) wb).alloc (.cells #[.int .i64 s.mode, .int .i64 s.source, .bool s.hold, .int .i64 s.flags, .int .u64 s.epoch] 34)
  have R_3 := Lib.hid (R_2.out.ex ee (fun h => h))
  have S_3 := Lib.hid (hq)
  have X_3 := Lib.hid (X_2.out.trans ((Ex.refl _ wb).alloc (.cells #[.int .i64 s.mode, .int .i64 s.source, .bool s.hold, .int .i64 s.flags, .int .u64 s.epoch] 34)))
  clear ee R_2 X_2 hq hlt htb
  generalize wb.alloc (.cells #[.int .i64 s.mode, .int .i64 s.source, .bool s.hold, .int .i64 s.flags, .int .u64 s.epoch] 34) = wc at *
  have Sq0 := (S_3.out).cell 0
  have Sq1 := (S_3.out).cell 1
  have Sq2 := (S_3.out).cell 2
  have Sq3 := (S_3.out).cell 3
  have Sq4 := (S_3.out).cell 4
  simp only [List.getElem?_toArray, List.getElem?_cons_succ, List.getElem?_cons_zero] at Sq0 Sq1 Sq2 Sq3 Sq4
  go_wp2_with fail
  simp only [HR.out] at HRB
  refine (HRB.out wc).mono ?_; rintro e wd_ ⟨rfl, hb⟩
  clear Sq0 Sq1 Sq2 Sq3 Sq4
  have ee : Ex (fun _ => False) wc wd_ := Ex.of_below hb
  have R_4 := Lib.hid (R_3.out.ex ee (fun h => h))
  have S_4 := Lib.hid (S_3.out.ex ee (fun h => h))
  have X_4 := Lib.hid (X_3.out.trans (Ex.of_below hb))
  clear ee R_3 X_3 S_3 hb
  have kr : (rk == 2) = false := by simpa using HRK.out
  have Rq0 := (R_4.out).cell 0
  simp only [List.getElem?_toArray, List.getElem?_cons_succ, List.getElem?_cons_zero] at Rq0
  have Sq0 := (S_4.out).cell 0
  have Sq1 := (S_4.out).cell 1
  have Sq2 := (S_4.out).cell 2
  have Sq3 := (S_4.out).cell 3
  have Sq4 := (S_4.out).cell 4
  simp only [List.getElem?_toArray, List.getElem?_cons_succ, List.getElem?_cons_zero] at Sq0 Sq1 Sq2 Sq3 Sq4
  go_wp2_with fail
  have HAA := Lib.hid (HA.out wd_ ⟨nx, sw, wd, 0, s0, er, st + 1, at_⟩ s HSO.out R_4.out)
  obtain ⟨E9, hE9⟩ : ∃ E9, k.E s = E9 := ⟨_, rfl⟩
  have k9 : (E9 != 0) = true := by rw [← hE9]; simpa using HE.out
  rw [hE9] at HAA
  have HE9 := Lib.hid hE9
  clear hE9
  obtain ⟨t9, ht9⟩ : ∃ t9, k.S s = t9 := ⟨_, rfl⟩
  rw [ht9] at HAA
  clear ht9
  refine (HAA.out).mono ?_; rintro e we ⟨rfl, hb⟩
  clear Rq0 Sq0 Sq1 Sq2 Sq3 Sq4
  have ee : Ex (fun _ => False) wd_ we := Ex.of_below hb
  have R_5 := Lib.hid (R_4.out.ex ee (fun h => h))
  have S_5 := Lib.hid (S_4.out.ex ee (fun h => h))
  have X_5 := Lib.hid (X_4.out.trans (Ex.of_below hb))
  clear ee R_4 X_4 S_4 hb HAA
  go_upto_region 24 with fail
  have hq := Blk.new we 34 #[.int .i64 t9.mode, .int .i64 t9.source, .bool t9.hold, .int .i64 t9.flags, .int .u64 t9.epoch]
  obtain ⟨tb, htb⟩ : ∃ tb, we.heap.size = tb := ⟨_, rfl⟩
  have hlt : r < tb := htb ▸ R_5.out.lt
  simp only [htb] at hq ⊢
  have ORDt := Lib.hid (show (0 ≤ r ∧ r < sb ∧ r < sb) ∧ r < tb ∧ sb < tb from ⟨ORDs.out, hlt, htb ▸ S_5.out.lt⟩)
  have ee : Ex (fun _ => False) we (we.alloc (.cells #[.int .i64 t9.mode, .int .i64 t9.source, .bool t9.hold, .int .i64 t9.flags, .int .u64 t9.epoch] 34)) := (Ex.refl (fun _ => False) we).alloc (.cells #[.int .i64 t9.mode, .int .i64 t9.source, .bool t9.hold, .int .i64 t9.flags, .int .u64 t9.epoch] 34)
  have R_6 := Lib.hid (R_5.out.ex ee (fun h => h))
  have S_6 := Lib.hid (S_5.out.ex ee (fun h => h))
  have T_6 := Lib.hid (hq)
  have X_6 := Lib.hid (X_5.out.trans ((Ex.refl _ we).alloc (.cells #[.int .i64 t9.mode, .int .i64 t9.source, .bool t9.hold, .int .i64 t9.flags, .int .u64 t9.epoch] 34)))
  clear ee R_5 X_5 S_5 hq hlt htb
  generalize we.alloc (.cells #[.int .i64 t9.mode, .int .i64 t9.source, .bool t9.hold, .int .i64 t9.flags, .int .u64 t9.epoch] 34) = wf at *
  have Sq0 := (S_6.out).cell 0
  have Sq1 := (S_6.out).cell 1
  have Sq2 := (S_6.out).cell 2
  have Sq3 := (S_6.out).cell 3
  have Sq4 := (S_6.out).cell 4
  simp only [List.getElem?_toArray, List.getElem?_cons_succ, List.getElem?_cons_zero] at Sq0 Sq1 Sq2 Sq3 Sq4
  go_wp2_with fail
  refine (HD.out wf ⟨nx, sw, wd, 0, s0, er, (st + 1), at_⟩ s E9 R_6.out).mono ?_; rintro e wg ⟨rfl, ha, hx⟩
  clear Sq0 Sq1 Sq2 Sq3 Sq4
  have ee : Ex (fun k => k = r) wf wg := hx
  have S_7 := Lib.hid (S_6.out.ex ee (by have o_ := ORDt.out; omega))
  have T_7 := Lib.hid (T_6.out.ex ee (by have o_ := ORDt.out; omega))
  have R_7 := Lib.hid (ha)
  have X_7 := Lib.hid (X_6.out.trans hx)
  clear ee R_6 X_6 S_6 T_6 ha hx
  go_wp2_with fail
  go_ret
  rw [HSV.out, HE9.out]
  exact ⟨rfl, R_7.out, X_7.out⟩
set_option maxRecDepth 100000 in
set_option maxHeartbeats 1000000 in
theorem RS_take (r : Nat) (p : Pl) (n v : Int) (k : Kd) (hkk : p.kd = k) (hp : p.Ok) (hrd : p.kd.isRead = false) (hv : 0 ≤ v ∧ v ≤ 18446744073709551615) (nx sw wd how : Int) (s0 : St) (er st at_ : Int) (w : World) (h : Blk w r 46 (RX.cells p n ⟨nx, sw, wd, 0, s0, er, st, at_⟩)) (hst : 0 ≤ st ∧ st < 1000) (hsw : 0 ≤ sw ∧ sw < 1000) (hnx : nx ≠ 2) (hr : rightB (partsOf v) = true) (hrk0 : Pl.rk p ≠ 2) (he : k.E (partsOf v) = 0) :
    Calls Tryd.prog 22 #[.pointer (some ⟨r, 0, none⟩), .int .u64 v] w fun e w' => e = .returned (.int .u64 (v)) ∧ Blk w' r 46 (RX.cells p n ⟨2, sw, v, 0, s0, er, st + 1, at_⟩) ∧ Ex (fun q => q = r) w w' := by
  obtain ⟨pk, so, mo, fr, fl⟩ := p
  obtain ⟨rk, hrk⟩ : ∃ rk, Pl.rk ⟨pk, so, mo, fr, fl⟩ = rk := ⟨_, rfl⟩
  have HA := Lib.hid (fun W y s hs h => Rafter_any r ⟨pk, so, mo, fr, fl⟩ hp hrd n y s hs W h)
  simp only [hkk] at HA
  clear hkk hrd hp
  have HD := Lib.hid (fun W y s e0 h => Rdone_any r ⟨pk, so, mo, fr, fl⟩ n y s e0 W h)
  have HRK := Lib.hid (show rk ≠ 2 from hrk ▸ hrk0)
  clear hrk0
  unfold RX.cells at h ⊢ HA HD
  simp only [hrk] at h ⊢ HA HD
  clear hrk
  unfold St.val at HA HD
  have HPT := Lib.hid (fun W => Parts_any v hv W)
  have HSO := Lib.hid (partsOf_ok hv)
  have HNX := Lib.hid hnx
  have HR := Lib.hid hr
  have HE := Lib.hid he
  have R0 := Lib.hid h
  have X0 := Lib.hid (Ex.refl (fun q => q = r) w)
  have ORD := Lib.hid (show 0 ≤ r from Nat.zero_le _)
  have w7 : wrap64 (st + 1) = st + 1 := by unfold wrap64; omega
  have w8 : wrap64 (sw + 1) = sw + 1 := by unfold wrap64; omega
  clear h hst hsw hnx hr he
  have Rq0 := (R0.out).cell 0
  have Rq9 := (R0.out).cell 9
  have Rq16 := (R0.out).cell 16
  simp only [List.getElem?_toArray, List.getElem?_cons_succ, List.getElem?_cons_zero] at Rq0 Rq9 Rq16
  have Rf16 := (R0.out).frozen 16
  go_enter Tryd.func22, Tryd.ntmps22
  go_upto_region 4 with fail
  clear Rq0 Rq9 Rq16 Rf16
  have bb := (R0.out.set_ 16 (.int .i64 (st + 1)))
  simp only [List.setIfInBounds_toArray, List.set_cons_succ, List.set_cons_zero] at bb
  have BB := Lib.hid bb
  clear bb
  have ee : Ex (fun k => k = r) w (w.setCell ⟨r, 16, none⟩ (.int .i64 (st + 1))) := ((Ex.refl (fun q => q = r) w).setCell (q := ⟨r, 16, none⟩) (.inl rfl) (.int .i64 (st + 1)))
  have R_1 := Lib.hid (BB.out)
  have X_1 := Lib.hid (X0.out.trans ee)
  clear ee R0 X0 BB
  generalize (w.setCell ⟨r, 16, none⟩ (.int .i64 (st + 1))) = wa at *
  have kn : (nx == 2) = false := by simpa using HNX.out
  have Rq0 := (R_1.out).cell 0
  have Rq6 := (R_1.out).cell 6
  simp only [List.getElem?_toArray, List.getElem?_cons_succ, List.getElem?_cons_zero] at Rq0 Rq6
  go_wp2_with fail
  refine (HPT.out wa).mono ?_; rintro e wb ⟨rfl, hb⟩
  clear Rq0 Rq6
  have ee : Ex (fun _ => False) wa wb := Ex.of_below hb
  have R_2 := Lib.hid (R_1.out.ex ee (fun h => h))
  have X_2 := Lib.hid (X_1.out.trans (Ex.of_below hb))
  clear ee R_1 X_1 hb
  unfold St.val
  have HRB := Lib.hid (fun W => Right_any (partsOf v) HSO.out W)
  obtain ⟨s, hsv⟩ : ∃ s, partsOf v = s := ⟨_, rfl⟩
  have HSV := Lib.hid hsv
  simp only [hsv] at HSO HRB ⊢
  simp only [hsv] at HR HE
  clear hsv
  unfold St.val at HRB
  go_upto_region 16 with fail
  have hq := Blk.new wb 34 #[.int .i64 s.mode, .int .i64 s.source, .bool s.hold, .int .i64 s.flags, .int .u64 s.epoch]
  obtain ⟨sb, htb⟩ : ∃ sb, wb.heap.size = sb := ⟨_, rfl⟩
  have hlt : r < sb := htb ▸ R_2.out.lt
  simp only [htb] at hq ⊢
  have ORDs := Lib.hid (show 0 ≤ r ∧ r < sb ∧ r < sb from ⟨ORD.out, hlt, htb ▸ R_2.out.lt⟩)
  have ee : Ex (fun _ => False) wb (wb.alloc (.cells #[.int .i64 s.mode, .int .i64 s.source, .bool s.hold, .int .i64 s.flags, .int .u64 s.epoch] 34)) := (Ex.refl (fun _ => False) wb).alloc (.cells #[.int .i64 s.mode, .int .i64 s.source, .bool s.hold, .int .i64 s.flags, .int .u64 s.epoch] 34)
  have R_3 := Lib.hid (R_2.out.ex ee (fun h => h))
  have S_3 := Lib.hid (hq)
  have X_3 := Lib.hid (X_2.out.trans ((Ex.refl _ wb).alloc (.cells #[.int .i64 s.mode, .int .i64 s.source, .bool s.hold, .int .i64 s.flags, .int .u64 s.epoch] 34)))
  clear ee R_2 X_2 hq hlt htb
  generalize wb.alloc (.cells #[.int .i64 s.mode, .int .i64 s.source, .bool s.hold, .int .i64 s.flags, .int .u64 s.epoch] 34) = wc at *
  have Sq0 := (S_3.out).cell 0
  have Sq1 := (S_3.out).cell 1
  have Sq2 := (S_3.out).cell 2
  have Sq3 := (S_3.out).cell 3
  have Sq4 := (S_3.out).cell 4
  simp only [List.getElem?_toArray, List.getElem?_cons_succ, List.getElem?_cons_zero] at Sq0 Sq1 Sq2 Sq3 Sq4
  go_wp2_with fail
  simp only [HR.out] at HRB
  refine (HRB.out wc).mono ?_; rintro e wd_ ⟨rfl, hb⟩
  clear Sq0 Sq1 Sq2 Sq3 Sq4
  have ee : Ex (fun _ => False) wc wd_ := Ex.of_below hb
  have R_4 := Lib.hid (R_3.out.ex ee (fun h => h))
  have S_4 := Lib.hid (S_3.out.ex ee (fun h => h))
  have X_4 := Lib.hid (X_3.out.trans (Ex.of_below hb))
  clear ee R_3 X_3 S_3 hb
  have kr : (rk == 2) = false := by simpa using HRK.out
  have Rq0 := (R_4.out).cell 0
  simp only [List.getElem?_toArray, List.getElem?_cons_succ, List.getElem?_cons_zero] at Rq0
  have Sq0 := (S_4.out).cell 0
  have Sq1 := (S_4.out).cell 1
  have Sq2 := (S_4.out).cell 2
  have Sq3 := (S_4.out).cell 3
  have Sq4 := (S_4.out).cell 4
  simp only [List.getElem?_toArray, List.getElem?_cons_succ, List.getElem?_cons_zero] at Sq0 Sq1 Sq2 Sq3 Sq4
  go_wp2_with fail
  have HAA := Lib.hid (HA.out wd_ ⟨nx, sw, wd, 0, s0, er, st + 1, at_⟩ s HSO.out R_4.out)
  rw [HE.out] at HAA
  obtain ⟨t9, ht9⟩ : ∃ t9, k.S s = t9 := ⟨_, rfl⟩
  rw [ht9] at HAA
  clear ht9
  refine (HAA.out).mono ?_; rintro e we ⟨rfl, hb⟩
  clear Rq0 Sq0 Sq1 Sq2 Sq3 Sq4
  have ee : Ex (fun _ => False) wd_ we := Ex.of_below hb
  have R_5 := Lib.hid (R_4.out.ex ee (fun h => h))
  have S_5 := Lib.hid (S_4.out.ex ee (fun h => h))
  have X_5 := Lib.hid (X_4.out.trans (Ex.of_below hb))
  clear ee R_4 X_4 S_4 hb HAA
  go_upto_region 24 with fail
  have hq := Blk.new we 34 #[.int .i64 t9.mode, .int .i64 t9.source, .bool t9.hold, .int .i64 t9.flags, .int .u64 t9.epoch]
  obtain ⟨tb, htb⟩ : ∃ tb, we.heap.size = tb := ⟨_, rfl⟩
  have hlt : r < tb := htb ▸ R_5.out.lt
  simp only [htb] at hq ⊢
  have ORDt := Lib.hid (show (0 ≤ r ∧ r < sb ∧ r < sb) ∧ r < tb ∧ sb < tb from ⟨ORDs.out, hlt, htb ▸ S_5.out.lt⟩)
  have ee : Ex (fun _ => False) we (we.alloc (.cells #[.int .i64 t9.mode, .int .i64 t9.source, .bool t9.hold, .int .i64 t9.flags, .int .u64 t9.epoch] 34)) := (Ex.refl (fun _ => False) we).alloc (.cells #[.int .i64 t9.mode, .int .i64 t9.source, .bool t9.hold, .int .i64 t9.flags, .int .u64 t9.epoch] 34)
  have R_6 := Lib.hid (R_5.out.ex ee (fun h => h))
  have S_6 := Lib.hid (S_5.out.ex ee (fun h => h))
  have T_6 := Lib.hid (hq)
  have X_6 := Lib.hid (X_5.out.trans ((Ex.refl _ we).alloc (.cells #[.int .i64 t9.mode, .int .i64 t9.source, .bool t9.hold, .int .i64 t9.flags, .int .u64 t9.epoch] 34)))
  clear ee R_5 X_5 S_5 hq hlt htb
  generalize we.alloc (.cells #[.int .i64 t9.mode, .int .i64 t9.source, .bool t9.hold, .int .i64 t9.flags, .int .u64 t9.epoch] 34) = wf at *
  have Rq0 := (R_6.out).cell 0
  have Rq6 := (R_6.out).cell 6
  have Rq8 := (R_6.out).cell 8
  simp only [List.getElem?_toArray, List.getElem?_cons_succ, List.getElem?_cons_zero] at Rq0 Rq6 Rq8
  have Rf6 := (R_6.out).frozen 6
  have Rf8 := (R_6.out).frozen 8
  go_wp2_with fail
  clear Rq0 Rq6 Rq8 Rf6 Rf8
  have bb := ((R_6.out.set_ 8 (.int .u64 v)).set_ 6 (.int .i64 2))
  simp only [List.setIfInBounds_toArray, List.set_cons_succ, List.set_cons_zero] at bb
  have BB := Lib.hid bb
  clear bb
  have ee : Ex (fun k => k = r) wf ((wf.setCell ⟨r, 8, none⟩ (.int .u64 v)).setCell ⟨r, 6, none⟩ (.int .i64 2)) := (((Ex.refl (fun q => q = r) wf).setCell (q := ⟨r, 8, none⟩) (.inl rfl) (.int .u64 v)).setCell (q := ⟨r, 6, none⟩) (.inl rfl) (.int .i64 2))
  have S_7 := Lib.hid (S_6.out.ex ee (by have o_ := ORDt.out; omega))
  have T_7 := Lib.hid (T_6.out.ex ee (by have o_ := ORDt.out; omega))
  have R_7 := Lib.hid (BB.out)
  have X_7 := Lib.hid (X_6.out.trans ee)
  clear ee R_6 X_6 S_6 T_6 BB
  generalize ((wf.setCell ⟨r, 8, none⟩ (.int .u64 v)).setCell ⟨r, 6, none⟩ (.int .i64 2)) = wg at *
  go_ret
  exact ⟨rfl, R_7.out, X_7.out⟩
end Go.Proofs.YtkmlikohgilnbaaDoor.Arb
