/-
  What the arbiter's operation tells, and what a step of it makes. Printed by wip/tools/mkasg.py. Conditions stand at each. By an AI agent.
-/
import Derived.Test.YtkmlikohgilnbaaDoorArbS
namespace Go.Proofs.YtkmlikohgilnbaaDoor.Arb
set_option linter.unusedVariables false
set_option linter.unusedSimpArgs false
open Go Go.RowKit Go.Proofs.YtkmlikohgilnbaaDoor.Base Go.Proofs.YtkmlikohgilnbaaDoor.Reg
open Go.Proofs.YtkmlikohgilnbaaDoor.Bank (BankAt inW wordF setF tickF errF casB errF_in errF_out wordF_in wordF_out tickF_in tickF_out setF_in setF_out casB_out casB_in wordF_range Load_any CAS_any Load_nil)
open Go.Proofs.YtkmlikohgilnbaaDoor.Modes (Tab)
set_option maxRecDepth 100000 in
set_option maxHeartbeats 1000000 in
theorem Got_any (o b : Nat) (k : Kd) (at_ : Int) (x : AX) (w : World) (h : ArbAt w o b k at_ x) :
    Calls Tryd.prog 13 #[.pointer (some ⟨o, 0, none⟩)] w fun e w' => e = .returned (.tuple #[x.st.val, .int .i64 x.err]) ∧ Below w.heap.size w w' := by
  unfold St.val
  have B0 := Lib.hid (show Blk (w.alloc (.cells #[.int .i64 0, .int .i64 0, .bool false, .int .i64 0, .int .u64 0] 34)) o 90 #[.int .i64 at_, .int .i64 x.left, (fnV k b), .bool x.swaps, .int .u64 x.word, .int .i64 x.next.mode, .int .i64 x.next.source, .bool x.next.hold, .int .i64 x.next.flags, .int .u64 x.next.epoch, .int .i64 x.how, .int .i64 x.st.mode, .int .i64 x.st.source, .bool x.st.hold, .int .i64 x.st.flags, .int .u64 x.st.epoch, .int .i64 x.err, .int .i64 x.steps] from h.head.alloc _)
  have S0 := Lib.hid (Blk.new w 34 #[.int .i64 0, .int .i64 0, .bool false, .int .i64 0, .int .u64 0])
  have L0 := Lib.hid ((Below.refl w.heap.size w).alloc (Nat.le_refl _) (.cells #[.int .i64 0, .int .i64 0, .bool false, .int .i64 0, .int .u64 0] 34))
  have ORD := Lib.hid (show o < w.heap.size from Blk.lt h.head)
  clear h
  go_enter Tryd.func13, Tryd.ntmps13
  go_upto_region 1 with fail
  generalize (w.alloc (.cells #[.int .i64 0, .int .i64 0, .bool false, .int .i64 0, .int .u64 0] 34)) = w1 at *
  obtain ⟨sb, hsb⟩ : ∃ sb, sb = w.heap.size := ⟨_, rfl⟩
  simp only [← hsb] at S0 L0 ORD ⊢
  have ORD1 := Lib.hid (show o < sb by have := ORD.out; omega)
  have HSB := Lib.hid (show w.heap.size ≤ sb from Nat.le_of_eq hsb.symm)
  clear ORD hsb
  have Bq0 := (B0.out).cell 0
  simp only [List.getElem?_toArray, List.getElem?_cons_succ, List.getElem?_cons_zero] at Bq0
  go_upto_region 3 with fail
  have hne : Nonempty (Held (fun W : World => Blk W o 90 #[.int .i64 at_, .int .i64 x.left, (fnV k b), .bool x.swaps, .int .u64 x.word, .int .i64 x.next.mode, .int .i64 x.next.source, .bool x.next.hold, .int .i64 x.next.flags, .int .u64 x.next.epoch, .int .i64 x.how, .int .i64 x.st.mode, .int .i64 x.st.source, .bool x.st.hold, .int .i64 x.st.flags, .int .u64 x.st.epoch, .int .i64 x.err, .int .i64 x.steps])) := ⟨⟨w1, B0.out⟩⟩
  have p0 : ∀ y : Held (fun W : World => Blk W o 90 #[.int .i64 at_, .int .i64 x.left, (fnV k b), .bool x.swaps, .int .u64 x.word, .int .i64 x.next.mode, .int .i64 x.next.source, .bool x.next.hold, .int .i64 x.next.flags, .int .u64 x.next.epoch, .int .i64 x.how, .int .i64 x.st.mode, .int .i64 x.st.source, .bool x.st.hold, .int .i64 x.st.flags, .int .u64 x.st.epoch, .int .i64 x.err, .int .i64 x.steps]), y.w.cell? ⟨o, 0, none⟩ = some (.int .i64 at_) := fun y => y.ok.cell 0
  have p11 : ∀ y : Held (fun W : World => Blk W o 90 #[.int .i64 at_, .int .i64 x.left, (fnV k b), .bool x.swaps, .int .u64 x.word, .int .i64 x.next.mode, .int .i64 x.next.source, .bool x.next.hold, .int .i64 x.next.flags, .int .u64 x.next.epoch, .int .i64 x.how, .int .i64 x.st.mode, .int .i64 x.st.source, .bool x.st.hold, .int .i64 x.st.flags, .int .u64 x.st.epoch, .int .i64 x.err, .int .i64 x.steps]), y.w.cell? ⟨o, 11, none⟩ = some (.int .i64 x.st.mode) := fun y => y.ok.cell 11
  have p12 : ∀ y : Held (fun W : World => Blk W o 90 #[.int .i64 at_, .int .i64 x.left, (fnV k b), .bool x.swaps, .int .u64 x.word, .int .i64 x.next.mode, .int .i64 x.next.source, .bool x.next.hold, .int .i64 x.next.flags, .int .u64 x.next.epoch, .int .i64 x.how, .int .i64 x.st.mode, .int .i64 x.st.source, .bool x.st.hold, .int .i64 x.st.flags, .int .u64 x.st.epoch, .int .i64 x.err, .int .i64 x.steps]), y.w.cell? ⟨o, 12, none⟩ = some (.int .i64 x.st.source) := fun y => y.ok.cell 12
  have p13 : ∀ y : Held (fun W : World => Blk W o 90 #[.int .i64 at_, .int .i64 x.left, (fnV k b), .bool x.swaps, .int .u64 x.word, .int .i64 x.next.mode, .int .i64 x.next.source, .bool x.next.hold, .int .i64 x.next.flags, .int .u64 x.next.epoch, .int .i64 x.how, .int .i64 x.st.mode, .int .i64 x.st.source, .bool x.st.hold, .int .i64 x.st.flags, .int .u64 x.st.epoch, .int .i64 x.err, .int .i64 x.steps]), y.w.cell? ⟨o, 13, none⟩ = some (.bool x.st.hold) := fun y => y.ok.cell 13
  have p14 : ∀ y : Held (fun W : World => Blk W o 90 #[.int .i64 at_, .int .i64 x.left, (fnV k b), .bool x.swaps, .int .u64 x.word, .int .i64 x.next.mode, .int .i64 x.next.source, .bool x.next.hold, .int .i64 x.next.flags, .int .u64 x.next.epoch, .int .i64 x.how, .int .i64 x.st.mode, .int .i64 x.st.source, .bool x.st.hold, .int .i64 x.st.flags, .int .u64 x.st.epoch, .int .i64 x.err, .int .i64 x.steps]), y.w.cell? ⟨o, 14, none⟩ = some (.int .i64 x.st.flags) := fun y => y.ok.cell 14
  have p15 : ∀ y : Held (fun W : World => Blk W o 90 #[.int .i64 at_, .int .i64 x.left, (fnV k b), .bool x.swaps, .int .u64 x.word, .int .i64 x.next.mode, .int .i64 x.next.source, .bool x.next.hold, .int .i64 x.next.flags, .int .u64 x.next.epoch, .int .i64 x.how, .int .i64 x.st.mode, .int .i64 x.st.source, .bool x.st.hold, .int .i64 x.st.flags, .int .u64 x.st.epoch, .int .i64 x.err, .int .i64 x.steps]), y.w.cell? ⟨o, 15, none⟩ = some (.int .u64 x.st.epoch) := fun y => y.ok.cell 15
  have p16 : ∀ y : Held (fun W : World => Blk W o 90 #[.int .i64 at_, .int .i64 x.left, (fnV k b), .bool x.swaps, .int .u64 x.word, .int .i64 x.next.mode, .int .i64 x.next.source, .bool x.next.hold, .int .i64 x.next.flags, .int .u64 x.next.epoch, .int .i64 x.how, .int .i64 x.st.mode, .int .i64 x.st.source, .bool x.st.hold, .int .i64 x.st.flags, .int .u64 x.st.epoch, .int .i64 x.err, .int .i64 x.steps]), y.w.cell? ⟨o, 16, none⟩ = some (.int .i64 x.err) := fun y => y.ok.cell 16
  refine drawn_bars (S := (fun W : World => Blk W o 90 #[.int .i64 at_, .int .i64 x.left, (fnV k b), .bool x.swaps, .int .u64 x.word, .int .i64 x.next.mode, .int .i64 x.next.source, .bool x.next.hold, .int .i64 x.next.flags, .int .u64 x.next.epoch, .int .i64 x.how, .int .i64 x.st.mode, .int .i64 x.st.source, .bool x.st.hold, .int .i64 x.st.flags, .int .u64 x.st.epoch, .int .i64 x.err, .int .i64 x.steps])) [([0, 1, 2, 3, 4, 5, 6, 7], 8)] [9] (by kernel_rfl) (by kernel_rfl) (by kernel_rfl) rfl B0.out ?_
  refine Phased.go ?_
  simp only [pick, List.map_cons, List.map_nil, List.getElem?_cons_zero, List.getElem?_cons_succ, Option.getD_some]
  repeat (go_big_quiet_step (fail))
  refine wpQuiet_nil ?_
  have L1 := Lib.hid L0.out.drew
  clear L0
  clear Bq0
  have ee : Ex (fun _ => False) w1 w1.drew := (Ex.refl _ w1).drew
  have B_1 := Lib.hid (B0.out.ex ee (fun h => h))
  have S_1 := Lib.hid (S0.out.ex ee (fun h => h))
  clear ee B0 S0
  generalize w1.drew = w2 at *
  have Sq0 := (S_1.out).cell 0
  have Sq1 := (S_1.out).cell 1
  have Sq2 := (S_1.out).cell 2
  have Sq3 := (S_1.out).cell 3
  have Sq4 := (S_1.out).cell 4
  simp only [List.getElem?_toArray, List.getElem?_cons_succ, List.getElem?_cons_zero] at Sq0 Sq1 Sq2 Sq3 Sq4
  have Sf0 := (S_1.out).frozen 0
  have Sf1 := (S_1.out).frozen 1
  have Sf2 := (S_1.out).frozen 2
  have Sf3 := (S_1.out).frozen 3
  have Sf4 := (S_1.out).frozen 4
  go_wp2_with fail
  clear Sq0 Sq1 Sq2 Sq3 Sq4 Sf0 Sf1 Sf2 Sf3 Sf4
  have hb := set5_blk (x0 := .int .i64 x.st.mode) (x1 := .int .i64 x.st.source) (x2 := .bool x.st.hold) (x3 := .int .i64 x.st.flags) (x4 := .int .u64 x.st.epoch) S_1.out
  have LB := Lib.hid (set5_below (x0 := .int .i64 x.st.mode) (x1 := .int .i64 x.st.source) (x2 := .bool x.st.hold) (x3 := .int .i64 x.st.flags) (x4 := .int .u64 x.st.epoch) L1.out (Nat.le_refl _))
  have S9 := Lib.hid hb
  clear hb L1
  have ee : Ex (fun k => k = sb) w2 (((((w2.setCell ⟨sb, 0, none⟩ (.int .i64 x.st.mode)).setCell ⟨sb, 1, none⟩ (.int .i64 x.st.source)).setCell ⟨sb, 2, none⟩ (.bool x.st.hold)).setCell ⟨sb, 3, none⟩ (.int .i64 x.st.flags)).setCell ⟨sb, 4, none⟩ (.int .u64 x.st.epoch)) := ((((((Ex.refl (fun q => q = sb) w2).setCell (q := ⟨sb, 0, none⟩) (.inl rfl) (.int .i64 x.st.mode)).setCell (q := ⟨sb, 1, none⟩) (.inl rfl) (.int .i64 x.st.source)).setCell (q := ⟨sb, 2, none⟩) (.inl rfl) (.bool x.st.hold)).setCell (q := ⟨sb, 3, none⟩) (.inl rfl) (.int .i64 x.st.flags)).setCell (q := ⟨sb, 4, none⟩) (.inl rfl) (.int .u64 x.st.epoch))
  have B_2 := Lib.hid (B_1.out.ex ee (by have o_ := ORD1.out; omega))
  have S_2 := Lib.hid (S9.out)
  clear ee B_1 S_1 S9
  generalize (((((w2.setCell ⟨sb, 0, none⟩ (.int .i64 x.st.mode)).setCell ⟨sb, 1, none⟩ (.int .i64 x.st.source)).setCell ⟨sb, 2, none⟩ (.bool x.st.hold)).setCell ⟨sb, 3, none⟩ (.int .i64 x.st.flags)).setCell ⟨sb, 4, none⟩ (.int .u64 x.st.epoch)) = w3 at *
  refine behind_normal ⟨(fun W : World => Blk W o 90 #[.int .i64 at_, .int .i64 x.left, (fnV k b), .bool x.swaps, .int .u64 x.word, .int .i64 x.next.mode, .int .i64 x.next.source, .bool x.next.hold, .int .i64 x.next.flags, .int .u64 x.next.epoch, .int .i64 x.how, .int .i64 x.st.mode, .int .i64 x.st.source, .bool x.st.hold, .int .i64 x.st.flags, .int .u64 x.st.epoch, .int .i64 x.err, .int .i64 x.steps]), fun W h => h, B_2.out, ?_⟩
  refine Phased.end_ ?_
  have hne5 : Nonempty (Held (fun W => W = w3)) := ⟨⟨_, rfl⟩⟩
  simp only [pick, List.map_cons, List.map_nil, List.getElem?_cons_zero, List.getElem?_cons_succ, Option.getD_some]
  repeat (go_big_quiet_step (fail))
  refine wpQuiet_nil ?_
  clear hne hne5 p0 p11 p12 p13 p14 p15 p16
  go_wp2_with fail
  exact bodyPost_ret (res_cell_tmp (fn := Tryd.f13) rfl _ _ sb _ _ _ _ rfl S_2.out Tryd.underlying34 rfl (by kernel_rfl)) rfl ⟨rfl, LB.out.mono HSB.out⟩
set_option maxRecDepth 100000 in
set_option maxHeartbeats 1000000 in
theorem Got_nil (w : World) :
    Calls Tryd.prog 13 #[.pointer none] w fun e w' => e = .returned (.tuple #[St.zero.val, .int .i64 2]) ∧ Below w.heap.size w w' := by
  unfold St.val
  simp only [St.zero]
  have S0 := Lib.hid (Blk.new w 34 #[.int .i64 0, .int .i64 0, .bool false, .int .i64 0, .int .u64 0])
  have L0 := Lib.hid ((Below.refl w.heap.size w).alloc (Nat.le_refl _) (.cells #[.int .i64 0, .int .i64 0, .bool false, .int .i64 0, .int .u64 0] 34))
  go_enter Tryd.func13, Tryd.ntmps13
  go_upto_region 1 with fail
  generalize (w.alloc (.cells #[.int .i64 0, .int .i64 0, .bool false, .int .i64 0, .int .u64 0] 34)) = w1 at *
  have Sq0 := (S0.out).cell 0
  have Sq1 := (S0.out).cell 1
  have Sq2 := (S0.out).cell 2
  have Sq3 := (S0.out).cell 3
  have Sq4 := (S0.out).cell 4
  simp only [List.getElem?_toArray, List.getElem?_cons_succ, List.getElem?_cons_zero] at Sq0 Sq1 Sq2 Sq3 Sq4
  have Sf0 := (S0.out).frozen 0
  have Sf1 := (S0.out).frozen 1
  have Sf2 := (S0.out).frozen 2
  have Sf3 := (S0.out).frozen 3
  have Sf4 := (S0.out).frozen 4
  go_wp2_with fail
  clear Sq0 Sq1 Sq2 Sq3 Sq4 Sf0 Sf1 Sf2 Sf3 Sf4
  have hb := set5_blk (x0 := .int .i64 0) (x1 := .int .i64 0) (x2 := .bool false) (x3 := .int .i64 0) (x4 := .int .u64 0) S0.out
  have LB := Lib.hid (set5_below (x0 := .int .i64 0) (x1 := .int .i64 0) (x2 := .bool false) (x3 := .int .i64 0) (x4 := .int .u64 0) L0.out (Nat.le_refl _))
  exact bodyPost_ret (res_cell_tmp (fn := Tryd.f13) rfl _ _ w.heap.size _ _ _ _ rfl hb Tryd.underlying34 rfl (by kernel_rfl)) rfl ⟨rfl, LB.out⟩
theorem At_any (o b : Nat) (k : Kd) (at_ : Int) (x : AX) (w : World) (h : ArbAt w o b k at_ x) :
    Calls Tryd.prog 15 #[.pointer (some ⟨o, 0, none⟩)] w fun e w' => e = .returned (.int .i64 (if x.how = 1 then x.steps else 0)) ∧ w = w' := by
  have q0 := h.head.cell 0
  have q10 := h.head.cell 10
  have q17 := h.head.cell 17
  unfold aCs at q0 q10 q17
  simp only [List.getElem?_toArray, List.getElem?_cons_succ, List.getElem?_cons_zero] at q0 q10 q17
  by_cases hq : x.how = 1
  · rw [if_pos hq]
    rw [hq] at q10
    clear h hq
    go_enter Tryd.func15, Tryd.ntmps15
    go_wp2_with fail
    go_ret
    exact ⟨rfl, rfl⟩
  · rw [if_neg hq]
    have kh : (x.how != 1) = true := by simpa using hq
    clear h hq
    go_enter Tryd.func15, Tryd.ntmps15
    go_wp2_with fail
    go_ret
    exact ⟨rfl, rfl⟩
theorem Steps_any (o b : Nat) (k : Kd) (at_ : Int) (x : AX) (w : World) (h : ArbAt w o b k at_ x) :
    Calls Tryd.prog 14 #[.pointer (some ⟨o, 0, none⟩)] w fun e w' => e = .returned (.int .i64 x.steps) ∧ w = w' := by
  have q0 := h.head.cell 0
  have q17 := h.head.cell 17
  unfold aCs at q0 q17
  simp only [List.getElem?_toArray, List.getElem?_cons_succ, List.getElem?_cons_zero] at q0 q17
  clear h
  go_enter Tryd.func14, Tryd.ntmps14
  go_wp2_with fail
  go_ret
  exact ⟨rfl, rfl⟩
theorem At_nil (w : World) : Calls Tryd.prog 15 #[.pointer none] w fun e w' => e = .returned (.int .i64 0) ∧ w = w' := by
  go_enter Tryd.func15, Tryd.ntmps15
  go_wp2_with fail
  go_ret
  exact ⟨rfl, rfl⟩
theorem Steps_nil (w : World) : Calls Tryd.prog 14 #[.pointer none] w fun e w' => e = .returned (.int .i64 0) ∧ w = w' := by
  go_enter Tryd.func14, Tryd.ntmps14
  go_wp2_with fail
  go_ret
  exact ⟨rfl, rfl⟩
theorem Step_nil (v : Value) (w : World) : Calls Tryd.prog 11 #[.pointer none, v] w fun e w' => e = .returned (.int .i64 3) ∧ w = w' := by
  go_enter Tryd.func11, Tryd.ntmps11
  go_wp2_with fail
  refine wp_scope_ahead 2 (fun c0 HC => ?_)
  go_wp2_with fail
  first | rw [goOn_ret] | skip
  go_ret
  exact ⟨rfl, rfl⟩
set_option maxRecDepth 100000 in
set_option maxHeartbeats 1000000 in
theorem Step_nilbank (o b : Nat) (k : Kd) (at_ : Int) (wd : Int) (nx s0 : St) (er left steps : Int) (w : World) (h : ArbAt w o b k at_ ⟨0, false, wd, nx, s0, er, left, steps⟩) :
    Calls Tryd.prog 11 #[.pointer (some ⟨o, 0, none⟩), .pointer none] w fun e w' => e = .returned (.int .i64 3) ∧ ArbAt w' o b k at_ ⟨3, false, wd, nx, St.zero, 2, left, steps⟩ ∧ Ex (fun q => q = o) w w' := by
  have B0 := Lib.hid (show Blk w o 90 _ from h.head)
  have C0 := Lib.hid h.cap
  have X0 := Lib.hid (Ex.refl (fun q => q = o) w)
  unfold aCs at B0
  simp only at B0
  have ORD := Lib.hid (show b ≠ o from h.ne)
  clear h
  have Bq0 := (B0.out).cell 0
  have Bq3 := (B0.out).cell 3
  have Bq10 := (B0.out).cell 10
  simp only [List.getElem?_toArray, List.getElem?_cons_succ, List.getElem?_cons_zero] at Bq0 Bq3 Bq10
  go_enter Tryd.func11, Tryd.ntmps11
  go_wp2_with fail
  refine wp_scope_ahead 2 (fun c0 HC => ?_)
  go_wp2_with fail
  refine (Load_nil at_ w).mono ?_; rintro e w1 ⟨rfl, hb1⟩
  clear Bq0 Bq3 Bq10
  have ee : Ex (fun _ => False) w w1 := Ex.of_below hb1
  have B_1 := Lib.hid (B0.out.ex ee (fun h => h))
  have C_1 := Lib.hid (C0.out.ex ee (fun h => h))
  have X_1 := Lib.hid (X0.out.ex ee (fun b_ h_ => h_.elim))
  clear ee B0 C0 X0 hb1
  go_wp2_with fail
  refine wp_goto ?_
  show goOn Tryd.prog c0 _ 2 (.goto 1) _ _
  refine goOn_jump HC rfl ?_
  go_wp2_with fail
  have HE := Lib.hid (fun W (h : ArbAt W o b k at_ ⟨0, false, wd, nx, s0, er, left, steps⟩) => Aend_any o b k at_ ⟨0, false, wd, nx, s0, er, left, steps⟩ 3 St.zero (2) W h)
  unfold St.val at HE
  simp only [St.zero] at HE
  go_wp2_with fail
  refine (HE.out _ ⟨B_1.out, C_1.out, ORD.out⟩).mono ?_; rintro e w9 ⟨rfl, ha, hx⟩
  clear HE
  go_wp2_with fail
  first | rw [goOn_ret] | skip
  go_ret
  exact ⟨rfl, ha, X_1.out.trans hx⟩

/-- an operation's step -/
def aStep (k : Kd) (at_ : Int) (ws : List Int) (x : AX) : AX :=
  if x.how ≠ 0 then x
  else if x.swaps = false then
    (if inW ws at_ then aFound k (wordF ws at_) ⟨x.how, x.swaps, x.word, x.next, x.st, x.err, x.left, x.steps + 1⟩ else ⟨3, x.swaps, x.word, x.next, St.zero, 10, x.left, x.steps⟩)
  else if ¬ inW ws at_ then ⟨3, x.swaps, x.word, x.next, St.zero, 10, x.left, x.steps⟩
  else if casB ws at_ x.word = true then ⟨1, false, x.word, x.next, x.next, 0, x.left - 1, x.steps + 1⟩
  else if x.left = 1 then ⟨2, false, x.word, x.next, St.zero, 20, x.left - 1, x.steps + 1⟩
  else ⟨0, false, x.word, x.next, x.st, x.err, x.left - 1, x.steps + 1⟩
def aWs (at_ : Int) (ws : List Int) (x : AX) : List Int := if x.how = 0 ∧ x.swaps = true ∧ casB ws at_ x.word = true then setF ws at_ (wordI x.next) else ws
def aT (at_ : Int) (ws : List Int) (x : AX) (t : Int) : Int := if x.how = 0 then tickF ws at_ t else t
structure AInv (k : Kd) (n : Int) (x : AX) : Prop where
  nn : n ≤ 16
  st : 0 ≤ x.steps ∧ x.steps ≤ 32
  lv : x.how = 0 → k.isRead = false → 1 ≤ x.left ∧ x.left ≤ n
  cnt : x.how = 0 → k.isRead = false → x.steps = 2 * (n - x.left) + (if x.swaps = true then 1 else 0)
  rd : k.isRead = true → x.swaps = false ∧ (x.how = 0 → x.steps = 0)
  sw : x.how = 0 → x.swaps = true → (0 ≤ x.word ∧ x.word ≤ 18446744073709551615) ∧ unE x.word = 0 ∧ k.E (unS x.word) = 0 ∧ x.next = k.S (unS x.word)
theorem unS_may {v : Int} (h : 0 ≤ v ∧ v ≤ 18446744073709551615) (hE : unE v = 0) : mayE (unS v) = 0 ∧ unS v = partsOf v := by
  unfold unE at hE
  unfold unS
  by_cases h9 : mayE (partsOf v) = 0
  · rw [if_pos h9]; exact ⟨h9, rfl⟩
  · rw [if_neg h9] at hE; simp at hE
theorem after_ok {k : Kd} (hr : k.isRead = false) (hk : k.Ok) {s : St} (h : s.Ok) (h0 : mayE s = 0) (hE : k.E s = 0) : (k.S s).Ok ∧ mayE (k.S s) = 0 ∧ (k.S s).epoch = s.epoch + 1 := by
  have hp := (mayE_zero.1 h0).1
  have hn := (mayE_zero.1 h0).2
  obtain ⟨m, so, ho, fl, ep⟩ := s
  obtain ⟨h1, h2, h3, h4⟩ := hp
  simp only at h1 h2 h3 h4
  have h5 := h.epoch
  simp only at h5
  cases k with
  | read => simp [Kd.isRead] at hr
  | tell f =>
    simp only [Kd.E, Kd.S] at hE ⊢
    have hN : healthS ⟨m, so, ho, fl, ep⟩ f = ⟨m, so, ho, f, ep + 1⟩ := if_pos hE
    rw [hN]
    unfold healthE at hE
    split at hE
    · simp at hE
    · split at hE
      · simp at hE
      · rename_i hf
        split at hE
        · simp at hE
        · rename_i hl
          have hl' : ep ≠ 4503599627370495 := hl
          have hf' : 0 ≤ f ∧ f ≤ 63 := by simpa using hf
          refine ⟨⟨by simp; omega, by simp; omega, by simp; omega, by simp; omega⟩, mayE_zero.2 ⟨⟨h1, h2, hf', by simp; omega⟩, hn⟩, rfl⟩
  | req a =>
    simp only [Kd.E, Kd.S] at hE ⊢
    have hN : decideS ⟨m, so, ho, fl, ep⟩ a = nextS ⟨m, so, ho, fl, ep⟩ a := if_pos hE
    rw [hN]
    unfold decideE at hE
    split at hE
    · simp at hE
    · split at hE
      · simp at hE
      · rename_i hin
        have hin' : a.In := by simpa using hin
        obtain ⟨i1, i2⟩ := hin'
        split at hE
        · simp at hE
        · rename_i hh
          split at hE
          · simp at hE
          · split at hE
            · simp at hE
            · split at hE
              · simp at hE
              · split at hE
                · simp at hE
                · rename_i hl
                  have hl' : ep ≠ 4503599627370495 := hl
                  simp only at hh
                  unfold nextS
                  split
                  · refine ⟨⟨by simp, by simp, by simp; omega, by simp; omega⟩, mayE_zero.2 ⟨⟨by simp, by simp, h3, by simp; omega⟩, by unfold St.Held; simp⟩, rfl⟩
                  · split
                    · refine ⟨⟨by simp; omega, by simp, by simp; omega, by simp; omega⟩, mayE_zero.2 ⟨⟨i2, by simp, h3, by simp; omega⟩, by unfold St.Held; simp⟩, rfl⟩
                    · refine ⟨⟨by simp; omega, by simp; omega, by simp; omega, by simp; omega⟩, mayE_zero.2 ⟨⟨i2, i1, h3, by simp; omega⟩, by unfold St.Held; exact hh⟩, rfl⟩
theorem AInv.zero {k : Kd} {n : Int} (h : k.isRead = true ∧ n = 0 ∨ 1 ≤ n ∧ n ≤ 16) (hr : k.isRead = false → 1 ≤ n) : AInv k n (AX.zero n) :=
  ⟨by omega, by simp [AX.zero], fun _ h9 => ⟨hr h9, Int.le_refl _⟩, fun _ _ => by simp [AX.zero], fun _ => ⟨rfl, fun _ => rfl⟩, fun _ h9 => by simp [AX.zero] at h9⟩
theorem AInv.next {k : Kd} {n : Int} {x : AX} (h : AInv k n x) (hk : k.Ok) (h0 : x.how = 0) (hs : x.swaps = true) : x.next.Ok ∧ mayE x.next = 0 ∧ k.isRead = false := by
  have hr : k.isRead = false := by
    cases hq : k.isRead with
    | false => rfl
    | true => have := (h.rd hq).1; rw [hs] at this; simp at this
  obtain ⟨a, b, c, d⟩ := h.sw h0 hs
  obtain ⟨e, f⟩ := unS_may a b
  have := after_ok hr hk (unS_ok a) e c
  rw [d]
  exact ⟨this.1, this.2.1, hr⟩
theorem aFound_how0 {k : Kd} {v : Int} {x : AX} (h : (aFound k v x).how = 0) (hx : x.how = 0) : unE v = 0 ∧ k.isRead = false ∧ k.E (unS v) = 0 ∧ aFound k v x = ⟨x.how, true, v, k.S (unS v), x.st, x.err, x.left, x.steps⟩ := by
  unfold aFound at h ⊢
  split at h
  · simp at h
  · rename_i h1
    split at h
    · simp at h
    · rename_i h2
      split at h
      · simp at h
      · rename_i h3
        rw [if_neg h1, if_neg h2, if_neg h3]
        exact ⟨by simpa using h1, by simpa using h2, by simpa using h3, rfl⟩
theorem aFound_steps {k : Kd} {v : Int} {x : AX} : (aFound k v x).steps = x.steps := by
  unfold aFound
  split
  · rfl
  · split
    · rfl
    · split <;> rfl
theorem aFound_read {k : Kd} {v : Int} {x : AX} (hr : k.isRead = true) : (aFound k v x).swaps = x.swaps ∧ (aFound k v x).how = 1 := by
  unfold aFound
  split
  · exact ⟨rfl, rfl⟩
  · exact ⟨rfl, rfl⟩
theorem AInv.step {k : Kd} {n at_ : Int} {x : AX} {ws : List Int} (h : AInv k n x) (hv : 0 ≤ wordF ws at_ ∧ wordF ws at_ ≤ 18446744073709551615) : AInv k n (aStep k at_ ws x) := by
  unfold aStep
  split
  · exact h
  · rename_i h0
    have h0 : x.how = 0 := by simpa using h0
    have hn := h.nn
    have hst := h.st
    split
    · rename_i hs
      split
      · have hst2 : x.steps ≤ 31 := by
          cases hr : k.isRead with
          | true => have := (h.rd hr).2 h0; omega
          | false => have h1 := h.lv h0 hr; have h2 := h.cnt h0 hr; rw [hs] at h2; simp at h2; omega
        refine ⟨hn, ?_, ?_, ?_, ?_, ?_⟩
        · rw [aFound_steps]; simp; omega
        · intro h9 hr; obtain ⟨_, _, _, e⟩ := aFound_how0 h9 h0; rw [e]; exact h.lv h0 hr
        · intro h9 hr; obtain ⟨_, _, _, e⟩ := aFound_how0 h9 h0; rw [e]; have := h.cnt h0 hr; rw [hs] at this; simp at this ⊢; omega
        · intro hr; obtain ⟨a, b⟩ := aFound_read (v := wordF ws at_) (x := ⟨x.how, x.swaps, x.word, x.next, x.st, x.err, x.left, x.steps + 1⟩) hr; exact ⟨by rw [a]; exact hs, fun h9 => by rw [b] at h9; simp at h9⟩
        · intro h9 _; obtain ⟨a, _, b, e⟩ := aFound_how0 h9 h0; rw [e]; exact ⟨hv, a, b, rfl⟩
      · exact ⟨hn, hst, fun h9 => by simp at h9, fun h9 => by simp at h9, fun hr => ⟨hs, fun h9 => by simp at h9⟩, fun h9 => by simp at h9⟩
    · rename_i hs
      have hs : x.swaps = true := by simpa using hs
      have hr : k.isRead = false := by
        cases hq : k.isRead with
        | false => rfl
        | true => have := (h.rd hq).1; rw [hs] at this; simp at this
      have h1 := h.lv h0 hr
      have h2 := h.cnt h0 hr
      rw [hs] at h2
      simp only [if_true] at h2
      split
      · exact ⟨hn, hst, fun h9 => by simp at h9, fun h9 => by simp at h9, fun h9 => by rw [hr] at h9; simp at h9, fun h9 => by simp at h9⟩
      · split
        · exact ⟨hn, by simp; omega, fun h9 => by simp at h9, fun h9 => by simp at h9, fun h9 => by rw [hr] at h9; simp at h9, fun h9 => by simp at h9⟩
        · split
          · exact ⟨hn, by simp; omega, fun h9 => by simp at h9, fun h9 => by simp at h9, fun h9 => by rw [hr] at h9; simp at h9, fun h9 => by simp at h9⟩
          · exact ⟨hn, by simp; omega, fun _ _ => by simp; omega, fun _ _ => by simp; omega, fun h9 => by rw [hr] at h9; simp at h9, fun _ h9 => by simp at h9⟩
theorem Step_any (g h_ o b : Nat) (ws : List Int) (t : Int) (k : Kd) (hk : k.Ok) (n at_ : Int) (x : AX) (hi : AInv k n x) (w : World) (h : ArbAt w o b k at_ x) (hb : BankAt w g h_ ws t) (ht : Tab w) (ne : o ≠ g ∧ o ≠ h_ ∧ b ≠ g ∧ b ≠ h_ ∧ 0 < o ∧ 0 < g ∧ 0 < h_) :
    Calls Tryd.prog 11 #[.pointer (some ⟨o, 0, none⟩), .pointer (some ⟨g, 0, none⟩)] w fun e w' => e = .returned (.int .i64 (aStep k at_ ws x).how) ∧ BankAt w' g h_ (aWs at_ ws x) (aT at_ ws x t) ∧ ArbAt w' o b k at_ (aStep k at_ ws x) ∧ Ex (fun q => q = g ∨ q = h_ ∨ q = o) w w' := by
  obtain ⟨how, sw, wd, nx, s0, er, left, steps⟩ := x
  unfold aStep aWs aT
  have hst := hi.st
  simp only at hst
  have hn := hi.nn
  by_cases h0 : how = 0
  · subst h0
    simp only [ne_eq, not_true_eq_false, if_false, if_true]
    cases sw with
    | false =>
      simp only [if_true, true_and, false_and, if_false, show ¬ (false = true) by decide]
      by_cases hin : inW ws at_
      · rw [if_pos hin]
        exact S_load g h_ o b ws t k at_ 0 false wd nx s0 er left steps w h hb ht ne hin hk (by omega)
      · rw [if_neg hin]
        exact S_lout g h_ o b ws t k at_ 0 false wd nx s0 er left steps w h hb ht ne hin
    | true =>
      simp only [show ¬ (true = false) by decide, if_false, true_and]
      obtain ⟨n1, n2, n3⟩ := hi.next hk rfl rfl
      simp only at n1 n2
      have h1 := hi.lv rfl n3
      simp only at h1
      by_cases hin : inW ws at_
      · rw [if_neg (show ¬ ¬ inW ws at_ from fun h => h hin)]
        by_cases hc : casB ws at_ wd = true
        · rw [if_pos hc, if_pos hc]
          exact S_hit g h_ o b ws t k at_ 0 true wd nx s0 er left steps w h hb ht ne (by omega) n1 n2 hin hc (by omega)
        · rw [if_neg hc, if_neg hc]
          have hc' : casB ws at_ wd = false := by simpa using hc
          by_cases hl : left = 1
          · rw [if_pos hl]
            exact S_spent g h_ o b ws t k at_ 0 true wd nx s0 er left steps w h hb ht ne (by omega) n1 n2 hin hc' hl
          · rw [if_neg hl]
            exact S_busy g h_ o b ws t k at_ 0 true wd nx s0 er left steps w h hb ht ne (by omega) n1 n2 hin hc' (by omega)
      · rw [if_pos hin, casB_out hin, if_neg (show ¬ (false = true) by decide)]
        exact S_cout g h_ o b ws t k at_ 0 true wd nx s0 er left steps w h hb ht ne (by omega) n1 n2 hin
  · simp only [ne_eq, h0, not_false_eq_true, if_true, false_and, if_false]
    exact S_how g h_ o b ws t k at_ how sw wd nx s0 er left steps w h hb ht ne h0
end Go.Proofs.YtkmlikohgilnbaaDoor.Arb
