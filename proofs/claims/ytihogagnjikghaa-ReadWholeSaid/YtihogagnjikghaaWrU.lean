/-
  The branches of a publishing's step, walked. Printed by wip/tools/mkwr.py. Conditions stand at each. By an AI agent.
-/
import Derived.Test.YtihogagnjikghaaWrS
namespace Go.Proofs.Ytihogagnjikghaa.Bank
set_option linter.unusedVariables false
set_option linter.unusedSimpArgs false
open Go Go.RowKit Go.Proofs.Ytihogagnjikghaa.Base

set_option maxRecDepth 100000 in
set_option maxHeartbeats 4000000 in
theorem S_fill_out (g h o r cc : Nat) (ws : List Int) (t : Int) (s : Spot) (rec : List Int) (tries had steps sq nn : Int) (w : World) (hb : BankAt w g h ws t) (ho : OpAt w o r cc s rec tries ⟨0, 2, had, steps, sq, nn⟩) (hi : WInv s rec tries ⟨0, 2, had, steps, sq, nn⟩)
    (ne : o ≠ g ∧ o ≠ h ∧ r ≠ g ∧ r ≠ h) (hin : ¬ inW ws (atF s (IntKind.u64.wrap (sq / 2 + 1)) + nn)) :
    Calls Try.prog 24 #[.pointer (some ⟨o, 0, none⟩), .pointer (some ⟨g, 0, none⟩)] w fun e w' => e = .returned (.int .i64 (WS.how ⟨3, 2, had, steps, sq, nn⟩)) ∧ BankAt w' g h (ws) (tickF ws (atF s (IntKind.u64.wrap (sq / 2 + 1)) + nn) t) ∧ OpAt w' o r cc s rec tries ⟨3, 2, had, steps, sq, nn⟩ ∧ Ex (fun k => k = g ∨ k = h ∨ k = o) w w' := by
  have B0 := Lib.hid ho.head
  have I0 := Lib.hid ho.row
  have K0 := Lib.hid hb
  have X0 := Lib.hid (Ex.refl (fun k => k = g ∨ k = h ∨ k = o) w)
  have HI := Lib.hid hi
  have NE := Lib.hid (show (o ≠ g ∧ o ≠ h ∧ r ≠ g ∧ r ≠ h) ∧ o ≠ r from ⟨ne, ho.ne⟩)
  unfold opCs at B0
  simp only at B0
  have hn0 : 0 ≤ nn := hi.n.1
  have hn1 : nn < (rec.length : Int) := by have h1 := hi.n.2 rfl rfl; have h2 := hi.len; simp only at h1 h2; omega
  have hn2 : nn.toNat < rec.length := by omega
  have HG1 := Lib.hid hi.gen
  have HG2 := Lib.hid (hi.place)
  have HAT := Lib.hid (fun W => At_any s (IntKind.u64.wrap (sq / 2 + 1)) W (u64_wrap_range _) hi.right.atOk)
  unfold Spot.val at HAT
  generalize hpl : atF s (IntKind.u64.wrap (sq / 2 + 1)) = pl at *
  have HPL := Lib.hid hpl
  have hwa : wrap64 (pl + nn) = pl + nn := HG2.out
  have HFX := Lib.hid (hi.fit _ (nth_mem hn2))
  clear hpl HG1 HG2
  have HIN := Lib.hid hin
  clear ho hb hi ne hin
  have q0 := B0.out.cell 0
  have q1 := B0.out.cell 1
  simp only [List.getElem?_toArray, List.getElem?_cons_succ, List.getElem?_cons_zero] at q0 q1
  go_enter Try.func24, Try.ntmps24
  go_wp2_with fail
  refine wp_scope_ahead 2 (fun c0 HC => ?_)
  go_upto_region 22 with fail
  clear q0 q1
  have hnonempty : Nonempty (Held (Ex (fun k => k = g ∨ k = h) w)) := ⟨⟨w, Ex.refl _ w⟩⟩
  have p0 : ∀ x : Held (Ex (fun k => k = g ∨ k = h) w), x.w.cell? ⟨o, 0, none⟩ = some (.int .i64 0) := fun x => (B0.out.ex x.ok (by have := NE.out; omega)).cell 0
  have p4 : ∀ x : Held (Ex (fun k => k = g ∨ k = h) w), x.w.cell? ⟨o, 4, none⟩ = some (.int .i64 s.owners) := fun x => (B0.out.ex x.ok (by have := NE.out; omega)).cell 4
  have p5 : ∀ x : Held (Ex (fun k => k = g ∨ k = h) w), x.w.cell? ⟨o, 5, none⟩ = some (.int .i64 s.seq) := fun x => (B0.out.ex x.ok (by have := NE.out; omega)).cell 5
  have p6 : ∀ x : Held (Ex (fun k => k = g ∨ k = h) w), x.w.cell? ⟨o, 6, none⟩ = some (.int .i64 s.first) := fun x => (B0.out.ex x.ok (by have := NE.out; omega)).cell 6
  have p7 : ∀ x : Held (Ex (fun k => k = g ∨ k = h) w), x.w.cell? ⟨o, 7, none⟩ = some (.int .i64 s.words) := fun x => (B0.out.ex x.ok (by have := NE.out; omega)).cell 7
  have p8 : ∀ x : Held (Ex (fun k => k = g ∨ k = h) w), x.w.cell? ⟨o, 8, none⟩ = some (.int .i64 s.depth) := fun x => (B0.out.ex x.ok (by have := NE.out; omega)).cell 8
  have p9 : ∀ x : Held (Ex (fun k => k = g ∨ k = h) w), x.w.cell? ⟨o, 9, none⟩ = some (.slice (some ⟨r, 0, none⟩) rec.length cc) := fun x => (B0.out.ex x.ok (by have := NE.out; omega)).cell 9
  have p10 : ∀ x : Held (Ex (fun k => k = g ∨ k = h) w), x.w.cell? ⟨o, 10, none⟩ = some (.int .u64 sq) := fun x => (B0.out.ex x.ok (by have := NE.out; omega)).cell 10
  have p11 : ∀ x : Held (Ex (fun k => k = g ∨ k = h) w), x.w.cell? ⟨o, 11, none⟩ = some (.int .i64 nn) := fun x => (B0.out.ex x.ok (by have := NE.out; omega)).cell 11
  have pr : ∀ x : Held (Ex (fun k => k = g ∨ k = h) w), x.w.cell? ⟨r, nn.toNat, none⟩ = some (.int .u64 (nth rec nn.toNat)) := fun x => (I0.out.ex x.ok (by have := NE.out; omega)).at_ nn.toNat hn2
  refine drawn_bars (S := (Ex (fun k => k = g ∨ k = h) w)) [([0, 1, 2, 3, 4, 5, 6, 7, 8, 12, 13, 14, 15, 17, 18, 19, 20, 21, 22, 23, 24, 25, 26], 9), ([10], 11), ([16], 27)] [28] (by kernel_rfl) (by kernel_rfl) (by kernel_rfl) rfl (Ex.refl _ w).drew ?_
  refine Phased.go ?_
  simp only [pick, List.map_cons, List.map_nil, List.getElem?_cons_zero, List.getElem?_cons_succ, Option.getD_some]
  repeat (go_big_quiet_step (fail))
  refine wpQuiet_nil ?_
  go_wp2_with fail
  refine (Gen_any sq _).mono ?_; rintro e w2 ⟨rfl, rfl⟩
  go_wp2_with fail
  refine behind_normal ⟨(Ex (fun k => k = g ∨ k = h) w), fun W h => h, (Ex.refl _ w).drew, ?_⟩
  refine Phased.go ?_
  simp only [pick, List.map_cons, List.map_nil, List.getElem?_cons_zero, List.getElem?_cons_succ, Option.getD_some]
  repeat (go_big_quiet_step (fail))
  refine wpQuiet_nil ?_
  go_wp2_with fail
  refine (HAT.out _).mono ?_; rintro e w2 ⟨rfl, hb2⟩
  have KA := Lib.hid (K0.out.ex (T := fun _ => False) (((Ex.refl _ w).drew).trans (Ex.of_below hb2)) (by simp) (by simp))
  have XA := Lib.hid (show Ex (fun k => k = g ∨ k = h) w w2 from ((Ex.refl _ w).drew).trans (Ex.of_below hb2))
  clear hb2
  go_wp2_with fail
  refine behind_normal ⟨(Ex (fun k => k = g ∨ k = h) w), fun W h => h, XA.out, ?_⟩
  refine Phased.go ?_
  simp only [pick, List.map_cons, List.map_nil, List.getElem?_cons_zero, List.getElem?_cons_succ, Option.getD_some]
  repeat (go_big_quiet_step (fail))
  refine wpQuiet_nil ?_
  go_wp2_with fail
  refine (Store_any g h ws t (pl + nn) (nth rec nn.toNat) w2 (KA.out) HFX.out).mono ?_; rintro e w1 ⟨rfl, hb1, hx1⟩
  have XR := Lib.hid (XA.out.trans (Ex.of_ex2 (T := fun k => k = g ∨ k = h) hx1 (.inl rfl) (.inr rfl)))
  have XX := Lib.hid (XA.out.mono (T' := fun k => k = g ∨ k = h ∨ k = o) (fun k hk => hk.elim .inl (fun h => .inr (.inl h))))
  rw [errF_out HIN.out]
  go_wp2_with fail
  refine behind_normal ⟨(Ex (fun k => k = g ∨ k = h) w), fun W h => h, XR.out, ?_⟩
  refine Phased.end_ ?_
  have hne1 : Nonempty (Held (fun W => W = w1)) := ⟨⟨w1, rfl⟩⟩
  simp only [pick, List.map_cons, List.map_nil, List.getElem?_cons_zero, List.getElem?_cons_succ, Option.getD_some]
  repeat (go_big_quiet_step (fail))
  refine wpQuiet_nil ?_
  clear hne1
  clear hnonempty p0 p4 p5 p6 p7 p8 p9 p10 p11 pr
  have XQ := Lib.hid XR.out
  have B1 := Lib.hid (B0.out.ex XQ.out (by have := NE.out; omega))
  have I1 := Lib.hid (I0.out.ex XQ.out (by have := NE.out; omega))
  have X1 := Lib.hid (XQ.out.mono (T' := (fun k => k = g ∨ k = h ∨ k = o)) (fun k hk => hk.elim .inl (fun h => .inr (.inl h))))
  have K1 := Lib.hid hb1
  clear hb1 hx1 XQ XR XX XA KA HAT B0 I0 X0 K0
  rw [setF_out HIN.out] at K1
  have q0 := B1.out.cell 0
  simp only [List.getElem?_toArray, List.getElem?_cons_succ, List.getElem?_cons_zero] at q0
  have f0 := B1.out.frozen 0
  go_wp2_with fail
  refine wp_goto ?_
  show goOn Try.prog c0 _ 2 (.goto 0) _ _
  refine goOn_jump HC rfl ?_
  go_wp2_with fail
  clear q0 f0
  have ee := ((Ex.refl (fun k => k = o) w1).setCell (q := ⟨o, 0, none⟩) (.inl rfl) (.int .i64 3))
  have bb := (B1.out.set_ 0 (.int .i64 3))
  simp only [List.setIfInBounds_toArray, List.set_cons_succ, List.set_cons_zero] at bb
  have Bwz := Lib.hid bb
  have Iwz := Lib.hid (I1.out.ex ee (by have := NE.out; omega))
  have Kwz := Lib.hid (K1.out.ex ee (by have := NE.out; omega) (by have := NE.out; omega))
  have Xwz := Lib.hid (X1.out.trans (ee.mono (fun k hk => .inr (.inr hk))))
  clear ee bb B1 I1 K1 X1
  first | rw [goOn_ret] | skip
  go_ret
  exact ⟨rfl, Kwz.out, ⟨Bwz.out, Iwz.out, NE.out.2⟩, Xwz.out⟩

set_option maxRecDepth 100000 in
set_option maxHeartbeats 4000000 in
theorem S_fill_more (g h o r cc : Nat) (ws : List Int) (t : Int) (s : Spot) (rec : List Int) (tries had steps sq nn : Int) (w : World) (hb : BankAt w g h ws t) (ho : OpAt w o r cc s rec tries ⟨0, 2, had, steps, sq, nn⟩) (hi : WInv s rec tries ⟨0, 2, had, steps, sq, nn⟩)
    (ne : o ≠ g ∧ o ≠ h ∧ r ≠ g ∧ r ≠ h) (hin : inW ws (atF s (IntKind.u64.wrap (sq / 2 + 1)) + nn)) (hv : ¬ nn + 1 = (rec.length : Int)) :
    Calls Try.prog 24 #[.pointer (some ⟨o, 0, none⟩), .pointer (some ⟨g, 0, none⟩)] w fun e w' => e = .returned (.int .i64 (WS.how ⟨0, 2, had, steps + 1, sq, nn + 1⟩)) ∧ BankAt w' g h (setF ws (atF s (IntKind.u64.wrap (sq / 2 + 1)) + nn) (nth rec nn.toNat)) (tickF ws (atF s (IntKind.u64.wrap (sq / 2 + 1)) + nn) t) ∧ OpAt w' o r cc s rec tries ⟨0, 2, had, steps + 1, sq, nn + 1⟩ ∧ Ex (fun k => k = g ∨ k = h ∨ k = o) w w' := by
  have B0 := Lib.hid ho.head
  have I0 := Lib.hid ho.row
  have K0 := Lib.hid hb
  have X0 := Lib.hid (Ex.refl (fun k => k = g ∨ k = h ∨ k = o) w)
  have HI := Lib.hid hi
  have NE := Lib.hid (show (o ≠ g ∧ o ≠ h ∧ r ≠ g ∧ r ≠ h) ∧ o ≠ r from ⟨ne, ho.ne⟩)
  unfold opCs at B0
  simp only at B0
  have hn0 : 0 ≤ nn := hi.n.1
  have hn1 : nn < (rec.length : Int) := by have h1 := hi.n.2 rfl rfl; have h2 := hi.len; simp only at h1 h2; omega
  have hn2 : nn.toNat < rec.length := by omega
  have HG1 := Lib.hid hi.gen
  have HG2 := Lib.hid (hi.place)
  have HAT := Lib.hid (fun W => At_any s (IntKind.u64.wrap (sq / 2 + 1)) W (u64_wrap_range _) hi.right.atOk)
  unfold Spot.val at HAT
  generalize hpl : atF s (IntKind.u64.wrap (sq / 2 + 1)) = pl at *
  have HPL := Lib.hid hpl
  have hwa : wrap64 (pl + nn) = pl + nn := HG2.out
  have HFX := Lib.hid (hi.fit _ (nth_mem hn2))
  clear hpl HG1 HG2
  have HIN := Lib.hid hin
  have HV := Lib.hid hv
  clear ho hb hi ne hin hv
  have q0 := B0.out.cell 0
  have q1 := B0.out.cell 1
  simp only [List.getElem?_toArray, List.getElem?_cons_succ, List.getElem?_cons_zero] at q0 q1
  go_enter Try.func24, Try.ntmps24
  go_wp2_with fail
  refine wp_scope_ahead 2 (fun c0 HC => ?_)
  go_upto_region 22 with fail
  clear q0 q1
  have hnonempty : Nonempty (Held (Ex (fun k => k = g ∨ k = h) w)) := ⟨⟨w, Ex.refl _ w⟩⟩
  have p0 : ∀ x : Held (Ex (fun k => k = g ∨ k = h) w), x.w.cell? ⟨o, 0, none⟩ = some (.int .i64 0) := fun x => (B0.out.ex x.ok (by have := NE.out; omega)).cell 0
  have p4 : ∀ x : Held (Ex (fun k => k = g ∨ k = h) w), x.w.cell? ⟨o, 4, none⟩ = some (.int .i64 s.owners) := fun x => (B0.out.ex x.ok (by have := NE.out; omega)).cell 4
  have p5 : ∀ x : Held (Ex (fun k => k = g ∨ k = h) w), x.w.cell? ⟨o, 5, none⟩ = some (.int .i64 s.seq) := fun x => (B0.out.ex x.ok (by have := NE.out; omega)).cell 5
  have p6 : ∀ x : Held (Ex (fun k => k = g ∨ k = h) w), x.w.cell? ⟨o, 6, none⟩ = some (.int .i64 s.first) := fun x => (B0.out.ex x.ok (by have := NE.out; omega)).cell 6
  have p7 : ∀ x : Held (Ex (fun k => k = g ∨ k = h) w), x.w.cell? ⟨o, 7, none⟩ = some (.int .i64 s.words) := fun x => (B0.out.ex x.ok (by have := NE.out; omega)).cell 7
  have p8 : ∀ x : Held (Ex (fun k => k = g ∨ k = h) w), x.w.cell? ⟨o, 8, none⟩ = some (.int .i64 s.depth) := fun x => (B0.out.ex x.ok (by have := NE.out; omega)).cell 8
  have p9 : ∀ x : Held (Ex (fun k => k = g ∨ k = h) w), x.w.cell? ⟨o, 9, none⟩ = some (.slice (some ⟨r, 0, none⟩) rec.length cc) := fun x => (B0.out.ex x.ok (by have := NE.out; omega)).cell 9
  have p10 : ∀ x : Held (Ex (fun k => k = g ∨ k = h) w), x.w.cell? ⟨o, 10, none⟩ = some (.int .u64 sq) := fun x => (B0.out.ex x.ok (by have := NE.out; omega)).cell 10
  have p11 : ∀ x : Held (Ex (fun k => k = g ∨ k = h) w), x.w.cell? ⟨o, 11, none⟩ = some (.int .i64 nn) := fun x => (B0.out.ex x.ok (by have := NE.out; omega)).cell 11
  have pr : ∀ x : Held (Ex (fun k => k = g ∨ k = h) w), x.w.cell? ⟨r, nn.toNat, none⟩ = some (.int .u64 (nth rec nn.toNat)) := fun x => (I0.out.ex x.ok (by have := NE.out; omega)).at_ nn.toNat hn2
  refine drawn_bars (S := (Ex (fun k => k = g ∨ k = h) w)) [([0, 1, 2, 3, 4, 5, 6, 7, 8, 12, 13, 14, 15, 17, 18, 19, 20, 21, 22, 23, 24, 25, 26], 9), ([10], 11), ([16], 27)] [28] (by kernel_rfl) (by kernel_rfl) (by kernel_rfl) rfl (Ex.refl _ w).drew ?_
  refine Phased.go ?_
  simp only [pick, List.map_cons, List.map_nil, List.getElem?_cons_zero, List.getElem?_cons_succ, Option.getD_some]
  repeat (go_big_quiet_step (fail))
  refine wpQuiet_nil ?_
  go_wp2_with fail
  refine (Gen_any sq _).mono ?_; rintro e w2 ⟨rfl, rfl⟩
  go_wp2_with fail
  refine behind_normal ⟨(Ex (fun k => k = g ∨ k = h) w), fun W h => h, (Ex.refl _ w).drew, ?_⟩
  refine Phased.go ?_
  simp only [pick, List.map_cons, List.map_nil, List.getElem?_cons_zero, List.getElem?_cons_succ, Option.getD_some]
  repeat (go_big_quiet_step (fail))
  refine wpQuiet_nil ?_
  go_wp2_with fail
  refine (HAT.out _).mono ?_; rintro e w2 ⟨rfl, hb2⟩
  have KA := Lib.hid (K0.out.ex (T := fun _ => False) (((Ex.refl _ w).drew).trans (Ex.of_below hb2)) (by simp) (by simp))
  have XA := Lib.hid (show Ex (fun k => k = g ∨ k = h) w w2 from ((Ex.refl _ w).drew).trans (Ex.of_below hb2))
  clear hb2
  go_wp2_with fail
  refine behind_normal ⟨(Ex (fun k => k = g ∨ k = h) w), fun W h => h, XA.out, ?_⟩
  refine Phased.go ?_
  simp only [pick, List.map_cons, List.map_nil, List.getElem?_cons_zero, List.getElem?_cons_succ, Option.getD_some]
  repeat (go_big_quiet_step (fail))
  refine wpQuiet_nil ?_
  go_wp2_with fail
  refine (Store_any g h ws t (pl + nn) (nth rec nn.toNat) w2 (KA.out) HFX.out).mono ?_; rintro e w1 ⟨rfl, hb1, hx1⟩
  have XR := Lib.hid (XA.out.trans (Ex.of_ex2 (T := fun k => k = g ∨ k = h) hx1 (.inl rfl) (.inr rfl)))
  have XX := Lib.hid (XA.out.mono (T' := fun k => k = g ∨ k = h ∨ k = o) (fun k hk => hk.elim .inl (fun h => .inr (.inl h))))
  rw [errF_in HIN.out]
  go_wp2_with fail
  refine behind_normal ⟨(Ex (fun k => k = g ∨ k = h) w), fun W h => h, XR.out, ?_⟩
  refine Phased.end_ ?_
  have hne1 : Nonempty (Held (fun W => W = w1)) := ⟨⟨w1, rfl⟩⟩
  simp only [pick, List.map_cons, List.map_nil, List.getElem?_cons_zero, List.getElem?_cons_succ, Option.getD_some]
  repeat (go_big_quiet_step (fail))
  refine wpQuiet_nil ?_
  clear hne1
  clear hnonempty p0 p4 p5 p6 p7 p8 p9 p10 p11 pr
  have XQ := Lib.hid XR.out
  have B1 := Lib.hid (B0.out.ex XQ.out (by have := NE.out; omega))
  have I1 := Lib.hid (I0.out.ex XQ.out (by have := NE.out; omega))
  have X1 := Lib.hid (XQ.out.mono (T' := (fun k => k = g ∨ k = h ∨ k = o)) (fun k hk => hk.elim .inl (fun h => .inr (.inl h))))
  have K1 := Lib.hid hb1
  clear hb1 hx1 XQ XR XX XA KA HAT B0 I0 X0 K0
  have q11 := B1.out.cell 11
  simp only [List.getElem?_toArray, List.getElem?_cons_succ, List.getElem?_cons_zero] at q11
  have f11 := B1.out.frozen 11
  have hnw : wrap64 (nn + 1) = nn + 1 := HI.out.wn
  go_upto_region 25 with fail
  clear q11 f11
  have ee := ((Ex.refl (fun k => k = o) w1).setCell (q := ⟨o, 11, none⟩) (.inl rfl) (.int .i64 (nn + 1)))
  have bb := (B1.out.set_ 11 (.int .i64 (nn + 1)))
  simp only [List.setIfInBounds_toArray, List.set_cons_succ, List.set_cons_zero] at bb
  have Bw3 := Lib.hid bb
  have Iw3 := Lib.hid (I1.out.ex ee (by have := NE.out; omega))
  have Kw3 := Lib.hid (K1.out.ex ee (by have := NE.out; omega) (by have := NE.out; omega))
  have Xw3 := Lib.hid (X1.out.trans (ee.mono (fun k hk => .inr (.inr hk))))
  clear ee bb B1 I1 K1 X1
  generalize (w1.setCell ⟨o, 11, none⟩ (.int .i64 (nn + 1))) = w3 at *
  have hne3 : Nonempty (Held (fun W => W = w3.drew)) := ⟨⟨_, rfl⟩⟩
  have p0 : ∀ x : Held (fun W => W = w3.drew), x.w.cell? ⟨o, 0, none⟩ = some (.int .i64 0) := fun x => by rw [x.ok]; exact Bw3.out.drew.cell 0
  have p9 : ∀ x : Held (fun W => W = w3.drew), x.w.cell? ⟨o, 9, none⟩ = some (.slice (some ⟨r, 0, none⟩) rec.length cc) := fun x => by rw [x.ok]; exact Bw3.out.drew.cell 9
  have p11 : ∀ x : Held (fun W => W = w3.drew), x.w.cell? ⟨o, 11, none⟩ = some (.int .i64 (nn + 1)) := fun x => by rw [x.ok]; exact Bw3.out.drew.cell 11
  refine drawn_bars (S := fun _ => True) [] [0, 1, 2, 3, 4, 5, 6, 7, 8, 9] (by kernel_rfl) (by kernel_rfl) (by kernel_rfl) rfl trivial ?_
  refine Phased.end_ ?_
  simp only [pick, List.map_cons, List.map_nil, List.getElem?_cons_zero, List.getElem?_cons_succ, Option.getD_some]
  repeat (go_big_quiet_step (fail))
  refine wpQuiet_nil ?_
  clear hne3 p0 p9 p11
  have ee := (Ex.refl (fun k => k = o) w3).drew
  have bb := Bw3.out.drew
  have Bw4 := Lib.hid bb
  have Iw4 := Lib.hid (Iw3.out.ex ee (by have := NE.out; omega))
  have Kw4 := Lib.hid (Kw3.out.ex ee (by have := NE.out; omega) (by have := NE.out; omega))
  have Xw4 := Lib.hid (Xw3.out.trans (ee.mono (fun k hk => .inr (.inr hk))))
  clear ee bb Bw3 Iw3 Kw3 Xw3
  generalize w3.drew = w4 at *
  have hlast : (nn + 1 == (rec.length : Int)) = false := by have := HV.out; simpa using this
  have q0 := Bw4.out.cell 0
  have q3 := Bw4.out.cell 3
  simp only [List.getElem?_toArray, List.getElem?_cons_succ, List.getElem?_cons_zero] at q0 q3
  have f3 := Bw4.out.frozen 3
  have hst : wrap64 (steps + 1) = steps + 1 := HI.out.wst
  go_wp2_with fail
  refine wp_goto ?_
  show goOn Try.prog c0 _ 2 (.goto 2) _ _
  refine goOn_jump HC rfl ?_
  go_wp2_with fail
  clear q0 q3 f3
  have ee := ((Ex.refl (fun k => k = o) w4).setCell (q := ⟨o, 3, none⟩) (.inl rfl) (.int .i64 (steps + 1)))
  have bb := (Bw4.out.set_ 3 (.int .i64 (steps + 1)))
  simp only [List.setIfInBounds_toArray, List.set_cons_succ, List.set_cons_zero] at bb
  have Bwz := Lib.hid bb
  have Iwz := Lib.hid (Iw4.out.ex ee (by have := NE.out; omega))
  have Kwz := Lib.hid (Kw4.out.ex ee (by have := NE.out; omega) (by have := NE.out; omega))
  have Xwz := Lib.hid (Xw4.out.trans (ee.mono (fun k hk => .inr (.inr hk))))
  clear ee bb Bw4 Iw4 Kw4 Xw4
  first | rw [goOn_ret] | skip
  go_ret
  exact ⟨rfl, Kwz.out, ⟨Bwz.out, Iwz.out, NE.out.2⟩, Xwz.out⟩

set_option maxRecDepth 100000 in
set_option maxHeartbeats 4000000 in
theorem S_fill_last (g h o r cc : Nat) (ws : List Int) (t : Int) (s : Spot) (rec : List Int) (tries had steps sq nn : Int) (w : World) (hb : BankAt w g h ws t) (ho : OpAt w o r cc s rec tries ⟨0, 2, had, steps, sq, nn⟩) (hi : WInv s rec tries ⟨0, 2, had, steps, sq, nn⟩)
    (ne : o ≠ g ∧ o ≠ h ∧ r ≠ g ∧ r ≠ h) (hin : inW ws (atF s (IntKind.u64.wrap (sq / 2 + 1)) + nn)) (hv : nn + 1 = (rec.length : Int)) :
    Calls Try.prog 24 #[.pointer (some ⟨o, 0, none⟩), .pointer (some ⟨g, 0, none⟩)] w fun e w' => e = .returned (.int .i64 (WS.how ⟨0, 3, had, steps + 1, sq, nn + 1⟩)) ∧ BankAt w' g h (setF ws (atF s (IntKind.u64.wrap (sq / 2 + 1)) + nn) (nth rec nn.toNat)) (tickF ws (atF s (IntKind.u64.wrap (sq / 2 + 1)) + nn) t) ∧ OpAt w' o r cc s rec tries ⟨0, 3, had, steps + 1, sq, nn + 1⟩ ∧ Ex (fun k => k = g ∨ k = h ∨ k = o) w w' := by
  have B0 := Lib.hid ho.head
  have I0 := Lib.hid ho.row
  have K0 := Lib.hid hb
  have X0 := Lib.hid (Ex.refl (fun k => k = g ∨ k = h ∨ k = o) w)
  have HI := Lib.hid hi
  have NE := Lib.hid (show (o ≠ g ∧ o ≠ h ∧ r ≠ g ∧ r ≠ h) ∧ o ≠ r from ⟨ne, ho.ne⟩)
  unfold opCs at B0
  simp only at B0
  have hn0 : 0 ≤ nn := hi.n.1
  have hn1 : nn < (rec.length : Int) := by have h1 := hi.n.2 rfl rfl; have h2 := hi.len; simp only at h1 h2; omega
  have hn2 : nn.toNat < rec.length := by omega
  have HG1 := Lib.hid hi.gen
  have HG2 := Lib.hid (hi.place)
  have HAT := Lib.hid (fun W => At_any s (IntKind.u64.wrap (sq / 2 + 1)) W (u64_wrap_range _) hi.right.atOk)
  unfold Spot.val at HAT
  generalize hpl : atF s (IntKind.u64.wrap (sq / 2 + 1)) = pl at *
  have HPL := Lib.hid hpl
  have hwa : wrap64 (pl + nn) = pl + nn := HG2.out
  have HFX := Lib.hid (hi.fit _ (nth_mem hn2))
  clear hpl HG1 HG2
  have HIN := Lib.hid hin
  have HV := Lib.hid hv
  clear ho hb hi ne hin hv
  have q0 := B0.out.cell 0
  have q1 := B0.out.cell 1
  simp only [List.getElem?_toArray, List.getElem?_cons_succ, List.getElem?_cons_zero] at q0 q1
  go_enter Try.func24, Try.ntmps24
  go_wp2_with fail
  refine wp_scope_ahead 2 (fun c0 HC => ?_)
  go_upto_region 22 with fail
  clear q0 q1
  have hnonempty : Nonempty (Held (Ex (fun k => k = g ∨ k = h) w)) := ⟨⟨w, Ex.refl _ w⟩⟩
  have p0 : ∀ x : Held (Ex (fun k => k = g ∨ k = h) w), x.w.cell? ⟨o, 0, none⟩ = some (.int .i64 0) := fun x => (B0.out.ex x.ok (by have := NE.out; omega)).cell 0
  have p4 : ∀ x : Held (Ex (fun k => k = g ∨ k = h) w), x.w.cell? ⟨o, 4, none⟩ = some (.int .i64 s.owners) := fun x => (B0.out.ex x.ok (by have := NE.out; omega)).cell 4
  have p5 : ∀ x : Held (Ex (fun k => k = g ∨ k = h) w), x.w.cell? ⟨o, 5, none⟩ = some (.int .i64 s.seq) := fun x => (B0.out.ex x.ok (by have := NE.out; omega)).cell 5
  have p6 : ∀ x : Held (Ex (fun k => k = g ∨ k = h) w), x.w.cell? ⟨o, 6, none⟩ = some (.int .i64 s.first) := fun x => (B0.out.ex x.ok (by have := NE.out; omega)).cell 6
  have p7 : ∀ x : Held (Ex (fun k => k = g ∨ k = h) w), x.w.cell? ⟨o, 7, none⟩ = some (.int .i64 s.words) := fun x => (B0.out.ex x.ok (by have := NE.out; omega)).cell 7
  have p8 : ∀ x : Held (Ex (fun k => k = g ∨ k = h) w), x.w.cell? ⟨o, 8, none⟩ = some (.int .i64 s.depth) := fun x => (B0.out.ex x.ok (by have := NE.out; omega)).cell 8
  have p9 : ∀ x : Held (Ex (fun k => k = g ∨ k = h) w), x.w.cell? ⟨o, 9, none⟩ = some (.slice (some ⟨r, 0, none⟩) rec.length cc) := fun x => (B0.out.ex x.ok (by have := NE.out; omega)).cell 9
  have p10 : ∀ x : Held (Ex (fun k => k = g ∨ k = h) w), x.w.cell? ⟨o, 10, none⟩ = some (.int .u64 sq) := fun x => (B0.out.ex x.ok (by have := NE.out; omega)).cell 10
  have p11 : ∀ x : Held (Ex (fun k => k = g ∨ k = h) w), x.w.cell? ⟨o, 11, none⟩ = some (.int .i64 nn) := fun x => (B0.out.ex x.ok (by have := NE.out; omega)).cell 11
  have pr : ∀ x : Held (Ex (fun k => k = g ∨ k = h) w), x.w.cell? ⟨r, nn.toNat, none⟩ = some (.int .u64 (nth rec nn.toNat)) := fun x => (I0.out.ex x.ok (by have := NE.out; omega)).at_ nn.toNat hn2
  refine drawn_bars (S := (Ex (fun k => k = g ∨ k = h) w)) [([0, 1, 2, 3, 4, 5, 6, 7, 8, 12, 13, 14, 15, 17, 18, 19, 20, 21, 22, 23, 24, 25, 26], 9), ([10], 11), ([16], 27)] [28] (by kernel_rfl) (by kernel_rfl) (by kernel_rfl) rfl (Ex.refl _ w).drew ?_
  refine Phased.go ?_
  simp only [pick, List.map_cons, List.map_nil, List.getElem?_cons_zero, List.getElem?_cons_succ, Option.getD_some]
  repeat (go_big_quiet_step (fail))
  refine wpQuiet_nil ?_
  go_wp2_with fail
  refine (Gen_any sq _).mono ?_; rintro e w2 ⟨rfl, rfl⟩
  go_wp2_with fail
  refine behind_normal ⟨(Ex (fun k => k = g ∨ k = h) w), fun W h => h, (Ex.refl _ w).drew, ?_⟩
  refine Phased.go ?_
  simp only [pick, List.map_cons, List.map_nil, List.getElem?_cons_zero, List.getElem?_cons_succ, Option.getD_some]
  repeat (go_big_quiet_step (fail))
  refine wpQuiet_nil ?_
  go_wp2_with fail
  refine (HAT.out _).mono ?_; rintro e w2 ⟨rfl, hb2⟩
  have KA := Lib.hid (K0.out.ex (T := fun _ => False) (((Ex.refl _ w).drew).trans (Ex.of_below hb2)) (by simp) (by simp))
  have XA := Lib.hid (show Ex (fun k => k = g ∨ k = h) w w2 from ((Ex.refl _ w).drew).trans (Ex.of_below hb2))
  clear hb2
  go_wp2_with fail
  refine behind_normal ⟨(Ex (fun k => k = g ∨ k = h) w), fun W h => h, XA.out, ?_⟩
  refine Phased.go ?_
  simp only [pick, List.map_cons, List.map_nil, List.getElem?_cons_zero, List.getElem?_cons_succ, Option.getD_some]
  repeat (go_big_quiet_step (fail))
  refine wpQuiet_nil ?_
  go_wp2_with fail
  refine (Store_any g h ws t (pl + nn) (nth rec nn.toNat) w2 (KA.out) HFX.out).mono ?_; rintro e w1 ⟨rfl, hb1, hx1⟩
  have XR := Lib.hid (XA.out.trans (Ex.of_ex2 (T := fun k => k = g ∨ k = h) hx1 (.inl rfl) (.inr rfl)))
  have XX := Lib.hid (XA.out.mono (T' := fun k => k = g ∨ k = h ∨ k = o) (fun k hk => hk.elim .inl (fun h => .inr (.inl h))))
  rw [errF_in HIN.out]
  go_wp2_with fail
  refine behind_normal ⟨(Ex (fun k => k = g ∨ k = h) w), fun W h => h, XR.out, ?_⟩
  refine Phased.end_ ?_
  have hne1 : Nonempty (Held (fun W => W = w1)) := ⟨⟨w1, rfl⟩⟩
  simp only [pick, List.map_cons, List.map_nil, List.getElem?_cons_zero, List.getElem?_cons_succ, Option.getD_some]
  repeat (go_big_quiet_step (fail))
  refine wpQuiet_nil ?_
  clear hne1
  clear hnonempty p0 p4 p5 p6 p7 p8 p9 p10 p11 pr
  have XQ := Lib.hid XR.out
  have B1 := Lib.hid (B0.out.ex XQ.out (by have := NE.out; omega))
  have I1 := Lib.hid (I0.out.ex XQ.out (by have := NE.out; omega))
  have X1 := Lib.hid (XQ.out.mono (T' := (fun k => k = g ∨ k = h ∨ k = o)) (fun k hk => hk.elim .inl (fun h => .inr (.inl h))))
  have K1 := Lib.hid hb1
  clear hb1 hx1 XQ XR XX XA KA HAT B0 I0 X0 K0
  have q11 := B1.out.cell 11
  simp only [List.getElem?_toArray, List.getElem?_cons_succ, List.getElem?_cons_zero] at q11
  have f11 := B1.out.frozen 11
  have hnw : wrap64 (nn + 1) = nn + 1 := HI.out.wn
  go_upto_region 25 with fail
  clear q11 f11
  have ee := ((Ex.refl (fun k => k = o) w1).setCell (q := ⟨o, 11, none⟩) (.inl rfl) (.int .i64 (nn + 1)))
  have bb := (B1.out.set_ 11 (.int .i64 (nn + 1)))
  simp only [List.setIfInBounds_toArray, List.set_cons_succ, List.set_cons_zero] at bb
  have Bw3 := Lib.hid bb
  have Iw3 := Lib.hid (I1.out.ex ee (by have := NE.out; omega))
  have Kw3 := Lib.hid (K1.out.ex ee (by have := NE.out; omega) (by have := NE.out; omega))
  have Xw3 := Lib.hid (X1.out.trans (ee.mono (fun k hk => .inr (.inr hk))))
  clear ee bb B1 I1 K1 X1
  generalize (w1.setCell ⟨o, 11, none⟩ (.int .i64 (nn + 1))) = w3 at *
  have hne3 : Nonempty (Held (fun W => W = w3.drew)) := ⟨⟨_, rfl⟩⟩
  have p0 : ∀ x : Held (fun W => W = w3.drew), x.w.cell? ⟨o, 0, none⟩ = some (.int .i64 0) := fun x => by rw [x.ok]; exact Bw3.out.drew.cell 0
  have p9 : ∀ x : Held (fun W => W = w3.drew), x.w.cell? ⟨o, 9, none⟩ = some (.slice (some ⟨r, 0, none⟩) rec.length cc) := fun x => by rw [x.ok]; exact Bw3.out.drew.cell 9
  have p11 : ∀ x : Held (fun W => W = w3.drew), x.w.cell? ⟨o, 11, none⟩ = some (.int .i64 (nn + 1)) := fun x => by rw [x.ok]; exact Bw3.out.drew.cell 11
  refine drawn_bars (S := fun _ => True) [] [0, 1, 2, 3, 4, 5, 6, 7, 8, 9] (by kernel_rfl) (by kernel_rfl) (by kernel_rfl) rfl trivial ?_
  refine Phased.end_ ?_
  simp only [pick, List.map_cons, List.map_nil, List.getElem?_cons_zero, List.getElem?_cons_succ, Option.getD_some]
  repeat (go_big_quiet_step (fail))
  refine wpQuiet_nil ?_
  clear hne3 p0 p9 p11
  have ee := (Ex.refl (fun k => k = o) w3).drew
  have bb := Bw3.out.drew
  have Bw4 := Lib.hid bb
  have Iw4 := Lib.hid (Iw3.out.ex ee (by have := NE.out; omega))
  have Kw4 := Lib.hid (Kw3.out.ex ee (by have := NE.out; omega) (by have := NE.out; omega))
  have Xw4 := Lib.hid (Xw3.out.trans (ee.mono (fun k hk => .inr (.inr hk))))
  clear ee bb Bw3 Iw3 Kw3 Xw3
  generalize w3.drew = w4 at *
  have hlast : (nn + 1 == (rec.length : Int)) = true := by have := HV.out; simpa using this
  have q0 := Bw4.out.cell 0
  have q1 := Bw4.out.cell 1
  have q3 := Bw4.out.cell 3
  simp only [List.getElem?_toArray, List.getElem?_cons_succ, List.getElem?_cons_zero] at q0 q1 q3
  have f1 := Bw4.out.frozen 1
  have f3 := Bw4.out.frozen 3
  have hst : wrap64 (steps + 1) = steps + 1 := HI.out.wst
  go_wp2_with fail
  refine wp_goto ?_
  show goOn Try.prog c0 _ 2 (.goto 2) _ _
  refine goOn_jump HC rfl ?_
  go_wp2_with fail
  clear q0 q1 q3 f1 f3
  have ee := (((Ex.refl (fun k => k = o) w4).setCell (q := ⟨o, 1, none⟩) (.inl rfl) (.int .i64 3)).setCell (q := ⟨o, 3, none⟩) (.inl rfl) (.int .i64 (steps + 1)))
  have bb := ((Bw4.out.set_ 1 (.int .i64 3)).set_ 3 (.int .i64 (steps + 1)))
  simp only [List.setIfInBounds_toArray, List.set_cons_succ, List.set_cons_zero] at bb
  have Bwz := Lib.hid bb
  have Iwz := Lib.hid (Iw4.out.ex ee (by have := NE.out; omega))
  have Kwz := Lib.hid (Kw4.out.ex ee (by have := NE.out; omega) (by have := NE.out; omega))
  have Xwz := Lib.hid (Xw4.out.trans (ee.mono (fun k hk => .inr (.inr hk))))
  clear ee bb Bw4 Iw4 Kw4 Xw4
  first | rw [goOn_ret] | skip
  go_ret
  exact ⟨rfl, Kwz.out, ⟨Bwz.out, Iwz.out, NE.out.2⟩, Xwz.out⟩

set_option maxRecDepth 100000 in
set_option maxHeartbeats 4000000 in
theorem S_give_out (g h o r cc : Nat) (ws : List Int) (t : Int) (s : Spot) (rec : List Int) (tries had steps sq nn : Int) (w : World) (hb : BankAt w g h ws t) (ho : OpAt w o r cc s rec tries ⟨0, 3, had, steps, sq, nn⟩) (hi : WInv s rec tries ⟨0, 3, had, steps, sq, nn⟩)
    (ne : o ≠ g ∧ o ≠ h ∧ r ≠ g ∧ r ≠ h) (hin : ¬ inW ws s.seq) :
    Calls Try.prog 24 #[.pointer (some ⟨o, 0, none⟩), .pointer (some ⟨g, 0, none⟩)] w fun e w' => e = .returned (.int .i64 (WS.how ⟨3, 3, had, steps, sq, nn⟩)) ∧ BankAt w' g h (ws) (tickF ws s.seq t) ∧ OpAt w' o r cc s rec tries ⟨3, 3, had, steps, sq, nn⟩ ∧ Ex (fun k => k = g ∨ k = h ∨ k = o) w w' := by
  have B0 := Lib.hid ho.head
  have I0 := Lib.hid ho.row
  have K0 := Lib.hid hb
  have X0 := Lib.hid (Ex.refl (fun k => k = g ∨ k = h ∨ k = o) w)
  have HI := Lib.hid hi
  have NE := Lib.hid (show (o ≠ g ∧ o ≠ h ∧ r ≠ g ∧ r ≠ h) ∧ o ≠ r from ⟨ne, ho.ne⟩)
  unfold opCs at B0
  simp only at B0
  have HC2 := Lib.hid (Store_any g h ws t s.seq (IntKind.u64.wrap (sq + 2)) w.drew (hb.drewN 1) (u64_wrap_range _))
  have HIN := Lib.hid hin
  clear ho hb hi ne hin
  have q0 := B0.out.cell 0
  have q1 := B0.out.cell 1
  simp only [List.getElem?_toArray, List.getElem?_cons_succ, List.getElem?_cons_zero] at q0 q1
  go_enter Try.func24, Try.ntmps24
  go_wp2_with fail
  refine wp_scope_ahead 2 (fun c0 HC => ?_)
  go_upto_region 8 with fail
  clear q0 q1
  have hnonempty : Nonempty (Held (Ex (fun k => k = g ∨ k = h) w)) := ⟨⟨w, Ex.refl _ w⟩⟩
  have p0 : ∀ x : Held (Ex (fun k => k = g ∨ k = h) w), x.w.cell? ⟨o, 0, none⟩ = some (.int .i64 0) := fun x => (B0.out.ex x.ok (by have := NE.out; omega)).cell 0
  have p5 : ∀ x : Held (Ex (fun k => k = g ∨ k = h) w), x.w.cell? ⟨o, 5, none⟩ = some (.int .i64 s.seq) := fun x => (B0.out.ex x.ok (by have := NE.out; omega)).cell 5
  have p10 : ∀ x : Held (Ex (fun k => k = g ∨ k = h) w), x.w.cell? ⟨o, 10, none⟩ = some (.int .u64 sq) := fun x => (B0.out.ex x.ok (by have := NE.out; omega)).cell 10
  refine drawn_bars (S := (Ex (fun k => k = g ∨ k = h) w)) [([0, 1, 2, 3, 4, 5, 6, 7, 8, 9, 10], 11)] [12] (by kernel_rfl) (by kernel_rfl) (by kernel_rfl) rfl (Ex.refl _ w).drew ?_
  refine Phased.go ?_
  simp only [pick, List.map_cons, List.map_nil, List.getElem?_cons_zero, List.getElem?_cons_succ, Option.getD_some]
  repeat (go_big_quiet_step (fail))
  refine wpQuiet_nil ?_
  go_wp2_with fail
  refine HC2.out.mono ?_; rintro e w1 ⟨rfl, hb1, hx1⟩
  have XR := Lib.hid ((Ex.of_ex2 (T := fun k => k = g ∨ k = h) hx1 (.inl rfl) (.inr rfl)).undrew)
  rw [errF_out HIN.out]
  rw [setF_out HIN.out] at hb1
  go_wp2_with fail
  refine behind_normal ⟨(Ex (fun k => k = g ∨ k = h) w), fun W h => h, XR.out, ?_⟩
  refine Phased.end_ ?_
  have hne1 : Nonempty (Held (fun W => W = w1)) := ⟨⟨w1, rfl⟩⟩
  simp only [pick, List.map_cons, List.map_nil, List.getElem?_cons_zero, List.getElem?_cons_succ, Option.getD_some]
  repeat (go_big_quiet_step (fail))
  refine wpQuiet_nil ?_
  clear hne1
  have hx2 := hx1.undrew
  clear hnonempty p0 p5 p10
  have ee := Ex.of_ex2 (T := fun k => k = g ∨ k = h) hx2 (.inl rfl) (.inr rfl)
  have Bw1 := Lib.hid (B0.out.ex ee (by have := NE.out; omega))
  have Iw1 := Lib.hid (I0.out.ex ee (by have := NE.out; omega))
  have Xw1 := Lib.hid (X0.out.trans (ee.mono (fun k hk => hk.elim .inl (fun h => .inr (.inl h)))))
  have Kw1 := Lib.hid hb1
  clear ee hb1 hx2 B0 I0 K0 X0
  clear hx1 XR HC2
  have q0 := Bw1.out.cell 0
  simp only [List.getElem?_toArray, List.getElem?_cons_succ, List.getElem?_cons_zero] at q0
  have f0 := Bw1.out.frozen 0
  go_wp2_with fail
  refine wp_goto ?_
  show goOn Try.prog c0 _ 2 (.goto 0) _ _
  refine goOn_jump HC rfl ?_
  go_wp2_with fail
  clear q0 f0
  have ee := ((Ex.refl (fun k => k = o) w1).setCell (q := ⟨o, 0, none⟩) (.inl rfl) (.int .i64 3))
  have bb := (Bw1.out.set_ 0 (.int .i64 3))
  simp only [List.setIfInBounds_toArray, List.set_cons_succ, List.set_cons_zero] at bb
  have Bwz := Lib.hid bb
  have Iwz := Lib.hid (Iw1.out.ex ee (by have := NE.out; omega))
  have Kwz := Lib.hid (Kw1.out.ex ee (by have := NE.out; omega) (by have := NE.out; omega))
  have Xwz := Lib.hid (Xw1.out.trans (ee.mono (fun k hk => .inr (.inr hk))))
  clear ee bb Bw1 Iw1 Kw1 Xw1
  first | rw [goOn_ret] | skip
  go_ret
  exact ⟨rfl, Kwz.out, ⟨Bwz.out, Iwz.out, NE.out.2⟩, Xwz.out⟩

set_option maxRecDepth 100000 in
set_option maxHeartbeats 4000000 in
theorem S_give (g h o r cc : Nat) (ws : List Int) (t : Int) (s : Spot) (rec : List Int) (tries had steps sq nn : Int) (w : World) (hb : BankAt w g h ws t) (ho : OpAt w o r cc s rec tries ⟨0, 3, had, steps, sq, nn⟩) (hi : WInv s rec tries ⟨0, 3, had, steps, sq, nn⟩)
    (ne : o ≠ g ∧ o ≠ h ∧ r ≠ g ∧ r ≠ h) (hin : inW ws s.seq) :
    Calls Try.prog 24 #[.pointer (some ⟨o, 0, none⟩), .pointer (some ⟨g, 0, none⟩)] w fun e w' => e = .returned (.int .i64 (WS.how ⟨1, 3, had, steps + 1, sq, nn⟩)) ∧ BankAt w' g h (setF ws s.seq (IntKind.u64.wrap (sq + 2))) (tickF ws s.seq t) ∧ OpAt w' o r cc s rec tries ⟨1, 3, had, steps + 1, sq, nn⟩ ∧ Ex (fun k => k = g ∨ k = h ∨ k = o) w w' := by
  have B0 := Lib.hid ho.head
  have I0 := Lib.hid ho.row
  have K0 := Lib.hid hb
  have X0 := Lib.hid (Ex.refl (fun k => k = g ∨ k = h ∨ k = o) w)
  have HI := Lib.hid hi
  have NE := Lib.hid (show (o ≠ g ∧ o ≠ h ∧ r ≠ g ∧ r ≠ h) ∧ o ≠ r from ⟨ne, ho.ne⟩)
  unfold opCs at B0
  simp only at B0
  have HC2 := Lib.hid (Store_any g h ws t s.seq (IntKind.u64.wrap (sq + 2)) w.drew (hb.drewN 1) (u64_wrap_range _))
  have HIN := Lib.hid hin
  clear ho hb hi ne hin
  have q0 := B0.out.cell 0
  have q1 := B0.out.cell 1
  simp only [List.getElem?_toArray, List.getElem?_cons_succ, List.getElem?_cons_zero] at q0 q1
  go_enter Try.func24, Try.ntmps24
  go_wp2_with fail
  refine wp_scope_ahead 2 (fun c0 HC => ?_)
  go_upto_region 8 with fail
  clear q0 q1
  have hnonempty : Nonempty (Held (Ex (fun k => k = g ∨ k = h) w)) := ⟨⟨w, Ex.refl _ w⟩⟩
  have p0 : ∀ x : Held (Ex (fun k => k = g ∨ k = h) w), x.w.cell? ⟨o, 0, none⟩ = some (.int .i64 0) := fun x => (B0.out.ex x.ok (by have := NE.out; omega)).cell 0
  have p5 : ∀ x : Held (Ex (fun k => k = g ∨ k = h) w), x.w.cell? ⟨o, 5, none⟩ = some (.int .i64 s.seq) := fun x => (B0.out.ex x.ok (by have := NE.out; omega)).cell 5
  have p10 : ∀ x : Held (Ex (fun k => k = g ∨ k = h) w), x.w.cell? ⟨o, 10, none⟩ = some (.int .u64 sq) := fun x => (B0.out.ex x.ok (by have := NE.out; omega)).cell 10
  refine drawn_bars (S := (Ex (fun k => k = g ∨ k = h) w)) [([0, 1, 2, 3, 4, 5, 6, 7, 8, 9, 10], 11)] [12] (by kernel_rfl) (by kernel_rfl) (by kernel_rfl) rfl (Ex.refl _ w).drew ?_
  refine Phased.go ?_
  simp only [pick, List.map_cons, List.map_nil, List.getElem?_cons_zero, List.getElem?_cons_succ, Option.getD_some]
  repeat (go_big_quiet_step (fail))
  refine wpQuiet_nil ?_
  go_wp2_with fail
  refine HC2.out.mono ?_; rintro e w1 ⟨rfl, hb1, hx1⟩
  have XR := Lib.hid ((Ex.of_ex2 (T := fun k => k = g ∨ k = h) hx1 (.inl rfl) (.inr rfl)).undrew)
  rw [errF_in HIN.out]
  go_wp2_with fail
  refine behind_normal ⟨(Ex (fun k => k = g ∨ k = h) w), fun W h => h, XR.out, ?_⟩
  refine Phased.end_ ?_
  have hne1 : Nonempty (Held (fun W => W = w1)) := ⟨⟨w1, rfl⟩⟩
  simp only [pick, List.map_cons, List.map_nil, List.getElem?_cons_zero, List.getElem?_cons_succ, Option.getD_some]
  repeat (go_big_quiet_step (fail))
  refine wpQuiet_nil ?_
  clear hne1
  have hx2 := hx1.undrew
  clear hnonempty p0 p5 p10
  have ee := Ex.of_ex2 (T := fun k => k = g ∨ k = h) hx2 (.inl rfl) (.inr rfl)
  have Bw1 := Lib.hid (B0.out.ex ee (by have := NE.out; omega))
  have Iw1 := Lib.hid (I0.out.ex ee (by have := NE.out; omega))
  have Xw1 := Lib.hid (X0.out.trans (ee.mono (fun k hk => hk.elim .inl (fun h => .inr (.inl h)))))
  have Kw1 := Lib.hid hb1
  clear ee hb1 hx2 B0 I0 K0 X0
  clear hx1 XR HC2
  have q0 := Bw1.out.cell 0
  have q3 := Bw1.out.cell 3
  simp only [List.getElem?_toArray, List.getElem?_cons_succ, List.getElem?_cons_zero] at q0 q3
  have f0 := Bw1.out.frozen 0
  have f3 := Bw1.out.frozen 3
  have hst : wrap64 (steps + 1) = steps + 1 := HI.out.wst
  go_wp2_with fail
  refine wp_goto ?_
  show goOn Try.prog c0 _ 2 (.goto 2) _ _
  refine goOn_jump HC rfl ?_
  go_wp2_with fail
  clear q0 q3 f0 f3
  have ee := (((Ex.refl (fun k => k = o) w1).setCell (q := ⟨o, 0, none⟩) (.inl rfl) (.int .i64 1)).setCell (q := ⟨o, 3, none⟩) (.inl rfl) (.int .i64 (steps + 1)))
  have bb := ((Bw1.out.set_ 0 (.int .i64 1)).set_ 3 (.int .i64 (steps + 1)))
  simp only [List.setIfInBounds_toArray, List.set_cons_succ, List.set_cons_zero] at bb
  have Bwz := Lib.hid bb
  have Iwz := Lib.hid (Iw1.out.ex ee (by have := NE.out; omega))
  have Kwz := Lib.hid (Kw1.out.ex ee (by have := NE.out; omega) (by have := NE.out; omega))
  have Xwz := Lib.hid (Xw1.out.trans (ee.mono (fun k hk => .inr (.inr hk))))
  clear ee bb Bw1 Iw1 Kw1 Xw1
  first | rw [goOn_ret] | skip
  go_ret
  exact ⟨rfl, Kwz.out, ⟨Bwz.out, Iwz.out, NE.out.2⟩, Xwz.out⟩

end Go.Proofs.Ytihogagnjikghaa.Bank
