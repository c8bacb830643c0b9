/-
  Law 12: a poll's step, walked: the second round. Printed by wip/tools/mkpoe.py. Conditions stand at each. By an AI agent.
-/
import Derived.Test.YthcaagkgddeabaaPoE
namespace Go.Proofs.Ythcaagkgddeabaa.Bank
set_option linter.unusedVariables false
set_option linter.unusedSimpArgs false
open Go Go.RowKit Go.Proofs.Ythcaagkgddeabaa.Base Go.Deep Go.ChangeShapes Go.WideShapes Go.Proofs.Ythcaagkgddeabaa.Queue
set_option maxRecDepth 100000 in
set_option maxHeartbeats 8000000 in
theorem PS_Cm (g h o rs cs rt ct q : Nat) (vw : Value) (ws : List Int) (t : Int) (c : PC) (left pk gen place size steps begun : Int) (words gl : List Int) (cu : Nat → Cur) (j : Nat) (w : World) (hb : BankAt w g h ws t)
    (ho : PAt w o rs cs rt ct q vw c ⟨left, 3, (j : Int), pk, gen, place, size, 0, steps, begun, words, gl, cu⟩) (hi : PInv c ⟨left, 3, (j : Int), pk, gen, place, size, 0, steps, begun, words, gl, cu⟩)
    (ne : o ≠ g ∧ o ≠ h ∧ rs ≠ g ∧ rs ≠ h ∧ rt ≠ g ∧ rt ≠ h ∧ q ≠ g ∧ q ≠ h) (hj : j < c.T) (hin : inW ws (c.tp j).spot.seq) (hv : j + 1 ≠ c.T) (hk : wordF ws (c.tp j).spot.seq / 2 = nth gl j) :
    Calls Try.prog 9 #[.pointer (some ⟨o, 0, none⟩), .pointer (some ⟨g, 0, none⟩)] w fun e w' => e = .returned (.int .i64 0) ∧ BankAt w' g h ws (tickF ws (c.tp j).spot.seq t) ∧ (∃ q' vw', PAt w' o rs cs rt ct q' vw' c ⟨left, 3, (j : Int) + 1, pk, gen, place, size, 0, steps + 1, begun, words, gl, cu⟩ ∧ (q' = q ∨ w.heap.size ≤ q')) ∧ Ex (fun k => k = g ∨ k = h ∨ k = o ∨ k = rs ∨ k = rt ∨ k = q) w w' := by
  have HI := Lib.hid hi
  have HJ := Lib.hid hj
  have WAP := Lib.hid ho.wap
  have QL := Lib.hid ho.qlt
  have HA := Lib.hid ho.apart
  have HIN := Lib.hid hin
  have N64 := Lib.hid (show c.n ≤ 64 ∧ c.T ≤ 64 from ⟨hi.ok.n64, Nat.le_trans hi.ok.tn hi.ok.n64⟩)
  have GLEN := Lib.hid (show gl.length = c.T from hi.fit.glen)
  have HRG := Lib.hid (fun i => wordF_range hb i)
  have B0 : RowKit.Hid (Blk w o 101 (pcs rs c.n cs rt c.T ct vw left 3 (j : Int) pk gen place size 0 steps begun)) := Lib.hid ho.box
  have S0 : RowKit.Hid (SubsIn w rs c.n (c.sub cu)) := Lib.hid ho.subs
  have P0 : RowKit.Hid (TopsIn w rt c.T c.tp gl) := Lib.hid ho.tops
  have R0 : RowKit.Hid (OwnR w vw words) := Lib.hid ho.row
  have K0 := Lib.hid hb
  have X0 := Lib.hid (Ex.refl (fun k => k = g ∨ k = h ∨ k = o ∨ k = rs ∨ k = rt ∨ k = q) w)
  have NE := Lib.hid ne
  have HV := Lib.hid hv
  have HK := Lib.hid hk
  have ORD1 := Lib.hid (show rs ≠ o ∧ rt ≠ o ∧ rs ≠ rt ∧ o ≠ g ∧ o ≠ h ∧ rs ≠ g ∧ rs ≠ h ∧ rt ≠ g ∧ rt ≠ h ∧ q ≠ g ∧ q ≠ h from by have h1 := HA.out; have h2 := NE.out; omega)
  have HJ6 := Lib.hid (show j ≤ 64 by have := N64.out; omega)
  have HNUM := Lib.hid (pstep_nums (j := j) hi.st HJ6.out)
  clear ho hb hi ne hj hin hv hk
  have b0 := B0.out.cell 0
  have b10 := B0.out.cell 10
  have b3 := B0.out.cell 3
  simp only [pcs, List.getElem?_toArray, List.getElem?_cons_zero, List.getElem?_cons_succ] at b0 b10 b3
  go_enter Try.func9, Try.ntmps9
  go_wp2_with fail
  refine wp_scope_ahead 2 (fun c0 HC => ?_)
  go_wp2_with fail
  try simp only [Exit.inBlock, Exit.then]
  refine wp_goto ?_
  show goOn Try.prog c0 _ 2 (.goto 1) _ _
  refine goOn_jump HC rfl ?_
  go_upto_region 28 with fail
  clear b0 b10 b3
  have hne : Nonempty (Held (Ex (fun k => k = g ∨ k = h) w)) := ⟨⟨w, Ex.refl _ _⟩⟩
  have p0 : ∀ y : Held (Ex (fun k => k = g ∨ k = h) w), y.w.cell? ⟨o, 0, none⟩ = some (.slice (some ⟨rs, 0, none⟩) c.n cs) := fun y => (B0.out.ex y.ok (by have o_ := ORD1.out; omega)).cell 0
  have p4 : ∀ y : Held (Ex (fun k => k = g ∨ k = h) w), y.w.cell? ⟨o, 4, none⟩ = some (.int .i64 (j : Int)) := fun y => (B0.out.ex y.ok (by have o_ := ORD1.out; omega)).cell 4
  have p1 : ∀ y : Held (Ex (fun k => k = g ∨ k = h) w), y.w.cell? ⟨o, 1, none⟩ = some (.slice (some ⟨rt, 0, none⟩) c.T ct) := fun y => (B0.out.ex y.ok (by have o_ := ORD1.out; omega)).cell 1
  have pt : ∀ y : Held (Ex (fun k => k = g ∨ k = h) w), y.w.cell? ⟨rt, j * 7 + 2, none⟩ = some (.int .i64 (c.tp j).spot.seq) := fun y => (P0.out.ex y.ok (by have o_ := ORD1.out; omega)).cells j HJ.out 2 (by decide)
  have zj0 : (0 : Int) ≤ (j : Int) := by omega
  have zj1 : (j : Int) < (c.T : Int) := by have := HJ.out; omega
  have XD := Lib.hid ((Ex.refl (fun k => k = g ∨ k = h) w).drew)
  refine drawn_bars (S := (Ex (fun k => k = g ∨ k = h) w)) [([0, 1, 2, 3, 4, 5, 6, 7, 8, 9, 10, 11, 12], 13)] [14, 15, 16, 17, 18] (by kernel_rfl) (by kernel_rfl) (by kernel_rfl) rfl (Ex.refl _ _).drew ?_
  refine Phased.go ?_
  simp only [pick, List.map_cons, List.map_nil, List.getElem?_cons_zero, List.getElem?_cons_succ, Option.getD_some]
  repeat (go_big_quiet_step (fail))
  refine wpQuiet_nil ?_
  clear hne p0 p4 p1 pt zj0 zj1
  have ee : Ex (fun _ => False) w w.drew := (Ex.refl _ w).drew
  have B2 := Lib.hid (B0.out.ex ee (fun h => h))
  have S2 := Lib.hid (S0.out.ex ee (fun h => h))
  have P2 := Lib.hid (P0.out.ex ee (fun h => h))
  have R2 := Lib.hid (R0.out.ex ee (fun k hk hT => hT))
  have K2 := Lib.hid (K0.out.ex ee (fun h => h) (fun h => h))
  have X2 := Lib.hid (X0.out.trans (ee.mono (fun k hk => hk.elim)))
  clear ee B0 S0 P0 R0 K0 X0
  generalize w.drew = w1 at *
  go_wp2_with fail
  refine (Load_any g h ws t (c.tp j).spot.seq w1 K2.out).mono ?_; rintro e w3 ⟨rfl, hb1, hx1⟩
  have XE := Lib.hid (XD.out.trans (Ex.of_ex2 (T := fun k => k = g ∨ k = h) hx1 (.inl rfl) (.inr rfl)))
  rw [errF_in HIN.out]
  have ee : Ex (fun k => k = g ∨ k = h) w1 w3 := Ex.of_ex2 (T := fun k => k = g ∨ k = h) hx1 (.inl rfl) (.inr rfl)
  have B3 := Lib.hid (B2.out.ex ee (by have o_ := ORD1.out; omega))
  have S3 := Lib.hid (S2.out.ex ee (by have o_ := ORD1.out; omega))
  have P3 := Lib.hid (P2.out.ex ee (by have o_ := ORD1.out; omega))
  have R3 := Lib.hid (R2.out.ex ee (fun k hk hT => by have hT : k = g ∨ k = h := hT; have w_ := WAP.out k hk; have o_ := ORD1.out; omega))
  have X3 := Lib.hid (X2.out.trans (ee.mono (fun k hk => show k = g ∨ k = h ∨ k = o ∨ k = rs ∨ k = rt ∨ k = q from by have hk : k = g ∨ k = h := hk; omega)))
  have K3 := Lib.hid (hb1)
  clear ee B2 S2 P2 R2 K2 X2 hb1 hx1
  obtain ⟨v, hvv⟩ : ∃ v, wordF ws (c.tp j).spot.seq = v := ⟨_, rfl⟩
  have HVV := Lib.hid hvv
  have HR := Lib.hid (show 0 ≤ v ∧ v ≤ 18446744073709551615 by rw [← hvv]; exact HRG.out _)
  rw [hvv]
  clear hvv
  go_wp2_with fail
  refine behind_normal ⟨(Ex (fun k => k = g ∨ k = h) w), fun W h => h, XE.out, ?_⟩
  refine Phased.end_ ?_
  have hne4 : Nonempty (Held (fun W => W = w3)) := ⟨⟨_, rfl⟩⟩
  simp only [pick, List.map_cons, List.map_nil, List.getElem?_cons_zero, List.getElem?_cons_succ, Option.getD_some]
  repeat (go_big_quiet_step (fail))
  refine wpQuiet_nil ?_
  clear hne4
  have hw1 := HNUM.out.1
  have b0 := B3.out.cell 0
  have b11 := B3.out.cell 11
  simp only [pcs, List.getElem?_toArray, List.getElem?_cons_zero, List.getElem?_cons_succ] at b0 b11
  have z11 := B3.out.frozen 11
  go_upto_region 31 with fail
  have bb : Blk (w3.setCell ⟨o, 11, none⟩ (.int .i64 (steps + 1))) o 101 (pcs rs c.n cs rt c.T ct vw left 3 (j : Int) pk gen place size 0 (steps + 1) begun) := ((B3.out).set_ 11 (.int .i64 (steps + 1)))
  clear hw1 b0 b11 z11
  have ee : Ex (fun k => k = o) w3 (w3.setCell ⟨o, 11, none⟩ (.int .i64 (steps + 1))) := ((Ex.refl (fun k => k = o) w3).setCell (q := ⟨o, 11, none⟩) (.inl rfl) (.int .i64 (steps + 1)))
  have S4 := Lib.hid (S3.out.ex ee (by have o_ := ORD1.out; omega))
  have P4 := Lib.hid (P3.out.ex ee (by have o_ := ORD1.out; omega))
  have R4 := Lib.hid (R3.out.ex ee (fun k hk hT => by have hT : k = o := hT; have w_ := WAP.out k hk; have o_ := ORD1.out; omega))
  have K4 := Lib.hid (K3.out.ex ee (by have o_ := ORD1.out; omega) (by have o_ := ORD1.out; omega))
  have X4 := Lib.hid (X3.out.trans (ee.mono (fun k hk => show k = g ∨ k = h ∨ k = o ∨ k = rs ∨ k = rt ∨ k = q from by have hk : k = o := hk; omega)))
  have B4 := Lib.hid (bb)
  clear ee B3 S3 P3 R3 K3 X3 bb
  generalize (w3.setCell ⟨o, 11, none⟩ (.int .i64 (steps + 1))) = w4 at *
  have hne : Nonempty (Held (fun W => W = w4.drew)) := ⟨⟨_, rfl⟩⟩
  have p0 : ∀ y : Held (fun W => W = w4.drew), y.w.cell? ⟨o, 0, none⟩ = some (.slice (some ⟨rs, 0, none⟩) c.n cs) := fun y => by rw [y.ok]; exact B4.out.cell 0
  have p1 : ∀ y : Held (fun W => W = w4.drew), y.w.cell? ⟨o, 1, none⟩ = some (.slice (some ⟨rt, 0, none⟩) c.T ct) := fun y => by rw [y.ok]; exact B4.out.cell 1
  have p4 : ∀ y : Held (fun W => W = w4.drew), y.w.cell? ⟨o, 4, none⟩ = some (.int .i64 (j : Int)) := fun y => by rw [y.ok]; exact B4.out.cell 4
  have pt : ∀ y : Held (fun W => W = w4.drew), y.w.cell? ⟨rt, j * 7 + 6, none⟩ = some (.int .u64 (nth gl j)) := fun y => by rw [y.ok]; exact P4.out.cells j HJ.out 6 (by decide)
  have zj0 : (0 : Int) ≤ (j : Int) := by omega
  have zj1 : (j : Int) < (c.T : Int) := by have := HJ.out; omega
  refine drawn_bars (S := (fun W => W = w4.drew)) [([0, 2, 3, 4, 5, 6, 7, 8, 9, 10, 11, 12], 1)] [13] (by kernel_rfl) (by kernel_rfl) (by kernel_rfl) rfl rfl ?_
  refine Phased.go ?_
  simp only [pick, List.map_cons, List.map_nil, List.getElem?_cons_zero, List.getElem?_cons_succ, Option.getD_some]
  repeat (go_big_quiet_step (fail))
  refine wpQuiet_nil ?_
  go_wp2_with fail
  refine (Gen_any v _).mono ?_; rintro e w6 ⟨rfl, rfl⟩
  go_wp2_with fail
  refine behind_normal ⟨(fun W => W = w4.drew), fun W h => h, rfl, ?_⟩
  refine Phased.end_ ?_
  simp only [pick, List.map_cons, List.map_nil, List.getElem?_cons_zero, List.getElem?_cons_succ, Option.getD_some]
  repeat (go_big_quiet_step (fail))
  refine wpQuiet_nil ?_
  clear hne p0 p1 p4 pt zj0 zj1
  have ee : Ex (fun _ => False) w4 w4.drew := (Ex.refl _ w4).drew
  have B5 := Lib.hid (B4.out.ex ee (fun h => h))
  have S5 := Lib.hid (S4.out.ex ee (fun h => h))
  have P5 := Lib.hid (P4.out.ex ee (fun h => h))
  have R5 := Lib.hid (R4.out.ex ee (fun k hk hT => hT))
  have K5 := Lib.hid (K4.out.ex ee (fun h => h) (fun h => h))
  have X5 := Lib.hid (X4.out.trans (ee.mono (fun k hk => hk.elim)))
  clear ee B4 S4 P4 R4 K4 X4
  generalize w4.drew = w5 at *
  have kv : ((v / 2) != (nth gl j)) = false := by have h := HK.out; rw [HVV.out] at h; rw [h]; exact bne_self_eq_false _
  have hw2 := HNUM.out.2
  have b0 := B5.out.cell 0
  have b4 := B5.out.cell 4
  simp only [pcs, List.getElem?_toArray, List.getElem?_cons_zero, List.getElem?_cons_succ] at b0 b4
  have z4 := B5.out.frozen 4
  go_upto_region 33 with fail
  have bb : Blk (w5.setCell ⟨o, 4, none⟩ (.int .i64 ((j : Int) + 1))) o 101 (pcs rs c.n cs rt c.T ct vw left 3 ((j : Int) + 1) pk gen place size 0 (steps + 1) begun) := ((B5.out).set_ 4 (.int .i64 ((j : Int) + 1)))
  clear kv hw2 b0 b4 z4
  have ee : Ex (fun k => k = o) w5 (w5.setCell ⟨o, 4, none⟩ (.int .i64 ((j : Int) + 1))) := ((Ex.refl (fun k => k = o) w5).setCell (q := ⟨o, 4, none⟩) (.inl rfl) (.int .i64 ((j : Int) + 1)))
  have S6 := Lib.hid (S5.out.ex ee (by have o_ := ORD1.out; omega))
  have P6 := Lib.hid (P5.out.ex ee (by have o_ := ORD1.out; omega))
  have R6 := Lib.hid (R5.out.ex ee (fun k hk hT => by have hT : k = o := hT; have w_ := WAP.out k hk; have o_ := ORD1.out; omega))
  have K6 := Lib.hid (K5.out.ex ee (by have o_ := ORD1.out; omega) (by have o_ := ORD1.out; omega))
  have X6 := Lib.hid (X5.out.trans (ee.mono (fun k hk => show k = g ∨ k = h ∨ k = o ∨ k = rs ∨ k = rt ∨ k = q from by have hk : k = o := hk; omega)))
  have B6 := Lib.hid (bb)
  clear ee B5 S5 P5 R5 K5 X5 bb
  generalize (w5.setCell ⟨o, 4, none⟩ (.int .i64 ((j : Int) + 1))) = w7 at *
  have hne : Nonempty (Held (fun W => W = w7.drew)) := ⟨⟨_, rfl⟩⟩
  have p0 : ∀ y : Held (fun W => W = w7.drew), y.w.cell? ⟨o, 0, none⟩ = some (.slice (some ⟨rs, 0, none⟩) c.n cs) := fun y => by rw [y.ok]; exact B6.out.cell 0
  have p1 : ∀ y : Held (fun W => W = w7.drew), y.w.cell? ⟨o, 1, none⟩ = some (.slice (some ⟨rt, 0, none⟩) c.T ct) := fun y => by rw [y.ok]; exact B6.out.cell 1
  have p4 : ∀ y : Held (fun W => W = w7.drew), y.w.cell? ⟨o, 4, none⟩ = some (.int .i64 ((j : Int) + 1)) := fun y => by rw [y.ok]; exact B6.out.cell 4
  refine drawn_bars (S := fun _ => True) [] [0, 1, 2, 3, 4, 5, 6, 7, 8, 9] (by kernel_rfl) (by kernel_rfl) (by kernel_rfl) rfl trivial ?_
  refine Phased.end_ ?_
  simp only [pick, List.map_cons, List.map_nil, List.getElem?_cons_zero, List.getElem?_cons_succ, Option.getD_some]
  repeat (go_big_quiet_step (fail))
  refine wpQuiet_nil ?_
  clear hne p0 p1 p4
  have ee : Ex (fun _ => False) w7 w7.drew := (Ex.refl _ w7).drew
  have B7 := Lib.hid (B6.out.ex ee (fun h => h))
  have S7 := Lib.hid (S6.out.ex ee (fun h => h))
  have P7 := Lib.hid (P6.out.ex ee (fun h => h))
  have R7 := Lib.hid (R6.out.ex ee (fun k hk hT => hT))
  have K7 := Lib.hid (K6.out.ex ee (fun h => h) (fun h => h))
  have X7 := Lib.hid (X6.out.trans (ee.mono (fun k hk => hk.elim)))
  clear ee B6 S6 P6 R6 K6 X6
  generalize w7.drew = w8 at *
  have ke : (((j : Int) + 1) == (c.T : Int)) = false := by have := HV.out; exact beq_eq_false_iff_ne.2 (by omega)
  have b0 := B7.out.cell 0
  have b10 := B7.out.cell 10
  simp only [pcs, List.getElem?_toArray, List.getElem?_cons_zero, List.getElem?_cons_succ] at b0 b10
  go_wp2_with fail
  clear ke b0 b10
  first | rw [goOn_ret] | skip
  go_ret
  exact ⟨rfl, K7.out, ⟨q, vw, ⟨B7.out, S7.out, P7.out, R7.out, Nat.lt_of_lt_of_le QL.out X7.out.size, HA.out, WAP.out⟩, .inl rfl⟩, X7.out⟩
set_option maxRecDepth 100000 in
set_option maxHeartbeats 8000000 in
theorem PS_Cl (g h o rs cs rt ct q : Nat) (vw : Value) (ws : List Int) (t : Int) (c : PC) (left pk gen place size steps begun : Int) (words gl : List Int) (cu : Nat → Cur) (j : Nat) (w : World) (hb : BankAt w g h ws t)
    (ho : PAt w o rs cs rt ct q vw c ⟨left, 3, (j : Int), pk, gen, place, size, 0, steps, begun, words, gl, cu⟩) (hi : PInv c ⟨left, 3, (j : Int), pk, gen, place, size, 0, steps, begun, words, gl, cu⟩)
    (ne : o ≠ g ∧ o ≠ h ∧ rs ≠ g ∧ rs ≠ h ∧ rt ≠ g ∧ rt ≠ h ∧ q ≠ g ∧ q ≠ h) (hj : j < c.T) (hin : inW ws (c.tp j).spot.seq) (hv : j + 1 = c.T) (hk : wordF ws (c.tp j).spot.seq / 2 = nth gl j) :
    Calls Try.prog 9 #[.pointer (some ⟨o, 0, none⟩), .pointer (some ⟨g, 0, none⟩)] w fun e w' => e = .returned (.int .i64 1) ∧ BankAt w' g h ws (tickF ws (c.tp j).spot.seq t) ∧ (∃ q' vw', PAt w' o rs cs rt ct q' vw' c (finishP c ⟨left, 3, (j : Int) + 1, pk, gen, place, size, 0, steps + 1, begun, words, gl, cu⟩) ∧ (q' = q ∨ w.heap.size ≤ q')) ∧ Ex (fun k => k = g ∨ k = h ∨ k = o ∨ k = rs ∨ k = rt ∨ k = q) w w' := by
  have HI := Lib.hid hi
  have HJ := Lib.hid hj
  have WAP := Lib.hid ho.wap
  have QL := Lib.hid ho.qlt
  have HA := Lib.hid ho.apart
  have HIN := Lib.hid hin
  have N64 := Lib.hid (show c.n ≤ 64 ∧ c.T ≤ 64 from ⟨hi.ok.n64, Nat.le_trans hi.ok.tn hi.ok.n64⟩)
  have GLEN := Lib.hid (show gl.length = c.T from hi.fit.glen)
  have HRG := Lib.hid (fun i => wordF_range hb i)
  have B0 : RowKit.Hid (Blk w o 101 (pcs rs c.n cs rt c.T ct vw left 3 (j : Int) pk gen place size 0 steps begun)) := Lib.hid ho.box
  have S0 : RowKit.Hid (SubsIn w rs c.n (c.sub cu)) := Lib.hid ho.subs
  have P0 : RowKit.Hid (TopsIn w rt c.T c.tp gl) := Lib.hid ho.tops
  have R0 : RowKit.Hid (OwnR w vw words) := Lib.hid ho.row
  have K0 := Lib.hid hb
  have X0 := Lib.hid (Ex.refl (fun k => k = g ∨ k = h ∨ k = o ∨ k = rs ∨ k = rt ∨ k = q) w)
  have NE := Lib.hid ne
  have HV := Lib.hid hv
  have HK := Lib.hid hk
  have ORD1 := Lib.hid (show rs ≠ o ∧ rt ≠ o ∧ rs ≠ rt ∧ o ≠ g ∧ o ≠ h ∧ rs ≠ g ∧ rs ≠ h ∧ rt ≠ g ∧ rt ≠ h ∧ q ≠ g ∧ q ≠ h from by have h1 := HA.out; have h2 := NE.out; omega)
  have HJ6 := Lib.hid (show j ≤ 64 by have := N64.out; omega)
  have HNUM := Lib.hid (pstep_nums (j := j) hi.st HJ6.out)
  clear ho hb hi ne hj hin hv hk
  have b0 := B0.out.cell 0
  have b10 := B0.out.cell 10
  have b3 := B0.out.cell 3
  simp only [pcs, List.getElem?_toArray, List.getElem?_cons_zero, List.getElem?_cons_succ] at b0 b10 b3
  go_enter Try.func9, Try.ntmps9
  go_wp2_with fail
  refine wp_scope_ahead 2 (fun c0 HC => ?_)
  go_wp2_with fail
  try simp only [Exit.inBlock, Exit.then]
  refine wp_goto ?_
  show goOn Try.prog c0 _ 2 (.goto 1) _ _
  refine goOn_jump HC rfl ?_
  go_upto_region 28 with fail
  clear b0 b10 b3
  have hne : Nonempty (Held (Ex (fun k => k = g ∨ k = h) w)) := ⟨⟨w, Ex.refl _ _⟩⟩
  have p0 : ∀ y : Held (Ex (fun k => k = g ∨ k = h) w), y.w.cell? ⟨o, 0, none⟩ = some (.slice (some ⟨rs, 0, none⟩) c.n cs) := fun y => (B0.out.ex y.ok (by have o_ := ORD1.out; omega)).cell 0
  have p4 : ∀ y : Held (Ex (fun k => k = g ∨ k = h) w), y.w.cell? ⟨o, 4, none⟩ = some (.int .i64 (j : Int)) := fun y => (B0.out.ex y.ok (by have o_ := ORD1.out; omega)).cell 4
  have p1 : ∀ y : Held (Ex (fun k => k = g ∨ k = h) w), y.w.cell? ⟨o, 1, none⟩ = some (.slice (some ⟨rt, 0, none⟩) c.T ct) := fun y => (B0.out.ex y.ok (by have o_ := ORD1.out; omega)).cell 1
  have pt : ∀ y : Held (Ex (fun k => k = g ∨ k = h) w), y.w.cell? ⟨rt, j * 7 + 2, none⟩ = some (.int .i64 (c.tp j).spot.seq) := fun y => (P0.out.ex y.ok (by have o_ := ORD1.out; omega)).cells j HJ.out 2 (by decide)
  have zj0 : (0 : Int) ≤ (j : Int) := by omega
  have zj1 : (j : Int) < (c.T : Int) := by have := HJ.out; omega
  have XD := Lib.hid ((Ex.refl (fun k => k = g ∨ k = h) w).drew)
  refine drawn_bars (S := (Ex (fun k => k = g ∨ k = h) w)) [([0, 1, 2, 3, 4, 5, 6, 7, 8, 9, 10, 11, 12], 13)] [14, 15, 16, 17, 18] (by kernel_rfl) (by kernel_rfl) (by kernel_rfl) rfl (Ex.refl _ _).drew ?_
  refine Phased.go ?_
  simp only [pick, List.map_cons, List.map_nil, List.getElem?_cons_zero, List.getElem?_cons_succ, Option.getD_some]
  repeat (go_big_quiet_step (fail))
  refine wpQuiet_nil ?_
  clear hne p0 p4 p1 pt zj0 zj1
  have ee : Ex (fun _ => False) w w.drew := (Ex.refl _ w).drew
  have B2 := Lib.hid (B0.out.ex ee (fun h => h))
  have S2 := Lib.hid (S0.out.ex ee (fun h => h))
  have P2 := Lib.hid (P0.out.ex ee (fun h => h))
  have R2 := Lib.hid (R0.out.ex ee (fun k hk hT => hT))
  have K2 := Lib.hid (K0.out.ex ee (fun h => h) (fun h => h))
  have X2 := Lib.hid (X0.out.trans (ee.mono (fun k hk => hk.elim)))
  clear ee B0 S0 P0 R0 K0 X0
  generalize w.drew = w1 at *
  go_wp2_with fail
  refine (Load_any g h ws t (c.tp j).spot.seq w1 K2.out).mono ?_; rintro e w3 ⟨rfl, hb1, hx1⟩
  have XE := Lib.hid (XD.out.trans (Ex.of_ex2 (T := fun k => k = g ∨ k = h) hx1 (.inl rfl) (.inr rfl)))
  rw [errF_in HIN.out]
  have ee : Ex (fun k => k = g ∨ k = h) w1 w3 := Ex.of_ex2 (T := fun k => k = g ∨ k = h) hx1 (.inl rfl) (.inr rfl)
  have B3 := Lib.hid (B2.out.ex ee (by have o_ := ORD1.out; omega))
  have S3 := Lib.hid (S2.out.ex ee (by have o_ := ORD1.out; omega))
  have P3 := Lib.hid (P2.out.ex ee (by have o_ := ORD1.out; omega))
  have R3 := Lib.hid (R2.out.ex ee (fun k hk hT => by have hT : k = g ∨ k = h := hT; have w_ := WAP.out k hk; have o_ := ORD1.out; omega))
  have X3 := Lib.hid (X2.out.trans (ee.mono (fun k hk => show k = g ∨ k = h ∨ k = o ∨ k = rs ∨ k = rt ∨ k = q from by have hk : k = g ∨ k = h := hk; omega)))
  have K3 := Lib.hid (hb1)
  clear ee B2 S2 P2 R2 K2 X2 hb1 hx1
  obtain ⟨v, hvv⟩ : ∃ v, wordF ws (c.tp j).spot.seq = v := ⟨_, rfl⟩
  have HVV := Lib.hid hvv
  have HR := Lib.hid (show 0 ≤ v ∧ v ≤ 18446744073709551615 by rw [← hvv]; exact HRG.out _)
  rw [hvv]
  clear hvv
  go_wp2_with fail
  refine behind_normal ⟨(Ex (fun k => k = g ∨ k = h) w), fun W h => h, XE.out, ?_⟩
  refine Phased.end_ ?_
  have hne4 : Nonempty (Held (fun W => W = w3)) := ⟨⟨_, rfl⟩⟩
  simp only [pick, List.map_cons, List.map_nil, List.getElem?_cons_zero, List.getElem?_cons_succ, Option.getD_some]
  repeat (go_big_quiet_step (fail))
  refine wpQuiet_nil ?_
  clear hne4
  have hw1 := HNUM.out.1
  have b0 := B3.out.cell 0
  have b11 := B3.out.cell 11
  simp only [pcs, List.getElem?_toArray, List.getElem?_cons_zero, List.getElem?_cons_succ] at b0 b11
  have z11 := B3.out.frozen 11
  go_upto_region 31 with fail
  have bb : Blk (w3.setCell ⟨o, 11, none⟩ (.int .i64 (steps + 1))) o 101 (pcs rs c.n cs rt c.T ct vw left 3 (j : Int) pk gen place size 0 (steps + 1) begun) := ((B3.out).set_ 11 (.int .i64 (steps + 1)))
  clear hw1 b0 b11 z11
  have ee : Ex (fun k => k = o) w3 (w3.setCell ⟨o, 11, none⟩ (.int .i64 (steps + 1))) := ((Ex.refl (fun k => k = o) w3).setCell (q := ⟨o, 11, none⟩) (.inl rfl) (.int .i64 (steps + 1)))
  have S4 := Lib.hid (S3.out.ex ee (by have o_ := ORD1.out; omega))
  have P4 := Lib.hid (P3.out.ex ee (by have o_ := ORD1.out; omega))
  have R4 := Lib.hid (R3.out.ex ee (fun k hk hT => by have hT : k = o := hT; have w_ := WAP.out k hk; have o_ := ORD1.out; omega))
  have K4 := Lib.hid (K3.out.ex ee (by have o_ := ORD1.out; omega) (by have o_ := ORD1.out; omega))
  have X4 := Lib.hid (X3.out.trans (ee.mono (fun k hk => show k = g ∨ k = h ∨ k = o ∨ k = rs ∨ k = rt ∨ k = q from by have hk : k = o := hk; omega)))
  have B4 := Lib.hid (bb)
  clear ee B3 S3 P3 R3 K3 X3 bb
  generalize (w3.setCell ⟨o, 11, none⟩ (.int .i64 (steps + 1))) = w4 at *
  have hne : Nonempty (Held (fun W => W = w4.drew)) := ⟨⟨_, rfl⟩⟩
  have p0 : ∀ y : Held (fun W => W = w4.drew), y.w.cell? ⟨o, 0, none⟩ = some (.slice (some ⟨rs, 0, none⟩) c.n cs) := fun y => by rw [y.ok]; exact B4.out.cell 0
  have p1 : ∀ y : Held (fun W => W = w4.drew), y.w.cell? ⟨o, 1, none⟩ = some (.slice (some ⟨rt, 0, none⟩) c.T ct) := fun y => by rw [y.ok]; exact B4.out.cell 1
  have p4 : ∀ y : Held (fun W => W = w4.drew), y.w.cell? ⟨o, 4, none⟩ = some (.int .i64 (j : Int)) := fun y => by rw [y.ok]; exact B4.out.cell 4
  have pt : ∀ y : Held (fun W => W = w4.drew), y.w.cell? ⟨rt, j * 7 + 6, none⟩ = some (.int .u64 (nth gl j)) := fun y => by rw [y.ok]; exact P4.out.cells j HJ.out 6 (by decide)
  have zj0 : (0 : Int) ≤ (j : Int) := by omega
  have zj1 : (j : Int) < (c.T : Int) := by have := HJ.out; omega
  refine drawn_bars (S := (fun W => W = w4.drew)) [([0, 2, 3, 4, 5, 6, 7, 8, 9, 10, 11, 12], 1)] [13] (by kernel_rfl) (by kernel_rfl) (by kernel_rfl) rfl rfl ?_
  refine Phased.go ?_
  simp only [pick, List.map_cons, List.map_nil, List.getElem?_cons_zero, List.getElem?_cons_succ, Option.getD_some]
  repeat (go_big_quiet_step (fail))
  refine wpQuiet_nil ?_
  go_wp2_with fail
  refine (Gen_any v _).mono ?_; rintro e w6 ⟨rfl, rfl⟩
  go_wp2_with fail
  refine behind_normal ⟨(fun W => W = w4.drew), fun W h => h, rfl, ?_⟩
  refine Phased.end_ ?_
  simp only [pick, List.map_cons, List.map_nil, List.getElem?_cons_zero, List.getElem?_cons_succ, Option.getD_some]
  repeat (go_big_quiet_step (fail))
  refine wpQuiet_nil ?_
  clear hne p0 p1 p4 pt zj0 zj1
  have ee : Ex (fun _ => False) w4 w4.drew := (Ex.refl _ w4).drew
  have B5 := Lib.hid (B4.out.ex ee (fun h => h))
  have S5 := Lib.hid (S4.out.ex ee (fun h => h))
  have P5 := Lib.hid (P4.out.ex ee (fun h => h))
  have R5 := Lib.hid (R4.out.ex ee (fun k hk hT => hT))
  have K5 := Lib.hid (K4.out.ex ee (fun h => h) (fun h => h))
  have X5 := Lib.hid (X4.out.trans (ee.mono (fun k hk => hk.elim)))
  clear ee B4 S4 P4 R4 K4 X4
  generalize w4.drew = w5 at *
  have kv : ((v / 2) != (nth gl j)) = false := by have h := HK.out; rw [HVV.out] at h; rw [h]; exact bne_self_eq_false _
  have hw2 := HNUM.out.2
  have b0 := B5.out.cell 0
  have b4 := B5.out.cell 4
  simp only [pcs, List.getElem?_toArray, List.getElem?_cons_zero, List.getElem?_cons_succ] at b0 b4
  have z4 := B5.out.frozen 4
  go_upto_region 33 with fail
  have bb : Blk (w5.setCell ⟨o, 4, none⟩ (.int .i64 ((j : Int) + 1))) o 101 (pcs rs c.n cs rt c.T ct vw left 3 ((j : Int) + 1) pk gen place size 0 (steps + 1) begun) := ((B5.out).set_ 4 (.int .i64 ((j : Int) + 1)))
  clear kv hw2 b0 b4 z4
  have ee : Ex (fun k => k = o) w5 (w5.setCell ⟨o, 4, none⟩ (.int .i64 ((j : Int) + 1))) := ((Ex.refl (fun k => k = o) w5).setCell (q := ⟨o, 4, none⟩) (.inl rfl) (.int .i64 ((j : Int) + 1)))
  have S6 := Lib.hid (S5.out.ex ee (by have o_ := ORD1.out; omega))
  have P6 := Lib.hid (P5.out.ex ee (by have o_ := ORD1.out; omega))
  have R6 := Lib.hid (R5.out.ex ee (fun k hk hT => by have hT : k = o := hT; have w_ := WAP.out k hk; have o_ := ORD1.out; omega))
  have K6 := Lib.hid (K5.out.ex ee (by have o_ := ORD1.out; omega) (by have o_ := ORD1.out; omega))
  have X6 := Lib.hid (X5.out.trans (ee.mono (fun k hk => show k = g ∨ k = h ∨ k = o ∨ k = rs ∨ k = rt ∨ k = q from by have hk : k = o := hk; omega)))
  have B6 := Lib.hid (bb)
  clear ee B5 S5 P5 R5 K5 X5 bb
  generalize (w5.setCell ⟨o, 4, none⟩ (.int .i64 ((j : Int) + 1))) = w7 at *
  have hne : Nonempty (Held (fun W => W = w7.drew)) := ⟨⟨_, rfl⟩⟩
  have p0 : ∀ y : Held (fun W => W = w7.drew), y.w.cell? ⟨o, 0, none⟩ = some (.slice (some ⟨rs, 0, none⟩) c.n cs) := fun y => by rw [y.ok]; exact B6.out.cell 0
  have p1 : ∀ y : Held (fun W => W = w7.drew), y.w.cell? ⟨o, 1, none⟩ = some (.slice (some ⟨rt, 0, none⟩) c.T ct) := fun y => by rw [y.ok]; exact B6.out.cell 1
  have p4 : ∀ y : Held (fun W => W = w7.drew), y.w.cell? ⟨o, 4, none⟩ = some (.int .i64 ((j : Int) + 1)) := fun y => by rw [y.ok]; exact B6.out.cell 4
  refine drawn_bars (S := fun _ => True) [] [0, 1, 2, 3, 4, 5, 6, 7, 8, 9] (by kernel_rfl) (by kernel_rfl) (by kernel_rfl) rfl trivial ?_
  refine Phased.end_ ?_
  simp only [pick, List.map_cons, List.map_nil, List.getElem?_cons_zero, List.getElem?_cons_succ, Option.getD_some]
  repeat (go_big_quiet_step (fail))
  refine wpQuiet_nil ?_
  clear hne p0 p1 p4
  have ee : Ex (fun _ => False) w7 w7.drew := (Ex.refl _ w7).drew
  have B7 := Lib.hid (B6.out.ex ee (fun h => h))
  have S7 := Lib.hid (S6.out.ex ee (fun h => h))
  have P7 := Lib.hid (P6.out.ex ee (fun h => h))
  have R7 := Lib.hid (R6.out.ex ee (fun k hk hT => hT))
  have K7 := Lib.hid (K6.out.ex ee (fun h => h) (fun h => h))
  have X7 := Lib.hid (X6.out.trans (ee.mono (fun k hk => hk.elim)))
  clear ee B6 S6 P6 R6 K6 X6
  generalize w7.drew = w8 at *
  have ke : (((j : Int) + 1) == (c.T : Int)) = true := by have := HV.out; exact beq_iff_eq.2 (by omega)
  go_wp2_with fail
  clear ke
  refine (finish_any o rs cs rt ct q vw c ⟨left, 3, (j : Int) + 1, pk, gen, place, size, 0, steps + 1, begun, words, gl, cu⟩ w8 ⟨B7.out, S7.out, P7.out, R7.out, Nat.lt_of_lt_of_le QL.out X7.out.size, HA.out, WAP.out⟩ HI.out.ok HI.out.fit.same).mono ?_; rintro e wA ⟨rfl, hp, hx⟩
  have b0 := hp.box.cell 0
  have b10 := hp.box.cell 10
  simp only [finishP, pcs, List.getElem?_toArray, List.getElem?_cons_zero, List.getElem?_cons_succ] at b0 b10
  have HP := Lib.hid hp
  clear hp
  have ee : Ex (fun k => k = o ∨ k = rs) w8 wA := hx
  have K8 := Lib.hid (K7.out.ex ee (by have o_ := ORD1.out; omega) (by have o_ := ORD1.out; omega))
  have X8 := Lib.hid (X7.out.trans (ee.mono (fun k hk => show k = g ∨ k = h ∨ k = o ∨ k = rs ∨ k = rt ∨ k = q from by have hk : k = o ∨ k = rs := hk; omega)))
  clear ee K7 X7 hx
  go_wp2_with fail
  first | rw [goOn_ret] | skip
  go_ret
  exact ⟨rfl, K8.out, ⟨q, vw, HP.out, .inl rfl⟩, X8.out⟩
set_option maxRecDepth 100000 in
set_option maxHeartbeats 8000000 in
theorem PS_Ca (g h o rs cs rt ct q : Nat) (vw : Value) (ws : List Int) (t : Int) (c : PC) (left pk gen place size steps begun : Int) (words gl : List Int) (cu : Nat → Cur) (j : Nat) (w : World) (hb : BankAt w g h ws t)
    (ho : PAt w o rs cs rt ct q vw c ⟨left, 3, (j : Int), pk, gen, place, size, 0, steps, begun, words, gl, cu⟩) (hi : PInv c ⟨left, 3, (j : Int), pk, gen, place, size, 0, steps, begun, words, gl, cu⟩)
    (ne : o ≠ g ∧ o ≠ h ∧ rs ≠ g ∧ rs ≠ h ∧ rt ≠ g ∧ rt ≠ h ∧ q ≠ g ∧ q ≠ h) (hj : j < c.T) (hin : inW ws (c.tp j).spot.seq) (hv : left - 1 ≠ 0) (hk : wordF ws (c.tp j).spot.seq / 2 ≠ nth gl j) :
    Calls Try.prog 9 #[.pointer (some ⟨o, 0, none⟩), .pointer (some ⟨g, 0, none⟩)] w fun e w' => e = .returned (.int .i64 0) ∧ BankAt w' g h ws (tickF ws (c.tp j).spot.seq t) ∧ (∃ q' vw', PAt w' o rs cs rt ct q' vw' c ⟨left - 1, 1, 0, pk, gen, place, size, 0, steps + 1, begun, words, gl, cu⟩ ∧ (q' = q ∨ w.heap.size ≤ q')) ∧ Ex (fun k => k = g ∨ k = h ∨ k = o ∨ k = rs ∨ k = rt ∨ k = q) w w' := by
  have HI := Lib.hid hi
  have HJ := Lib.hid hj
  have WAP := Lib.hid ho.wap
  have QL := Lib.hid ho.qlt
  have HA := Lib.hid ho.apart
  have HIN := Lib.hid hin
  have N64 := Lib.hid (show c.n ≤ 64 ∧ c.T ≤ 64 from ⟨hi.ok.n64, Nat.le_trans hi.ok.tn hi.ok.n64⟩)
  have GLEN := Lib.hid (show gl.length = c.T from hi.fit.glen)
  have HRG := Lib.hid (fun i => wordF_range hb i)
  have B0 : RowKit.Hid (Blk w o 101 (pcs rs c.n cs rt c.T ct vw left 3 (j : Int) pk gen place size 0 steps begun)) := Lib.hid ho.box
  have S0 : RowKit.Hid (SubsIn w rs c.n (c.sub cu)) := Lib.hid ho.subs
  have P0 : RowKit.Hid (TopsIn w rt c.T c.tp gl) := Lib.hid ho.tops
  have R0 : RowKit.Hid (OwnR w vw words) := Lib.hid ho.row
  have K0 := Lib.hid hb
  have X0 := Lib.hid (Ex.refl (fun k => k = g ∨ k = h ∨ k = o ∨ k = rs ∨ k = rt ∨ k = q) w)
  have NE := Lib.hid ne
  have HV := Lib.hid hv
  have HK := Lib.hid hk
  have ORD1 := Lib.hid (show rs ≠ o ∧ rt ≠ o ∧ rs ≠ rt ∧ o ≠ g ∧ o ≠ h ∧ rs ≠ g ∧ rs ≠ h ∧ rt ≠ g ∧ rt ≠ h ∧ q ≠ g ∧ q ≠ h from by have h1 := HA.out; have h2 := NE.out; omega)
  have HJ6 := Lib.hid (show j ≤ 64 by have := N64.out; omega)
  have HNUM := Lib.hid (pstep_nums (j := j) hi.st HJ6.out)
  clear ho hb hi ne hj hin hv hk
  have b0 := B0.out.cell 0
  have b10 := B0.out.cell 10
  have b3 := B0.out.cell 3
  simp only [pcs, List.getElem?_toArray, List.getElem?_cons_zero, List.getElem?_cons_succ] at b0 b10 b3
  go_enter Try.func9, Try.ntmps9
  go_wp2_with fail
  refine wp_scope_ahead 2 (fun c0 HC => ?_)
  go_wp2_with fail
  try simp only [Exit.inBlock, Exit.then]
  refine wp_goto ?_
  show goOn Try.prog c0 _ 2 (.goto 1) _ _
  refine goOn_jump HC rfl ?_
  go_upto_region 28 with fail
  clear b0 b10 b3
  have hne : Nonempty (Held (Ex (fun k => k = g ∨ k = h) w)) := ⟨⟨w, Ex.refl _ _⟩⟩
  have p0 : ∀ y : Held (Ex (fun k => k = g ∨ k = h) w), y.w.cell? ⟨o, 0, none⟩ = some (.slice (some ⟨rs, 0, none⟩) c.n cs) := fun y => (B0.out.ex y.ok (by have o_ := ORD1.out; omega)).cell 0
  have p4 : ∀ y : Held (Ex (fun k => k = g ∨ k = h) w), y.w.cell? ⟨o, 4, none⟩ = some (.int .i64 (j : Int)) := fun y => (B0.out.ex y.ok (by have o_ := ORD1.out; omega)).cell 4
  have p1 : ∀ y : Held (Ex (fun k => k = g ∨ k = h) w), y.w.cell? ⟨o, 1, none⟩ = some (.slice (some ⟨rt, 0, none⟩) c.T ct) := fun y => (B0.out.ex y.ok (by have o_ := ORD1.out; omega)).cell 1
  have pt : ∀ y : Held (Ex (fun k => k = g ∨ k = h) w), y.w.cell? ⟨rt, j * 7 + 2, none⟩ = some (.int .i64 (c.tp j).spot.seq) := fun y => (P0.out.ex y.ok (by have o_ := ORD1.out; omega)).cells j HJ.out 2 (by decide)
  have zj0 : (0 : Int) ≤ (j : Int) := by omega
  have zj1 : (j : Int) < (c.T : Int) := by have := HJ.out; omega
  have XD := Lib.hid ((Ex.refl (fun k => k = g ∨ k = h) w).drew)
  refine drawn_bars (S := (Ex (fun k => k = g ∨ k = h) w)) [([0, 1, 2, 3, 4, 5, 6, 7, 8, 9, 10, 11, 12], 13)] [14, 15, 16, 17, 18] (by kernel_rfl) (by kernel_rfl) (by kernel_rfl) rfl (Ex.refl _ _).drew ?_
  refine Phased.go ?_
  simp only [pick, List.map_cons, List.map_nil, List.getElem?_cons_zero, List.getElem?_cons_succ, Option.getD_some]
  repeat (go_big_quiet_step (fail))
  refine wpQuiet_nil ?_
  clear hne p0 p4 p1 pt zj0 zj1
  have ee : Ex (fun _ => False) w w.drew := (Ex.refl _ w).drew
  have B2 := Lib.hid (B0.out.ex ee (fun h => h))
  have S2 := Lib.hid (S0.out.ex ee (fun h => h))
  have P2 := Lib.hid (P0.out.ex ee (fun h => h))
  have R2 := Lib.hid (R0.out.ex ee (fun k hk hT => hT))
  have K2 := Lib.hid (K0.out.ex ee (fun h => h) (fun h => h))
  have X2 := Lib.hid (X0.out.trans (ee.mono (fun k hk => hk.elim)))
  clear ee B0 S0 P0 R0 K0 X0
  generalize w.drew = w1 at *
  go_wp2_with fail
  refine (Load_any g h ws t (c.tp j).spot.seq w1 K2.out).mono ?_; rintro e w3 ⟨rfl, hb1, hx1⟩
  have XE := Lib.hid (XD.out.trans (Ex.of_ex2 (T := fun k => k = g ∨ k = h) hx1 (.inl rfl) (.inr rfl)))
  rw [errF_in HIN.out]
  have ee : Ex (fun k => k = g ∨ k = h) w1 w3 := Ex.of_ex2 (T := fun k => k = g ∨ k = h) hx1 (.inl rfl) (.inr rfl)
  have B3 := Lib.hid (B2.out.ex ee (by have o_ := ORD1.out; omega))
  have S3 := Lib.hid (S2.out.ex ee (by have o_ := ORD1.out; omega))
  have P3 := Lib.hid (P2.out.ex ee (by have o_ := ORD1.out; omega))
  have R3 := Lib.hid (R2.out.ex ee (fun k hk hT => by have hT : k = g ∨ k = h := hT; have w_ := WAP.out k hk; have o_ := ORD1.out; omega))
  have X3 := Lib.hid (X2.out.trans (ee.mono (fun k hk => show k = g ∨ k = h ∨ k = o ∨ k = rs ∨ k = rt ∨ k = q from by have hk : k = g ∨ k = h := hk; omega)))
  have K3 := Lib.hid (hb1)
  clear ee B2 S2 P2 R2 K2 X2 hb1 hx1
  obtain ⟨v, hvv⟩ : ∃ v, wordF ws (c.tp j).spot.seq = v := ⟨_, rfl⟩
  have HVV := Lib.hid hvv
  have HR := Lib.hid (show 0 ≤ v ∧ v ≤ 18446744073709551615 by rw [← hvv]; exact HRG.out _)
  rw [hvv]
  clear hvv
  go_wp2_with fail
  refine behind_normal ⟨(Ex (fun k => k = g ∨ k = h) w), fun W h => h, XE.out, ?_⟩
  refine Phased.end_ ?_
  have hne4 : Nonempty (Held (fun W => W = w3)) := ⟨⟨_, rfl⟩⟩
  simp only [pick, List.map_cons, List.map_nil, List.getElem?_cons_zero, List.getElem?_cons_succ, Option.getD_some]
  repeat (go_big_quiet_step (fail))
  refine wpQuiet_nil ?_
  clear hne4
  have hw1 := HNUM.out.1
  have b0 := B3.out.cell 0
  have b11 := B3.out.cell 11
  simp only [pcs, List.getElem?_toArray, List.getElem?_cons_zero, List.getElem?_cons_succ] at b0 b11
  have z11 := B3.out.frozen 11
  go_upto_region 31 with fail
  have bb : Blk (w3.setCell ⟨o, 11, none⟩ (.int .i64 (steps + 1))) o 101 (pcs rs c.n cs rt c.T ct vw left 3 (j : Int) pk gen place size 0 (steps + 1) begun) := ((B3.out).set_ 11 (.int .i64 (steps + 1)))
  clear hw1 b0 b11 z11
  have ee : Ex (fun k => k = o) w3 (w3.setCell ⟨o, 11, none⟩ (.int .i64 (steps + 1))) := ((Ex.refl (fun k => k = o) w3).setCell (q := ⟨o, 11, none⟩) (.inl rfl) (.int .i64 (steps + 1)))
  have S4 := Lib.hid (S3.out.ex ee (by have o_ := ORD1.out; omega))
  have P4 := Lib.hid (P3.out.ex ee (by have o_ := ORD1.out; omega))
  have R4 := Lib.hid (R3.out.ex ee (fun k hk hT => by have hT : k = o := hT; have w_ := WAP.out k hk; have o_ := ORD1.out; omega))
  have K4 := Lib.hid (K3.out.ex ee (by have o_ := ORD1.out; omega) (by have o_ := ORD1.out; omega))
  have X4 := Lib.hid (X3.out.trans (ee.mono (fun k hk => show k = g ∨ k = h ∨ k = o ∨ k = rs ∨ k = rt ∨ k = q from by have hk : k = o := hk; omega)))
  have B4 := Lib.hid (bb)
  clear ee B3 S3 P3 R3 K3 X3 bb
  generalize (w3.setCell ⟨o, 11, none⟩ (.int .i64 (steps + 1))) = w4 at *
  have hne : Nonempty (Held (fun W => W = w4.drew)) := ⟨⟨_, rfl⟩⟩
  have p0 : ∀ y : Held (fun W => W = w4.drew), y.w.cell? ⟨o, 0, none⟩ = some (.slice (some ⟨rs, 0, none⟩) c.n cs) := fun y => by rw [y.ok]; exact B4.out.cell 0
  have p1 : ∀ y : Held (fun W => W = w4.drew), y.w.cell? ⟨o, 1, none⟩ = some (.slice (some ⟨rt, 0, none⟩) c.T ct) := fun y => by rw [y.ok]; exact B4.out.cell 1
  have p4 : ∀ y : Held (fun W => W = w4.drew), y.w.cell? ⟨o, 4, none⟩ = some (.int .i64 (j : Int)) := fun y => by rw [y.ok]; exact B4.out.cell 4
  have pt : ∀ y : Held (fun W => W = w4.drew), y.w.cell? ⟨rt, j * 7 + 6, none⟩ = some (.int .u64 (nth gl j)) := fun y => by rw [y.ok]; exact P4.out.cells j HJ.out 6 (by decide)
  have zj0 : (0 : Int) ≤ (j : Int) := by omega
  have zj1 : (j : Int) < (c.T : Int) := by have := HJ.out; omega
  refine drawn_bars (S := (fun W => W = w4.drew)) [([0, 2, 3, 4, 5, 6, 7, 8, 9, 10, 11, 12], 1)] [13] (by kernel_rfl) (by kernel_rfl) (by kernel_rfl) rfl rfl ?_
  refine Phased.go ?_
  simp only [pick, List.map_cons, List.map_nil, List.getElem?_cons_zero, List.getElem?_cons_succ, Option.getD_some]
  repeat (go_big_quiet_step (fail))
  refine wpQuiet_nil ?_
  go_wp2_with fail
  refine (Gen_any v _).mono ?_; rintro e w6 ⟨rfl, rfl⟩
  go_wp2_with fail
  refine behind_normal ⟨(fun W => W = w4.drew), fun W h => h, rfl, ?_⟩
  refine Phased.end_ ?_
  simp only [pick, List.map_cons, List.map_nil, List.getElem?_cons_zero, List.getElem?_cons_succ, Option.getD_some]
  repeat (go_big_quiet_step (fail))
  refine wpQuiet_nil ?_
  clear hne p0 p1 p4 pt zj0 zj1
  have ee : Ex (fun _ => False) w4 w4.drew := (Ex.refl _ w4).drew
  have B5 := Lib.hid (B4.out.ex ee (fun h => h))
  have S5 := Lib.hid (S4.out.ex ee (fun h => h))
  have P5 := Lib.hid (P4.out.ex ee (fun h => h))
  have R5 := Lib.hid (R4.out.ex ee (fun k hk hT => hT))
  have K5 := Lib.hid (K4.out.ex ee (fun h => h) (fun h => h))
  have X5 := Lib.hid (X4.out.trans (ee.mono (fun k hk => hk.elim)))
  clear ee B4 S4 P4 R4 K4 X4
  generalize w4.drew = w5 at *
  have kv : ((v / 2) != (nth gl j)) = true := by have h := HK.out; rw [HVV.out] at h; exact bne_iff_ne.2 h
  go_wp2_with fail
  refine wp_goto ?_
  show goOn Try.prog c0 _ 1 (.goto 3) _ _
  refine goOn_jump HC rfl ?_
  have hw3 := left_nums HI.out.left
  have b0 := B5.out.cell 0
  have b2 := B5.out.cell 2
  have b3 := B5.out.cell 3
  have b4 := B5.out.cell 4
  have b10 := B5.out.cell 10
  simp only [pcs, List.getElem?_toArray, List.getElem?_cons_zero, List.getElem?_cons_succ] at b0 b2 b3 b4 b10
  have z2 := B5.out.frozen 2
  have z3 := B5.out.frozen 3
  have z4 := B5.out.frozen 4
  have kl : (left - 1 == 0) = false := by have := HV.out; exact beq_eq_false_iff_ne.2 this
  go_upto_region 38 with fail
  have bb : Blk (((w5.setCell ⟨o, 3, none⟩ (.int .i64 1)).setCell ⟨o, 4, none⟩ (.int .i64 0)).setCell ⟨o, 2, none⟩ (.int .i64 (left - 1))) o 101 (pcs rs c.n cs rt c.T ct vw (left - 1) 1 0 pk gen place size 0 (steps + 1) begun) := ((((((B5.out).set_ 3 (.int .i64 1))).set_ 4 (.int .i64 0))).set_ 2 (.int .i64 (left - 1)))
  clear kv hw3 b0 b2 b3 b4 b10 z2 z3 z4 kl
  have ee : Ex (fun k => k = o) w5 (((w5.setCell ⟨o, 3, none⟩ (.int .i64 1)).setCell ⟨o, 4, none⟩ (.int .i64 0)).setCell ⟨o, 2, none⟩ (.int .i64 (left - 1))) := ((((Ex.refl (fun k => k = o) w5).setCell (q := ⟨o, 3, none⟩) (.inl rfl) (.int .i64 1)).setCell (q := ⟨o, 4, none⟩) (.inl rfl) (.int .i64 0)).setCell (q := ⟨o, 2, none⟩) (.inl rfl) (.int .i64 (left - 1)))
  have S6 := Lib.hid (S5.out.ex ee (by have o_ := ORD1.out; omega))
  have P6 := Lib.hid (P5.out.ex ee (by have o_ := ORD1.out; omega))
  have R6 := Lib.hid (R5.out.ex ee (fun k hk hT => by have hT : k = o := hT; have w_ := WAP.out k hk; have o_ := ORD1.out; omega))
  have K6 := Lib.hid (K5.out.ex ee (by have o_ := ORD1.out; omega) (by have o_ := ORD1.out; omega))
  have X6 := Lib.hid (X5.out.trans (ee.mono (fun k hk => show k = g ∨ k = h ∨ k = o ∨ k = rs ∨ k = rt ∨ k = q from by have hk : k = o := hk; omega)))
  have B6 := Lib.hid (bb)
  clear ee B5 S5 P5 R5 K5 X5 bb
  generalize (((w5.setCell ⟨o, 3, none⟩ (.int .i64 1)).setCell ⟨o, 4, none⟩ (.int .i64 0)).setCell ⟨o, 2, none⟩ (.int .i64 (left - 1))) = w6 at *
  have kl : (left - 1 == 0) = false := by have := HV.out; exact beq_eq_false_iff_ne.2 this
  have b0 := B6.out.cell 0
  have b2 := B6.out.cell 2
  have b10 := B6.out.cell 10
  simp only [pcs, List.getElem?_toArray, List.getElem?_cons_zero, List.getElem?_cons_succ] at b0 b2 b10
  go_wp2_with fail
  clear kl b0 b2 b10
  first | rw [goOn_ret] | skip
  go_ret
  exact ⟨rfl, K6.out, ⟨q, vw, ⟨B6.out, S6.out, P6.out, R6.out, Nat.lt_of_lt_of_le QL.out X6.out.size, HA.out, WAP.out⟩, .inl rfl⟩, X6.out⟩
set_option maxRecDepth 100000 in
set_option maxHeartbeats 8000000 in
theorem PS_Cs (g h o rs cs rt ct q : Nat) (vw : Value) (ws : List Int) (t : Int) (c : PC) (left pk gen place size steps begun : Int) (words gl : List Int) (cu : Nat → Cur) (j : Nat) (w : World) (hb : BankAt w g h ws t)
    (ho : PAt w o rs cs rt ct q vw c ⟨left, 3, (j : Int), pk, gen, place, size, 0, steps, begun, words, gl, cu⟩) (hi : PInv c ⟨left, 3, (j : Int), pk, gen, place, size, 0, steps, begun, words, gl, cu⟩)
    (ne : o ≠ g ∧ o ≠ h ∧ rs ≠ g ∧ rs ≠ h ∧ rt ≠ g ∧ rt ≠ h ∧ q ≠ g ∧ q ≠ h) (hj : j < c.T) (hin : inW ws (c.tp j).spot.seq) (hv : left - 1 = 0) (hk : wordF ws (c.tp j).spot.seq / 2 ≠ nth gl j) :
    Calls Try.prog 9 #[.pointer (some ⟨o, 0, none⟩), .pointer (some ⟨g, 0, none⟩)] w fun e w' => e = .returned (.int .i64 2) ∧ BankAt w' g h ws (tickF ws (c.tp j).spot.seq t) ∧ (∃ q' vw', PAt w' o rs cs rt ct q' vw' c ⟨left - 1, 1, 0, pk, gen, place, size, 2, steps + 1, begun, words, gl, cu⟩ ∧ (q' = q ∨ w.heap.size ≤ q')) ∧ Ex (fun k => k = g ∨ k = h ∨ k = o ∨ k = rs ∨ k = rt ∨ k = q) w w' := by
  have HI := Lib.hid hi
  have HJ := Lib.hid hj
  have WAP := Lib.hid ho.wap
  have QL := Lib.hid ho.qlt
  have HA := Lib.hid ho.apart
  have HIN := Lib.hid hin
  have N64 := Lib.hid (show c.n ≤ 64 ∧ c.T ≤ 64 from ⟨hi.ok.n64, Nat.le_trans hi.ok.tn hi.ok.n64⟩)
  have GLEN := Lib.hid (show gl.length = c.T from hi.fit.glen)
  have HRG := Lib.hid (fun i => wordF_range hb i)
  have B0 : RowKit.Hid (Blk w o 101 (pcs rs c.n cs rt c.T ct vw left 3 (j : Int) pk gen place size 0 steps begun)) := Lib.hid ho.box
  have S0 : RowKit.Hid (SubsIn w rs c.n (c.sub cu)) := Lib.hid ho.subs
  have P0 : RowKit.Hid (TopsIn w rt c.T c.tp gl) := Lib.hid ho.tops
  have R0 : RowKit.Hid (OwnR w vw words) := Lib.hid ho.row
  have K0 := Lib.hid hb
  have X0 := Lib.hid (Ex.refl (fun k => k = g ∨ k = h ∨ k = o ∨ k = rs ∨ k = rt ∨ k = q) w)
  have NE := Lib.hid ne
  have HV := Lib.hid hv
  have HK := Lib.hid hk
  have ORD1 := Lib.hid (show rs ≠ o ∧ rt ≠ o ∧ rs ≠ rt ∧ o ≠ g ∧ o ≠ h ∧ rs ≠ g ∧ rs ≠ h ∧ rt ≠ g ∧ rt ≠ h ∧ q ≠ g ∧ q ≠ h from by have h1 := HA.out; have h2 := NE.out; omega)
  have HJ6 := Lib.hid (show j ≤ 64 by have := N64.out; omega)
  have HNUM := Lib.hid (pstep_nums (j := j) hi.st HJ6.out)
  clear ho hb hi ne hj hin hv hk
  have b0 := B0.out.cell 0
  have b10 := B0.out.cell 10
  have b3 := B0.out.cell 3
  simp only [pcs, List.getElem?_toArray, List.getElem?_cons_zero, List.getElem?_cons_succ] at b0 b10 b3
  go_enter Try.func9, Try.ntmps9
  go_wp2_with fail
  refine wp_scope_ahead 2 (fun c0 HC => ?_)
  go_wp2_with fail
  try simp only [Exit.inBlock, Exit.then]
  refine wp_goto ?_
  show goOn Try.prog c0 _ 2 (.goto 1) _ _
  refine goOn_jump HC rfl ?_
  go_upto_region 28 with fail
  clear b0 b10 b3
  have hne : Nonempty (Held (Ex (fun k => k = g ∨ k = h) w)) := ⟨⟨w, Ex.refl _ _⟩⟩
  have p0 : ∀ y : Held (Ex (fun k => k = g ∨ k = h) w), y.w.cell? ⟨o, 0, none⟩ = some (.slice (some ⟨rs, 0, none⟩) c.n cs) := fun y => (B0.out.ex y.ok (by have o_ := ORD1.out; omega)).cell 0
  have p4 : ∀ y : Held (Ex (fun k => k = g ∨ k = h) w), y.w.cell? ⟨o, 4, none⟩ = some (.int .i64 (j : Int)) := fun y => (B0.out.ex y.ok (by have o_ := ORD1.out; omega)).cell 4
  have p1 : ∀ y : Held (Ex (fun k => k = g ∨ k = h) w), y.w.cell? ⟨o, 1, none⟩ = some (.slice (some ⟨rt, 0, none⟩) c.T ct) := fun y => (B0.out.ex y.ok (by have o_ := ORD1.out; omega)).cell 1
  have pt : ∀ y : Held (Ex (fun k => k = g ∨ k = h) w), y.w.cell? ⟨rt, j * 7 + 2, none⟩ = some (.int .i64 (c.tp j).spot.seq) := fun y => (P0.out.ex y.ok (by have o_ := ORD1.out; omega)).cells j HJ.out 2 (by decide)
  have zj0 : (0 : Int) ≤ (j : Int) := by omega
  have zj1 : (j : Int) < (c.T : Int) := by have := HJ.out; omega
  have XD := Lib.hid ((Ex.refl (fun k => k = g ∨ k = h) w).drew)
  refine drawn_bars (S := (Ex (fun k => k = g ∨ k = h) w)) [([0, 1, 2, 3, 4, 5, 6, 7, 8, 9, 10, 11, 12], 13)] [14, 15, 16, 17, 18] (by kernel_rfl) (by kernel_rfl) (by kernel_rfl) rfl (Ex.refl _ _).drew ?_
  refine Phased.go ?_
  simp only [pick, List.map_cons, List.map_nil, List.getElem?_cons_zero, List.getElem?_cons_succ, Option.getD_some]
  repeat (go_big_quiet_step (fail))
  refine wpQuiet_nil ?_
  clear hne p0 p4 p1 pt zj0 zj1
  have ee : Ex (fun _ => False) w w.drew := (Ex.refl _ w).drew
  have B2 := Lib.hid (B0.out.ex ee (fun h => h))
  have S2 := Lib.hid (S0.out.ex ee (fun h => h))
  have P2 := Lib.hid (P0.out.ex ee (fun h => h))
  have R2 := Lib.hid (R0.out.ex ee (fun k hk hT => hT))
  have K2 := Lib.hid (K0.out.ex ee (fun h => h) (fun h => h))
  have X2 := Lib.hid (X0.out.trans (ee.mono (fun k hk => hk.elim)))
  clear ee B0 S0 P0 R0 K0 X0
  generalize w.drew = w1 at *
  go_wp2_with fail
  refine (Load_any g h ws t (c.tp j).spot.seq w1 K2.out).mono ?_; rintro e w3 ⟨rfl, hb1, hx1⟩
  have XE := Lib.hid (XD.out.trans (Ex.of_ex2 (T := fun k => k = g ∨ k = h) hx1 (.inl rfl) (.inr rfl)))
  rw [errF_in HIN.out]
  have ee : Ex (fun k => k = g ∨ k = h) w1 w3 := Ex.of_ex2 (T := fun k => k = g ∨ k = h) hx1 (.inl rfl) (.inr rfl)
  have B3 := Lib.hid (B2.out.ex ee (by have o_ := ORD1.out; omega))
  have S3 := Lib.hid (S2.out.ex ee (by have o_ := ORD1.out; omega))
  have P3 := Lib.hid (P2.out.ex ee (by have o_ := ORD1.out; omega))
  have R3 := Lib.hid (R2.out.ex ee (fun k hk hT => by have hT : k = g ∨ k = h := hT; have w_ := WAP.out k hk; have o_ := ORD1.out; omega))
  have X3 := Lib.hid (X2.out.trans (ee.mono (fun k hk => show k = g ∨ k = h ∨ k = o ∨ k = rs ∨ k = rt ∨ k = q from by have hk : k = g ∨ k = h := hk; omega)))
  have K3 := Lib.hid (hb1)
  clear ee B2 S2 P2 R2 K2 X2 hb1 hx1
  obtain ⟨v, hvv⟩ : ∃ v, wordF ws (c.tp j).spot.seq = v := ⟨_, rfl⟩
  have HVV := Lib.hid hvv
  have HR := Lib.hid (show 0 ≤ v ∧ v ≤ 18446744073709551615 by rw [← hvv]; exact HRG.out _)
  rw [hvv]
  clear hvv
  go_wp2_with fail
  refine behind_normal ⟨(Ex (fun k => k = g ∨ k = h) w), fun W h => h, XE.out, ?_⟩
  refine Phased.end_ ?_
  have hne4 : Nonempty (Held (fun W => W = w3)) := ⟨⟨_, rfl⟩⟩
  simp only [pick, List.map_cons, List.map_nil, List.getElem?_cons_zero, List.getElem?_cons_succ, Option.getD_some]
  repeat (go_big_quiet_step (fail))
  refine wpQuiet_nil ?_
  clear hne4
  have hw1 := HNUM.out.1
  have b0 := B3.out.cell 0
  have b11 := B3.out.cell 11
  simp only [pcs, List.getElem?_toArray, List.getElem?_cons_zero, List.getElem?_cons_succ] at b0 b11
  have z11 := B3.out.frozen 11
  go_upto_region 31 with fail
  have bb : Blk (w3.setCell ⟨o, 11, none⟩ (.int .i64 (steps + 1))) o 101 (pcs rs c.n cs rt c.T ct vw left 3 (j : Int) pk gen place size 0 (steps + 1) begun) := ((B3.out).set_ 11 (.int .i64 (steps + 1)))
  clear hw1 b0 b11 z11
  have ee : Ex (fun k => k = o) w3 (w3.setCell ⟨o, 11, none⟩ (.int .i64 (steps + 1))) := ((Ex.refl (fun k => k = o) w3).setCell (q := ⟨o, 11, none⟩) (.inl rfl) (.int .i64 (steps + 1)))
  have S4 := Lib.hid (S3.out.ex ee (by have o_ := ORD1.out; omega))
  have P4 := Lib.hid (P3.out.ex ee (by have o_ := ORD1.out; omega))
  have R4 := Lib.hid (R3.out.ex ee (fun k hk hT => by have hT : k = o := hT; have w_ := WAP.out k hk; have o_ := ORD1.out; omega))
  have K4 := Lib.hid (K3.out.ex ee (by have o_ := ORD1.out; omega) (by have o_ := ORD1.out; omega))
  have X4 := Lib.hid (X3.out.trans (ee.mono (fun k hk => show k = g ∨ k = h ∨ k = o ∨ k = rs ∨ k = rt ∨ k = q from by have hk : k = o := hk; omega)))
  have B4 := Lib.hid (bb)
  clear ee B3 S3 P3 R3 K3 X3 bb
  generalize (w3.setCell ⟨o, 11, none⟩ (.int .i64 (steps + 1))) = w4 at *
  have hne : Nonempty (Held (fun W => W = w4.drew)) := ⟨⟨_, rfl⟩⟩
  have p0 : ∀ y : Held (fun W => W = w4.drew), y.w.cell? ⟨o, 0, none⟩ = some (.slice (some ⟨rs, 0, none⟩) c.n cs) := fun y => by rw [y.ok]; exact B4.out.cell 0
  have p1 : ∀ y : Held (fun W => W = w4.drew), y.w.cell? ⟨o, 1, none⟩ = some (.slice (some ⟨rt, 0, none⟩) c.T ct) := fun y => by rw [y.ok]; exact B4.out.cell 1
  have p4 : ∀ y : Held (fun W => W = w4.drew), y.w.cell? ⟨o, 4, none⟩ = some (.int .i64 (j : Int)) := fun y => by rw [y.ok]; exact B4.out.cell 4
  have pt : ∀ y : Held (fun W => W = w4.drew), y.w.cell? ⟨rt, j * 7 + 6, none⟩ = some (.int .u64 (nth gl j)) := fun y => by rw [y.ok]; exact P4.out.cells j HJ.out 6 (by decide)
  have zj0 : (0 : Int) ≤ (j : Int) := by omega
  have zj1 : (j : Int) < (c.T : Int) := by have := HJ.out; omega
  refine drawn_bars (S := (fun W => W = w4.drew)) [([0, 2, 3, 4, 5, 6, 7, 8, 9, 10, 11, 12], 1)] [13] (by kernel_rfl) (by kernel_rfl) (by kernel_rfl) rfl rfl ?_
  refine Phased.go ?_
  simp only [pick, List.map_cons, List.map_nil, List.getElem?_cons_zero, List.getElem?_cons_succ, Option.getD_some]
  repeat (go_big_quiet_step (fail))
  refine wpQuiet_nil ?_
  go_wp2_with fail
  refine (Gen_any v _).mono ?_; rintro e w6 ⟨rfl, rfl⟩
  go_wp2_with fail
  refine behind_normal ⟨(fun W => W = w4.drew), fun W h => h, rfl, ?_⟩
  refine Phased.end_ ?_
  simp only [pick, List.map_cons, List.map_nil, List.getElem?_cons_zero, List.getElem?_cons_succ, Option.getD_some]
  repeat (go_big_quiet_step (fail))
  refine wpQuiet_nil ?_
  clear hne p0 p1 p4 pt zj0 zj1
  have ee : Ex (fun _ => False) w4 w4.drew := (Ex.refl _ w4).drew
  have B5 := Lib.hid (B4.out.ex ee (fun h => h))
  have S5 := Lib.hid (S4.out.ex ee (fun h => h))
  have P5 := Lib.hid (P4.out.ex ee (fun h => h))
  have R5 := Lib.hid (R4.out.ex ee (fun k hk hT => hT))
  have K5 := Lib.hid (K4.out.ex ee (fun h => h) (fun h => h))
  have X5 := Lib.hid (X4.out.trans (ee.mono (fun k hk => hk.elim)))
  clear ee B4 S4 P4 R4 K4 X4
  generalize w4.drew = w5 at *
  have kv : ((v / 2) != (nth gl j)) = true := by have h := HK.out; rw [HVV.out] at h; exact bne_iff_ne.2 h
  go_wp2_with fail
  refine wp_goto ?_
  show goOn Try.prog c0 _ 1 (.goto 3) _ _
  refine goOn_jump HC rfl ?_
  have hw3 := left_nums HI.out.left
  have b0 := B5.out.cell 0
  have b2 := B5.out.cell 2
  have b3 := B5.out.cell 3
  have b4 := B5.out.cell 4
  have b10 := B5.out.cell 10
  simp only [pcs, List.getElem?_toArray, List.getElem?_cons_zero, List.getElem?_cons_succ] at b0 b2 b3 b4 b10
  have z2 := B5.out.frozen 2
  have z3 := B5.out.frozen 3
  have z4 := B5.out.frozen 4
  have kl : (left - 1 == 0) = true := by have := HV.out; exact beq_iff_eq.2 this
  go_upto_region 38 with fail
  have bb : Blk (((w5.setCell ⟨o, 3, none⟩ (.int .i64 1)).setCell ⟨o, 4, none⟩ (.int .i64 0)).setCell ⟨o, 2, none⟩ (.int .i64 (left - 1))) o 101 (pcs rs c.n cs rt c.T ct vw (left - 1) 1 0 pk gen place size 0 (steps + 1) begun) := ((((((B5.out).set_ 3 (.int .i64 1))).set_ 4 (.int .i64 0))).set_ 2 (.int .i64 (left - 1)))
  clear kv hw3 b0 b2 b3 b4 b10 z2 z3 z4 kl
  have ee : Ex (fun k => k = o) w5 (((w5.setCell ⟨o, 3, none⟩ (.int .i64 1)).setCell ⟨o, 4, none⟩ (.int .i64 0)).setCell ⟨o, 2, none⟩ (.int .i64 (left - 1))) := ((((Ex.refl (fun k => k = o) w5).setCell (q := ⟨o, 3, none⟩) (.inl rfl) (.int .i64 1)).setCell (q := ⟨o, 4, none⟩) (.inl rfl) (.int .i64 0)).setCell (q := ⟨o, 2, none⟩) (.inl rfl) (.int .i64 (left - 1)))
  have S6 := Lib.hid (S5.out.ex ee (by have o_ := ORD1.out; omega))
  have P6 := Lib.hid (P5.out.ex ee (by have o_ := ORD1.out; omega))
  have R6 := Lib.hid (R5.out.ex ee (fun k hk hT => by have hT : k = o := hT; have w_ := WAP.out k hk; have o_ := ORD1.out; omega))
  have K6 := Lib.hid (K5.out.ex ee (by have o_ := ORD1.out; omega) (by have o_ := ORD1.out; omega))
  have X6 := Lib.hid (X5.out.trans (ee.mono (fun k hk => show k = g ∨ k = h ∨ k = o ∨ k = rs ∨ k = rt ∨ k = q from by have hk : k = o := hk; omega)))
  have B6 := Lib.hid (bb)
  clear ee B5 S5 P5 R5 K5 X5 bb
  generalize (((w5.setCell ⟨o, 3, none⟩ (.int .i64 1)).setCell ⟨o, 4, none⟩ (.int .i64 0)).setCell ⟨o, 2, none⟩ (.int .i64 (left - 1))) = w6 at *
  have kl : (left - 1 == 0) = true := by have := HV.out; exact beq_iff_eq.2 this
  have b0 := B6.out.cell 0
  have b2 := B6.out.cell 2
  have b10 := B6.out.cell 10
  simp only [pcs, List.getElem?_toArray, List.getElem?_cons_zero, List.getElem?_cons_succ] at b0 b2 b10
  have z10 := B6.out.frozen 10
  go_upto_region 40 with fail
  have bb : Blk (w6.setCell ⟨o, 10, none⟩ (.int .i64 2)) o 101 (pcs rs c.n cs rt c.T ct vw (left - 1) 1 0 pk gen place size 2 (steps + 1) begun) := ((B6.out).set_ 10 (.int .i64 2))
  clear kl b0 b2 b10 z10
  have ee : Ex (fun k => k = o) w6 (w6.setCell ⟨o, 10, none⟩ (.int .i64 2)) := ((Ex.refl (fun k => k = o) w6).setCell (q := ⟨o, 10, none⟩) (.inl rfl) (.int .i64 2))
  have S7 := Lib.hid (S6.out.ex ee (by have o_ := ORD1.out; omega))
  have P7 := Lib.hid (P6.out.ex ee (by have o_ := ORD1.out; omega))
  have R7 := Lib.hid (R6.out.ex ee (fun k hk hT => by have hT : k = o := hT; have w_ := WAP.out k hk; have o_ := ORD1.out; omega))
  have K7 := Lib.hid (K6.out.ex ee (by have o_ := ORD1.out; omega) (by have o_ := ORD1.out; omega))
  have X7 := Lib.hid (X6.out.trans (ee.mono (fun k hk => show k = g ∨ k = h ∨ k = o ∨ k = rs ∨ k = rt ∨ k = q from by have hk : k = o := hk; omega)))
  have B7 := Lib.hid (bb)
  clear ee B6 S6 P6 R6 K6 X6 bb
  generalize (w6.setCell ⟨o, 10, none⟩ (.int .i64 2)) = w7 at *
  have b0 := B7.out.cell 0
  have b10 := B7.out.cell 10
  simp only [pcs, List.getElem?_toArray, List.getElem?_cons_zero, List.getElem?_cons_succ] at b0 b10
  go_wp2_with fail
  clear b0 b10
  first | rw [goOn_ret] | skip
  go_ret
  exact ⟨rfl, K7.out, ⟨q, vw, ⟨B7.out, S7.out, P7.out, R7.out, Nat.lt_of_lt_of_le QL.out X7.out.size, HA.out, WAP.out⟩, .inl rfl⟩, X7.out⟩
end Go.Proofs.Ythcaagkgddeabaa.Bank
