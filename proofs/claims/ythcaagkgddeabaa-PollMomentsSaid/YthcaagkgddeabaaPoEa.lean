/-
  Law 12: a poll's step, walked: the first round. Printed by wip/tools/mkpoe.py. Conditions stand at each. By an AI agent.
-/
import Derived.Test.YthcaagkgddeabaaPoE
namespace Go.Proofs.Ythcaagkgddeabaa.Bank
set_option linter.unusedVariables false
set_option linter.unusedSimpArgs false
open Go Go.RowKit Go.Proofs.Ythcaagkgddeabaa.Base Go.Deep Go.ChangeShapes Go.WideShapes Go.Proofs.Ythcaagkgddeabaa.Queue
set_option maxRecDepth 100000 in
set_option maxHeartbeats 8000000 in
theorem PS_A (g h o rs cs rt ct q : Nat) (vw : Value) (ws : List Int) (t : Int) (c : PC) (left pk gen place size steps begun : Int) (words gl : List Int) (cu : Nat → Cur) (j : Nat) (w : World) (hb : BankAt w g h ws t)
    (ho : PAt w o rs cs rt ct q vw c ⟨left, 1, (j : Int), pk, gen, place, size, 0, steps, begun, words, gl, cu⟩) (hi : PInv c ⟨left, 1, (j : Int), pk, gen, place, size, 0, steps, begun, words, gl, cu⟩)
    (ne : o ≠ g ∧ o ≠ h ∧ rs ≠ g ∧ rs ≠ h ∧ rt ≠ g ∧ rt ≠ h ∧ q ≠ g ∧ q ≠ h) (hj : j < c.T) (hin : inW ws (c.tp j).spot.seq) (hv : j + 1 ≠ c.T) :
    Calls Try.prog 9 #[.pointer (some ⟨o, 0, none⟩), .pointer (some ⟨g, 0, none⟩)] w fun e w' => e = .returned (.int .i64 0) ∧ BankAt w' g h ws (tickF ws (c.tp j).spot.seq t) ∧ (∃ q' vw', PAt w' o rs cs rt ct q' vw' c ⟨left, 1, (j : Int) + 1, pk, gen, place, size, 0, steps + 1, begun, words, (gl.set j (wordF ws (c.tp j).spot.seq / 2)), cu⟩ ∧ (q' = q ∨ w.heap.size ≤ q')) ∧ Ex (fun k => k = g ∨ k = h ∨ k = o ∨ k = rs ∨ k = rt ∨ k = q) w w' := by
  have HI := Lib.hid hi
  have HJ := Lib.hid hj
  have WAP := Lib.hid ho.wap
  have QL := Lib.hid ho.qlt
  have HA := Lib.hid ho.apart
  have HIN := Lib.hid hin
  have N64 := Lib.hid (show c.n ≤ 64 ∧ c.T ≤ 64 from ⟨hi.ok.n64, Nat.le_trans hi.ok.tn hi.ok.n64⟩)
  have GLEN := Lib.hid (show gl.length = c.T from hi.fit.glen)
  have HRG := Lib.hid (fun i => wordF_range hb i)
  have B0 : RowKit.Hid (Blk w o 101 (pcs rs c.n cs rt c.T ct vw left 1 (j : Int) pk gen place size 0 steps begun)) := Lib.hid ho.box
  have S0 : RowKit.Hid (SubsIn w rs c.n (c.sub cu)) := Lib.hid ho.subs
  have P0 : RowKit.Hid (TopsIn w rt c.T c.tp gl) := Lib.hid ho.tops
  have R0 : RowKit.Hid (OwnR w vw words) := Lib.hid ho.row
  have K0 := Lib.hid hb
  have X0 := Lib.hid (Ex.refl (fun k => k = g ∨ k = h ∨ k = o ∨ k = rs ∨ k = rt ∨ k = q) w)
  have NE := Lib.hid ne
  have HV := Lib.hid hv
  have ORD1 := Lib.hid (show rs ≠ o ∧ rt ≠ o ∧ rs ≠ rt ∧ o ≠ g ∧ o ≠ h ∧ rs ≠ g ∧ rs ≠ h ∧ rt ≠ g ∧ rt ≠ h ∧ q ≠ g ∧ q ≠ h from by have h1 := HA.out; have h2 := NE.out; omega)
  have HJ6 := Lib.hid (show j ≤ 64 by have := N64.out; omega)
  have HNUM := Lib.hid (pstep_nums (j := j) hi.st HJ6.out)
  clear ho hb hi ne hj hin hv
  have b0 := B0.out.cell 0
  have b10 := B0.out.cell 10
  have b3 := B0.out.cell 3
  simp only [pcs, List.getElem?_toArray, List.getElem?_cons_zero, List.getElem?_cons_succ] at b0 b10 b3
  go_enter Try.func9, Try.ntmps9
  go_wp2_with fail
  refine wp_scope_ahead 2 (fun c0 HC => ?_)
  go_upto_region 9 with fail
  clear b0 b10 b3
  have hne : Nonempty (Held (Ex (fun k => k = g ∨ k = h) w)) := ⟨⟨w, Ex.refl _ _⟩⟩
  have p0 : ∀ y : Held (Ex (fun k => k = g ∨ k = h) w), y.w.cell? ⟨o, 0, none⟩ = some (.slice (some ⟨rs, 0, none⟩) c.n cs) := fun y => (B0.out.ex y.ok (by have o_ := ORD1.out; omega)).cell 0
  have p4 : ∀ y : Held (Ex (fun k => k = g ∨ k = h) w), y.w.cell? ⟨o, 4, none⟩ = some (.int .i64 (j : Int)) := fun y => (B0.out.ex y.ok (by have o_ := ORD1.out; omega)).cell 4
  have p1 : ∀ y : Held (Ex (fun k => k = g ∨ k = h) w), y.w.cell? ⟨o, 1, none⟩ = some (.slice (some ⟨rt, 0, none⟩) c.T ct) := fun y => (B0.out.ex y.ok (by have o_ := ORD1.out; omega)).cell 1
  have pt : ∀ y : Held (Ex (fun k => k = g ∨ k = h) w), y.w.cell? ⟨rt, j * 7 + 2, none⟩ = some (.int .i64 (c.tp j).spot.seq) := fun y => (P0.out.ex y.ok (by have o_ := ORD1.out; omega)).cells j HJ.out 2 (by decide)
  have zj0 : (0 : Int) ≤ (j : Int) := by omega
  have zj1 : (j : Int) < (c.T : Int) := by have := HJ.out; omega
  have XD := Lib.hid ((Ex.refl (fun k => k = g ∨ k = h) w).drew)
  refine drawn_bars (S := (Ex (fun k => k = g ∨ k = h) w)) [([0, 1, 2, 3, 4, 5, 6, 7, 8, 9, 10, 11, 12], 13)] [14, 15, 16, 17, 18] (by kernel_rfl) (by kernel_rfl) (by kernel_rfl) rfl (Ex.refl _ _).drew ?_
  refine Phased.go ?_
  simp only [pick, List.map_cons, List.map_nil, List.getElem?_cons_zero, List.getElem?_cons_succ, Option.getD_some]
  repeat (go_big_quiet_step (fail))
  refine wpQuiet_nil ?_
  clear hne p0 p4 p1 pt zj0 zj1
  have ee : Ex (fun _ => False) w w.drew := (Ex.refl _ w).drew
  have B2 := Lib.hid (B0.out.ex ee (fun h => h))
  have S2 := Lib.hid (S0.out.ex ee (fun h => h))
  have P2 := Lib.hid (P0.out.ex ee (fun h => h))
  have R2 := Lib.hid (R0.out.ex ee (fun k hk hT => hT))
  have K2 := Lib.hid (K0.out.ex ee (fun h => h) (fun h => h))
  have X2 := Lib.hid (X0.out.trans (ee.mono (fun k hk => hk.elim)))
  clear ee B0 S0 P0 R0 K0 X0
  generalize w.drew = w1 at *
  go_wp2_with fail
  refine (Load_any g h ws t (c.tp j).spot.seq w1 K2.out).mono ?_; rintro e w3 ⟨rfl, hb1, hx1⟩
  have XE := Lib.hid (XD.out.trans (Ex.of_ex2 (T := fun k => k = g ∨ k = h) hx1 (.inl rfl) (.inr rfl)))
  rw [errF_in HIN.out]
  have ee : Ex (fun k => k = g ∨ k = h) w1 w3 := Ex.of_ex2 (T := fun k => k = g ∨ k = h) hx1 (.inl rfl) (.inr rfl)
  have B3 := Lib.hid (B2.out.ex ee (by have o_ := ORD1.out; omega))
  have S3 := Lib.hid (S2.out.ex ee (by have o_ := ORD1.out; omega))
  have P3 := Lib.hid (P2.out.ex ee (by have o_ := ORD1.out; omega))
  have R3 := Lib.hid (R2.out.ex ee (fun k hk hT => by have hT : k = g ∨ k = h := hT; have w_ := WAP.out k hk; have o_ := ORD1.out; omega))
  have X3 := Lib.hid (X2.out.trans (ee.mono (fun k hk => show k = g ∨ k = h ∨ k = o ∨ k = rs ∨ k = rt ∨ k = q from by have hk : k = g ∨ k = h := hk; omega)))
  have K3 := Lib.hid (hb1)
  clear ee B2 S2 P2 R2 K2 X2 hb1 hx1
  obtain ⟨v, hvv⟩ : ∃ v, wordF ws (c.tp j).spot.seq = v := ⟨_, rfl⟩
  have HVV := Lib.hid hvv
  have HR := Lib.hid (show 0 ≤ v ∧ v ≤ 18446744073709551615 by rw [← hvv]; exact HRG.out _)
  rw [hvv]
  clear hvv
  go_wp2_with fail
  refine behind_normal ⟨(Ex (fun k => k = g ∨ k = h) w), fun W h => h, XE.out, ?_⟩
  refine Phased.end_ ?_
  have hne4 : Nonempty (Held (fun W => W = w3)) := ⟨⟨_, rfl⟩⟩
  simp only [pick, List.map_cons, List.map_nil, List.getElem?_cons_zero, List.getElem?_cons_succ, Option.getD_some]
  repeat (go_big_quiet_step (fail))
  refine wpQuiet_nil ?_
  clear hne4
  have hw1 := HNUM.out.1
  have b0 := B3.out.cell 0
  have b11 := B3.out.cell 11
  simp only [pcs, List.getElem?_toArray, List.getElem?_cons_zero, List.getElem?_cons_succ] at b0 b11
  have z11 := B3.out.frozen 11
  go_upto_region 12 with fail
  have bb : Blk (w3.setCell ⟨o, 11, none⟩ (.int .i64 (steps + 1))) o 101 (pcs rs c.n cs rt c.T ct vw left 1 (j : Int) pk gen place size 0 (steps + 1) begun) := ((B3.out).set_ 11 (.int .i64 (steps + 1)))
  clear hw1 b0 b11 z11
  have ee : Ex (fun k => k = o) w3 (w3.setCell ⟨o, 11, none⟩ (.int .i64 (steps + 1))) := ((Ex.refl (fun k => k = o) w3).setCell (q := ⟨o, 11, none⟩) (.inl rfl) (.int .i64 (steps + 1)))
  have S4 := Lib.hid (S3.out.ex ee (by have o_ := ORD1.out; omega))
  have P4 := Lib.hid (P3.out.ex ee (by have o_ := ORD1.out; omega))
  have R4 := Lib.hid (R3.out.ex ee (fun k hk hT => by have hT : k = o := hT; have w_ := WAP.out k hk; have o_ := ORD1.out; omega))
  have K4 := Lib.hid (K3.out.ex ee (by have o_ := ORD1.out; omega) (by have o_ := ORD1.out; omega))
  have X4 := Lib.hid (X3.out.trans (ee.mono (fun k hk => show k = g ∨ k = h ∨ k = o ∨ k = rs ∨ k = rt ∨ k = q from by have hk : k = o := hk; omega)))
  have B4 := Lib.hid (bb)
  clear ee B3 S3 P3 R3 K3 X3 bb
  generalize (w3.setCell ⟨o, 11, none⟩ (.int .i64 (steps + 1))) = w4 at *
  have YD := Lib.hid (Ex.refl (fun k => k = rt) w4).drew
  have hne : Nonempty (Held (Ex (fun k => k = rt) w4)) := ⟨⟨w4, Ex.refl _ _⟩⟩
  have p0 : ∀ y : Held (Ex (fun k => k = rt) w4), y.w.cell? ⟨o, 0, none⟩ = some (.slice (some ⟨rs, 0, none⟩) c.n cs) := fun y => (B4.out.ex y.ok (by have o_ := ORD1.out; omega)).cell 0
  have p1 : ∀ y : Held (Ex (fun k => k = rt) w4), y.w.cell? ⟨o, 1, none⟩ = some (.slice (some ⟨rt, 0, none⟩) c.T ct) := fun y => (B4.out.ex y.ok (by have o_ := ORD1.out; omega)).cell 1
  have p4 : ∀ y : Held (Ex (fun k => k = rt) w4), y.w.cell? ⟨o, 4, none⟩ = some (.int .i64 (j : Int)) := fun y => (B4.out.ex y.ok (by have o_ := ORD1.out; omega)).cell 4
  have zj0 : (0 : Int) ≤ (j : Int) := by omega
  have zj1 : (j : Int) < (c.T : Int) := by have := HJ.out; omega
  refine drawn_bars (S := (Ex (fun k => k = rt) w4)) [([0, 1, 2, 3, 4, 5, 6, 7, 8], 9), ([10, 11], 12)] [] (by kernel_rfl) (by kernel_rfl) (by kernel_rfl) rfl (Ex.refl _ _).drew ?_
  refine Phased.go ?_
  simp only [pick, List.map_cons, List.map_nil, List.getElem?_cons_zero, List.getElem?_cons_succ, Option.getD_some]
  repeat (go_big_quiet_step (fail))
  refine wpQuiet_nil ?_
  have ee : Ex (fun _ => False) w4 w4.drew := (Ex.refl _ w4).drew
  have B5 := Lib.hid (B4.out.ex ee (fun h => h))
  have S5 := Lib.hid (S4.out.ex ee (fun h => h))
  have P5 := Lib.hid (P4.out.ex ee (fun h => h))
  have R5 := Lib.hid (R4.out.ex ee (fun k hk hT => hT))
  have K5 := Lib.hid (K4.out.ex ee (fun h => h) (fun h => h))
  have X5 := Lib.hid (X4.out.trans (ee.mono (fun k hk => hk.elim)))
  clear ee B4 S4 P4 R4 K4 X4
  generalize w4.drew = w5 at *
  go_wp2_with fail
  refine (Gen_any v w5).mono ?_; rintro e w6 ⟨rfl, rfl⟩
  go_wp2_with fail
  refine behind_normal ⟨(Ex (fun k => k = rt) w4), fun W h => h, YD.out, ?_⟩
  refine Phased.go ?_
  simp only [pick, List.map_cons, List.map_nil, List.getElem?_cons_zero, List.getElem?_cons_succ, Option.getD_some]
  repeat (go_big_quiet_step (fail))
  refine wpQuiet_nil ?_
  clear hne p0 p1 p4 zj0 zj1
  have g6 : w5.cell? ⟨rt, j * 7 + 6, none⟩ = some (.int .u64 (nth gl j)) := P5.out.cells j HJ.out 6 (by decide)
  have z6 := P5.out.fro (j * 7 + 6)
  go_wp2_with fail
  have YE := Lib.hid (YD.out.trans ((Ex.refl (fun k => k = rt) w5).setCell (q := ⟨rt, j * 7 + 6, none⟩) (.inl rfl) (.int .u64 (v / 2))))
  have hpp : TopsIn (w5.setCell ⟨rt, j * 7 + 6, none⟩ (.int .u64 (v / 2))) rt c.T c.tp (gl.set j (v / 2)) := P5.out.setGen HJ.out GLEN.out (v / 2)
  clear g6 z6
  have ee : Ex (fun k => k = rt) w5 (w5.setCell ⟨rt, j * 7 + 6, none⟩ (.int .u64 (v / 2))) := ((Ex.refl (fun k => k = rt) w5).setCell (q := ⟨rt, j * 7 + 6, none⟩) (.inl rfl) (.int .u64 (v / 2)))
  have B6 := Lib.hid (B5.out.ex ee (by have o_ := ORD1.out; omega))
  have S6 := Lib.hid (S5.out.ex ee (by have o_ := ORD1.out; omega))
  have R6 := Lib.hid (R5.out.ex ee (fun k hk hT => by have hT : k = rt := hT; have w_ := WAP.out k hk; have o_ := ORD1.out; omega))
  have K6 := Lib.hid (K5.out.ex ee (by have o_ := ORD1.out; omega) (by have o_ := ORD1.out; omega))
  have X6 := Lib.hid (X5.out.trans (ee.mono (fun k hk => show k = g ∨ k = h ∨ k = o ∨ k = rs ∨ k = rt ∨ k = q from by have hk : k = rt := hk; omega)))
  have P6 := Lib.hid (hpp)
  clear ee B5 S5 P5 R5 K5 X5 hpp
  generalize (w5.setCell ⟨rt, j * 7 + 6, none⟩ (.int .u64 (v / 2))) = w7 at *
  refine behind_normal ⟨(Ex (fun k => k = rt) w4), fun W h => h, YE.out, ?_⟩
  refine Phased.end_ ?_
  simp only [pick, List.map_nil]
  refine wpQuiet_nil ?_
  have hw2 := HNUM.out.2
  have b0 := B6.out.cell 0
  have b4 := B6.out.cell 4
  simp only [pcs, List.getElem?_toArray, List.getElem?_cons_zero, List.getElem?_cons_succ] at b0 b4
  have z4 := B6.out.frozen 4
  go_upto_region 14 with fail
  have bb : Blk (w7.setCell ⟨o, 4, none⟩ (.int .i64 ((j : Int) + 1))) o 101 (pcs rs c.n cs rt c.T ct vw left 1 ((j : Int) + 1) pk gen place size 0 (steps + 1) begun) := ((B6.out).set_ 4 (.int .i64 ((j : Int) + 1)))
  clear hw2 b0 b4 z4
  have ee : Ex (fun k => k = o) w7 (w7.setCell ⟨o, 4, none⟩ (.int .i64 ((j : Int) + 1))) := ((Ex.refl (fun k => k = o) w7).setCell (q := ⟨o, 4, none⟩) (.inl rfl) (.int .i64 ((j : Int) + 1)))
  have S7 := Lib.hid (S6.out.ex ee (by have o_ := ORD1.out; omega))
  have P7 := Lib.hid (P6.out.ex ee (by have o_ := ORD1.out; omega))
  have R7 := Lib.hid (R6.out.ex ee (fun k hk hT => by have hT : k = o := hT; have w_ := WAP.out k hk; have o_ := ORD1.out; omega))
  have K7 := Lib.hid (K6.out.ex ee (by have o_ := ORD1.out; omega) (by have o_ := ORD1.out; omega))
  have X7 := Lib.hid (X6.out.trans (ee.mono (fun k hk => show k = g ∨ k = h ∨ k = o ∨ k = rs ∨ k = rt ∨ k = q from by have hk : k = o := hk; omega)))
  have B7 := Lib.hid (bb)
  clear ee B6 S6 P6 R6 K6 X6 bb
  generalize (w7.setCell ⟨o, 4, none⟩ (.int .i64 ((j : Int) + 1))) = w8 at *
  have hne : Nonempty (Held (fun W => W = w8.drew)) := ⟨⟨_, rfl⟩⟩
  have p0 : ∀ y : Held (fun W => W = w8.drew), y.w.cell? ⟨o, 0, none⟩ = some (.slice (some ⟨rs, 0, none⟩) c.n cs) := fun y => by rw [y.ok]; exact B7.out.cell 0
  have p1 : ∀ y : Held (fun W => W = w8.drew), y.w.cell? ⟨o, 1, none⟩ = some (.slice (some ⟨rt, 0, none⟩) c.T ct) := fun y => by rw [y.ok]; exact B7.out.cell 1
  have p4 : ∀ y : Held (fun W => W = w8.drew), y.w.cell? ⟨o, 4, none⟩ = some (.int .i64 ((j : Int) + 1)) := fun y => by rw [y.ok]; exact B7.out.cell 4
  refine drawn_bars (S := fun _ => True) [] [0, 1, 2, 3, 4, 5, 6, 7, 8, 9] (by kernel_rfl) (by kernel_rfl) (by kernel_rfl) rfl trivial ?_
  refine Phased.end_ ?_
  simp only [pick, List.map_cons, List.map_nil, List.getElem?_cons_zero, List.getElem?_cons_succ, Option.getD_some]
  repeat (go_big_quiet_step (fail))
  refine wpQuiet_nil ?_
  clear hne p0 p1 p4
  have ee : Ex (fun _ => False) w8 w8.drew := (Ex.refl _ w8).drew
  have B8 := Lib.hid (B7.out.ex ee (fun h => h))
  have S8 := Lib.hid (S7.out.ex ee (fun h => h))
  have P8 := Lib.hid (P7.out.ex ee (fun h => h))
  have R8 := Lib.hid (R7.out.ex ee (fun k hk hT => hT))
  have K8 := Lib.hid (K7.out.ex ee (fun h => h) (fun h => h))
  have X8 := Lib.hid (X7.out.trans (ee.mono (fun k hk => hk.elim)))
  clear ee B7 S7 P7 R7 K7 X7
  generalize w8.drew = w9 at *
  have ke : (((j : Int) + 1) == (c.T : Int)) = false := by have := HV.out; exact beq_eq_false_iff_ne.2 (by omega)
  go_wp2_with fail
  have hvq := HVV.out
  subst hvq
  clear ke
  first | rw [goOn_ret] | skip
  go_ret
  exact ⟨rfl, K8.out, ⟨q, vw, ⟨B8.out, S8.out, P8.out, R8.out, Nat.lt_of_lt_of_le QL.out X8.out.size, HA.out, WAP.out⟩, .inl rfl⟩, X8.out⟩
set_option maxRecDepth 100000 in
set_option maxHeartbeats 8000000 in
theorem PS_Al (g h o rs cs rt ct q : Nat) (vw : Value) (ws : List Int) (t : Int) (c : PC) (left pk gen place size steps begun : Int) (words gl : List Int) (cu : Nat → Cur) (j : Nat) (w : World) (hb : BankAt w g h ws t)
    (ho : PAt w o rs cs rt ct q vw c ⟨left, 1, (j : Int), pk, gen, place, size, 0, steps, begun, words, gl, cu⟩) (hi : PInv c ⟨left, 1, (j : Int), pk, gen, place, size, 0, steps, begun, words, gl, cu⟩)
    (ne : o ≠ g ∧ o ≠ h ∧ rs ≠ g ∧ rs ≠ h ∧ rt ≠ g ∧ rt ≠ h ∧ q ≠ g ∧ q ≠ h) (hj : j < c.T) (hin : inW ws (c.tp j).spot.seq) (hv : j + 1 = c.T) :
    Calls Try.prog 9 #[.pointer (some ⟨o, 0, none⟩), .pointer (some ⟨g, 0, none⟩)] w fun e w' => e = .returned (.int .i64 0) ∧ BankAt w' g h ws (tickF ws (c.tp j).spot.seq t) ∧ (∃ q' vw', PAt w' o rs cs rt ct q' vw' c (firstP c ⟨left, 1, (j : Int) + 1, pk, gen, place, size, 0, steps + 1, begun, words, gl.set j (wordF ws (c.tp j).spot.seq / 2), cu⟩) ∧ (q' = q ∨ w.heap.size ≤ q')) ∧ Ex (fun k => k = g ∨ k = h ∨ k = o ∨ k = rs ∨ k = rt ∨ k = q) w w' := by
  have HI := Lib.hid hi
  have HJ := Lib.hid hj
  have WAP := Lib.hid ho.wap
  have QL := Lib.hid ho.qlt
  have HA := Lib.hid ho.apart
  have HIN := Lib.hid hin
  have N64 := Lib.hid (show c.n ≤ 64 ∧ c.T ≤ 64 from ⟨hi.ok.n64, Nat.le_trans hi.ok.tn hi.ok.n64⟩)
  have GLEN := Lib.hid (show gl.length = c.T from hi.fit.glen)
  have HRG := Lib.hid (fun i => wordF_range hb i)
  have B0 : RowKit.Hid (Blk w o 101 (pcs rs c.n cs rt c.T ct vw left 1 (j : Int) pk gen place size 0 steps begun)) := Lib.hid ho.box
  have S0 : RowKit.Hid (SubsIn w rs c.n (c.sub cu)) := Lib.hid ho.subs
  have P0 : RowKit.Hid (TopsIn w rt c.T c.tp gl) := Lib.hid ho.tops
  have R0 : RowKit.Hid (OwnR w vw words) := Lib.hid ho.row
  have K0 := Lib.hid hb
  have X0 := Lib.hid (Ex.refl (fun k => k = g ∨ k = h ∨ k = o ∨ k = rs ∨ k = rt ∨ k = q) w)
  have NE := Lib.hid ne
  have HV := Lib.hid hv
  have ORD1 := Lib.hid (show rs ≠ o ∧ rt ≠ o ∧ rs ≠ rt ∧ o ≠ g ∧ o ≠ h ∧ rs ≠ g ∧ rs ≠ h ∧ rt ≠ g ∧ rt ≠ h ∧ q ≠ g ∧ q ≠ h from by have h1 := HA.out; have h2 := NE.out; omega)
  have HJ6 := Lib.hid (show j ≤ 64 by have := N64.out; omega)
  have HNUM := Lib.hid (pstep_nums (j := j) hi.st HJ6.out)
  clear ho hb hi ne hj hin hv
  have b0 := B0.out.cell 0
  have b10 := B0.out.cell 10
  have b3 := B0.out.cell 3
  simp only [pcs, List.getElem?_toArray, List.getElem?_cons_zero, List.getElem?_cons_succ] at b0 b10 b3
  go_enter Try.func9, Try.ntmps9
  go_wp2_with fail
  refine wp_scope_ahead 2 (fun c0 HC => ?_)
  go_upto_region 9 with fail
  clear b0 b10 b3
  have hne : Nonempty (Held (Ex (fun k => k = g ∨ k = h) w)) := ⟨⟨w, Ex.refl _ _⟩⟩
  have p0 : ∀ y : Held (Ex (fun k => k = g ∨ k = h) w), y.w.cell? ⟨o, 0, none⟩ = some (.slice (some ⟨rs, 0, none⟩) c.n cs) := fun y => (B0.out.ex y.ok (by have o_ := ORD1.out; omega)).cell 0
  have p4 : ∀ y : Held (Ex (fun k => k = g ∨ k = h) w), y.w.cell? ⟨o, 4, none⟩ = some (.int .i64 (j : Int)) := fun y => (B0.out.ex y.ok (by have o_ := ORD1.out; omega)).cell 4
  have p1 : ∀ y : Held (Ex (fun k => k = g ∨ k = h) w), y.w.cell? ⟨o, 1, none⟩ = some (.slice (some ⟨rt, 0, none⟩) c.T ct) := fun y => (B0.out.ex y.ok (by have o_ := ORD1.out; omega)).cell 1
  have pt : ∀ y : Held (Ex (fun k => k = g ∨ k = h) w), y.w.cell? ⟨rt, j * 7 + 2, none⟩ = some (.int .i64 (c.tp j).spot.seq) := fun y => (P0.out.ex y.ok (by have o_ := ORD1.out; omega)).cells j HJ.out 2 (by decide)
  have zj0 : (0 : Int) ≤ (j : Int) := by omega
  have zj1 : (j : Int) < (c.T : Int) := by have := HJ.out; omega
  have XD := Lib.hid ((Ex.refl (fun k => k = g ∨ k = h) w).drew)
  refine drawn_bars (S := (Ex (fun k => k = g ∨ k = h) w)) [([0, 1, 2, 3, 4, 5, 6, 7, 8, 9, 10, 11, 12], 13)] [14, 15, 16, 17, 18] (by kernel_rfl) (by kernel_rfl) (by kernel_rfl) rfl (Ex.refl _ _).drew ?_
  refine Phased.go ?_
  simp only [pick, List.map_cons, List.map_nil, List.getElem?_cons_zero, List.getElem?_cons_succ, Option.getD_some]
  repeat (go_big_quiet_step (fail))
  refine wpQuiet_nil ?_
  clear hne p0 p4 p1 pt zj0 zj1
  have ee : Ex (fun _ => False) w w.drew := (Ex.refl _ w).drew
  have B2 := Lib.hid (B0.out.ex ee (fun h => h))
  have S2 := Lib.hid (S0.out.ex ee (fun h => h))
  have P2 := Lib.hid (P0.out.ex ee (fun h => h))
  have R2 := Lib.hid (R0.out.ex ee (fun k hk hT => hT))
  have K2 := Lib.hid (K0.out.ex ee (fun h => h) (fun h => h))
  have X2 := Lib.hid (X0.out.trans (ee.mono (fun k hk => hk.elim)))
  clear ee B0 S0 P0 R0 K0 X0
  generalize w.drew = w1 at *
  go_wp2_with fail
  refine (Load_any g h ws t (c.tp j).spot.seq w1 K2.out).mono ?_; rintro e w3 ⟨rfl, hb1, hx1⟩
  have XE := Lib.hid (XD.out.trans (Ex.of_ex2 (T := fun k => k = g ∨ k = h) hx1 (.inl rfl) (.inr rfl)))
  rw [errF_in HIN.out]
  have ee : Ex (fun k => k = g ∨ k = h) w1 w3 := Ex.of_ex2 (T := fun k => k = g ∨ k = h) hx1 (.inl rfl) (.inr rfl)
  have B3 := Lib.hid (B2.out.ex ee (by have o_ := ORD1.out; omega))
  have S3 := Lib.hid (S2.out.ex ee (by have o_ := ORD1.out; omega))
  have P3 := Lib.hid (P2.out.ex ee (by have o_ := ORD1.out; omega))
  have R3 := Lib.hid (R2.out.ex ee (fun k hk hT => by have hT : k = g ∨ k = h := hT; have w_ := WAP.out k hk; have o_ := ORD1.out; omega))
  have X3 := Lib.hid (X2.out.trans (ee.mono (fun k hk => show k = g ∨ k = h ∨ k = o ∨ k = rs ∨ k = rt ∨ k = q from by have hk : k = g ∨ k = h := hk; omega)))
  have K3 := Lib.hid (hb1)
  clear ee B2 S2 P2 R2 K2 X2 hb1 hx1
  obtain ⟨v, hvv⟩ : ∃ v, wordF ws (c.tp j).spot.seq = v := ⟨_, rfl⟩
  have HVV := Lib.hid hvv
  have HR := Lib.hid (show 0 ≤ v ∧ v ≤ 18446744073709551615 by rw [← hvv]; exact HRG.out _)
  rw [hvv]
  clear hvv
  go_wp2_with fail
  refine behind_normal ⟨(Ex (fun k => k = g ∨ k = h) w), fun W h => h, XE.out, ?_⟩
  refine Phased.end_ ?_
  have hne4 : Nonempty (Held (fun W => W = w3)) := ⟨⟨_, rfl⟩⟩
  simp only [pick, List.map_cons, List.map_nil, List.getElem?_cons_zero, List.getElem?_cons_succ, Option.getD_some]
  repeat (go_big_quiet_step (fail))
  refine wpQuiet_nil ?_
  clear hne4
  have hw1 := HNUM.out.1
  have b0 := B3.out.cell 0
  have b11 := B3.out.cell 11
  simp only [pcs, List.getElem?_toArray, List.getElem?_cons_zero, List.getElem?_cons_succ] at b0 b11
  have z11 := B3.out.frozen 11
  go_upto_region 12 with fail
  have bb : Blk (w3.setCell ⟨o, 11, none⟩ (.int .i64 (steps + 1))) o 101 (pcs rs c.n cs rt c.T ct vw left 1 (j : Int) pk gen place size 0 (steps + 1) begun) := ((B3.out).set_ 11 (.int .i64 (steps + 1)))
  clear hw1 b0 b11 z11
  have ee : Ex (fun k => k = o) w3 (w3.setCell ⟨o, 11, none⟩ (.int .i64 (steps + 1))) := ((Ex.refl (fun k => k = o) w3).setCell (q := ⟨o, 11, none⟩) (.inl rfl) (.int .i64 (steps + 1)))
  have S4 := Lib.hid (S3.out.ex ee (by have o_ := ORD1.out; omega))
  have P4 := Lib.hid (P3.out.ex ee (by have o_ := ORD1.out; omega))
  have R4 := Lib.hid (R3.out.ex ee (fun k hk hT => by have hT : k = o := hT; have w_ := WAP.out k hk; have o_ := ORD1.out; omega))
  have K4 := Lib.hid (K3.out.ex ee (by have o_ := ORD1.out; omega) (by have o_ := ORD1.out; omega))
  have X4 := Lib.hid (X3.out.trans (ee.mono (fun k hk => show k = g ∨ k = h ∨ k = o ∨ k = rs ∨ k = rt ∨ k = q from by have hk : k = o := hk; omega)))
  have B4 := Lib.hid (bb)
  clear ee B3 S3 P3 R3 K3 X3 bb
  generalize (w3.setCell ⟨o, 11, none⟩ (.int .i64 (steps + 1))) = w4 at *
  have YD := Lib.hid (Ex.refl (fun k => k = rt) w4).drew
  have hne : Nonempty (Held (Ex (fun k => k = rt) w4)) := ⟨⟨w4, Ex.refl _ _⟩⟩
  have p0 : ∀ y : Held (Ex (fun k => k = rt) w4), y.w.cell? ⟨o, 0, none⟩ = some (.slice (some ⟨rs, 0, none⟩) c.n cs) := fun y => (B4.out.ex y.ok (by have o_ := ORD1.out; omega)).cell 0
  have p1 : ∀ y : Held (Ex (fun k => k = rt) w4), y.w.cell? ⟨o, 1, none⟩ = some (.slice (some ⟨rt, 0, none⟩) c.T ct) := fun y => (B4.out.ex y.ok (by have o_ := ORD1.out; omega)).cell 1
  have p4 : ∀ y : Held (Ex (fun k => k = rt) w4), y.w.cell? ⟨o, 4, none⟩ = some (.int .i64 (j : Int)) := fun y => (B4.out.ex y.ok (by have o_ := ORD1.out; omega)).cell 4
  have zj0 : (0 : Int) ≤ (j : Int) := by omega
  have zj1 : (j : Int) < (c.T : Int) := by have := HJ.out; omega
  refine drawn_bars (S := (Ex (fun k => k = rt) w4)) [([0, 1, 2, 3, 4, 5, 6, 7, 8], 9), ([10, 11], 12)] [] (by kernel_rfl) (by kernel_rfl) (by kernel_rfl) rfl (Ex.refl _ _).drew ?_
  refine Phased.go ?_
  simp only [pick, List.map_cons, List.map_nil, List.getElem?_cons_zero, List.getElem?_cons_succ, Option.getD_some]
  repeat (go_big_quiet_step (fail))
  refine wpQuiet_nil ?_
  have ee : Ex (fun _ => False) w4 w4.drew := (Ex.refl _ w4).drew
  have B5 := Lib.hid (B4.out.ex ee (fun h => h))
  have S5 := Lib.hid (S4.out.ex ee (fun h => h))
  have P5 := Lib.hid (P4.out.ex ee (fun h => h))
  have R5 := Lib.hid (R4.out.ex ee (fun k hk hT => hT))
  have K5 := Lib.hid (K4.out.ex ee (fun h => h) (fun h => h))
  have X5 := Lib.hid (X4.out.trans (ee.mono (fun k hk => hk.elim)))
  clear ee B4 S4 P4 R4 K4 X4
  generalize w4.drew = w5 at *
  go_wp2_with fail
  refine (Gen_any v w5).mono ?_; rintro e w6 ⟨rfl, rfl⟩
  go_wp2_with fail
  refine behind_normal ⟨(Ex (fun k => k = rt) w4), fun W h => h, YD.out, ?_⟩
  refine Phased.go ?_
  simp only [pick, List.map_cons, List.map_nil, List.getElem?_cons_zero, List.getElem?_cons_succ, Option.getD_some]
  repeat (go_big_quiet_step (fail))
  refine wpQuiet_nil ?_
  clear hne p0 p1 p4 zj0 zj1
  have g6 : w5.cell? ⟨rt, j * 7 + 6, none⟩ = some (.int .u64 (nth gl j)) := P5.out.cells j HJ.out 6 (by decide)
  have z6 := P5.out.fro (j * 7 + 6)
  go_wp2_with fail
  have YE := Lib.hid (YD.out.trans ((Ex.refl (fun k => k = rt) w5).setCell (q := ⟨rt, j * 7 + 6, none⟩) (.inl rfl) (.int .u64 (v / 2))))
  have hpp : TopsIn (w5.setCell ⟨rt, j * 7 + 6, none⟩ (.int .u64 (v / 2))) rt c.T c.tp (gl.set j (v / 2)) := P5.out.setGen HJ.out GLEN.out (v / 2)
  clear g6 z6
  have ee : Ex (fun k => k = rt) w5 (w5.setCell ⟨rt, j * 7 + 6, none⟩ (.int .u64 (v / 2))) := ((Ex.refl (fun k => k = rt) w5).setCell (q := ⟨rt, j * 7 + 6, none⟩) (.inl rfl) (.int .u64 (v / 2)))
  have B6 := Lib.hid (B5.out.ex ee (by have o_ := ORD1.out; omega))
  have S6 := Lib.hid (S5.out.ex ee (by have o_ := ORD1.out; omega))
  have R6 := Lib.hid (R5.out.ex ee (fun k hk hT => by have hT : k = rt := hT; have w_ := WAP.out k hk; have o_ := ORD1.out; omega))
  have K6 := Lib.hid (K5.out.ex ee (by have o_ := ORD1.out; omega) (by have o_ := ORD1.out; omega))
  have X6 := Lib.hid (X5.out.trans (ee.mono (fun k hk => show k = g ∨ k = h ∨ k = o ∨ k = rs ∨ k = rt ∨ k = q from by have hk : k = rt := hk; omega)))
  have P6 := Lib.hid (hpp)
  clear ee B5 S5 P5 R5 K5 X5 hpp
  generalize (w5.setCell ⟨rt, j * 7 + 6, none⟩ (.int .u64 (v / 2))) = w7 at *
  refine behind_normal ⟨(Ex (fun k => k = rt) w4), fun W h => h, YE.out, ?_⟩
  refine Phased.end_ ?_
  simp only [pick, List.map_nil]
  refine wpQuiet_nil ?_
  have hw2 := HNUM.out.2
  have b0 := B6.out.cell 0
  have b4 := B6.out.cell 4
  simp only [pcs, List.getElem?_toArray, List.getElem?_cons_zero, List.getElem?_cons_succ] at b0 b4
  have z4 := B6.out.frozen 4
  go_upto_region 14 with fail
  have bb : Blk (w7.setCell ⟨o, 4, none⟩ (.int .i64 ((j : Int) + 1))) o 101 (pcs rs c.n cs rt c.T ct vw left 1 ((j : Int) + 1) pk gen place size 0 (steps + 1) begun) := ((B6.out).set_ 4 (.int .i64 ((j : Int) + 1)))
  clear hw2 b0 b4 z4
  have ee : Ex (fun k => k = o) w7 (w7.setCell ⟨o, 4, none⟩ (.int .i64 ((j : Int) + 1))) := ((Ex.refl (fun k => k = o) w7).setCell (q := ⟨o, 4, none⟩) (.inl rfl) (.int .i64 ((j : Int) + 1)))
  have S7 := Lib.hid (S6.out.ex ee (by have o_ := ORD1.out; omega))
  have P7 := Lib.hid (P6.out.ex ee (by have o_ := ORD1.out; omega))
  have R7 := Lib.hid (R6.out.ex ee (fun k hk hT => by have hT : k = o := hT; have w_ := WAP.out k hk; have o_ := ORD1.out; omega))
  have K7 := Lib.hid (K6.out.ex ee (by have o_ := ORD1.out; omega) (by have o_ := ORD1.out; omega))
  have X7 := Lib.hid (X6.out.trans (ee.mono (fun k hk => show k = g ∨ k = h ∨ k = o ∨ k = rs ∨ k = rt ∨ k = q from by have hk : k = o := hk; omega)))
  have B7 := Lib.hid (bb)
  clear ee B6 S6 P6 R6 K6 X6 bb
  generalize (w7.setCell ⟨o, 4, none⟩ (.int .i64 ((j : Int) + 1))) = w8 at *
  have hne : Nonempty (Held (fun W => W = w8.drew)) := ⟨⟨_, rfl⟩⟩
  have p0 : ∀ y : Held (fun W => W = w8.drew), y.w.cell? ⟨o, 0, none⟩ = some (.slice (some ⟨rs, 0, none⟩) c.n cs) := fun y => by rw [y.ok]; exact B7.out.cell 0
  have p1 : ∀ y : Held (fun W => W = w8.drew), y.w.cell? ⟨o, 1, none⟩ = some (.slice (some ⟨rt, 0, none⟩) c.T ct) := fun y => by rw [y.ok]; exact B7.out.cell 1
  have p4 : ∀ y : Held (fun W => W = w8.drew), y.w.cell? ⟨o, 4, none⟩ = some (.int .i64 ((j : Int) + 1)) := fun y => by rw [y.ok]; exact B7.out.cell 4
  refine drawn_bars (S := fun _ => True) [] [0, 1, 2, 3, 4, 5, 6, 7, 8, 9] (by kernel_rfl) (by kernel_rfl) (by kernel_rfl) rfl trivial ?_
  refine Phased.end_ ?_
  simp only [pick, List.map_cons, List.map_nil, List.getElem?_cons_zero, List.getElem?_cons_succ, Option.getD_some]
  repeat (go_big_quiet_step (fail))
  refine wpQuiet_nil ?_
  clear hne p0 p1 p4
  have ee : Ex (fun _ => False) w8 w8.drew := (Ex.refl _ w8).drew
  have B8 := Lib.hid (B7.out.ex ee (fun h => h))
  have S8 := Lib.hid (S7.out.ex ee (fun h => h))
  have P8 := Lib.hid (P7.out.ex ee (fun h => h))
  have R8 := Lib.hid (R7.out.ex ee (fun k hk hT => hT))
  have K8 := Lib.hid (K7.out.ex ee (fun h => h) (fun h => h))
  have X8 := Lib.hid (X7.out.trans (ee.mono (fun k hk => hk.elim)))
  clear ee B7 S7 P7 R7 K7 X7
  generalize w8.drew = w9 at *
  have ke : (((j : Int) + 1) == (c.T : Int)) = true := by have := HV.out; exact beq_iff_eq.2 (by omega)
  have b0 := B8.out.cell 0
  simp only [pcs, List.getElem?_toArray, List.getElem?_cons_zero, List.getElem?_cons_succ] at b0
  go_wp2_with fail
  clear ke b0
  have hvq := HVV.out
  subst hvq
  refine (choose_any o rs cs rt ct q vw c ⟨left, 1, (j : Int) + 1, pk, gen, place, size, 0, steps + 1, begun, words, gl.set j (wordF ws (c.tp j).spot.seq / 2), cu⟩ w9 ⟨B8.out, S8.out, P8.out, R8.out, Nat.lt_of_lt_of_le QL.out X8.out.size, HA.out, WAP.out⟩ HI.out.ok (HI.out.fit.set HJ.out (by have := HR.out; omega))).mono ?_; rintro e wA ⟨rfl, hp, hx⟩
  obtain ⟨pk2, gen2, place2, size2, hform⟩ := chooseP_form c ⟨left, 1, (j : Int) + 1, pk, gen, place, size, 0, steps + 1, begun, words, gl.set j (wordF ws (c.tp j).spot.seq / 2), cu⟩
  rw [hform] at hp
  simp only at hform
  have HFO := Lib.hid hform
  clear hform
  have hbb : Blk wA o 101 (pcs rs c.n cs rt c.T ct (.slice none 0 0) left 1 ((j : Int) + 1) pk2 gen2 place2 size2 0 (steps + 1) (steps + 1)) := hp.box
  clear hp
  have ee : Ex (fun k => k = o) w9 wA := hx
  have S9 := Lib.hid (S8.out.ex ee (by have o_ := ORD1.out; omega))
  have P9 := Lib.hid (P8.out.ex ee (by have o_ := ORD1.out; omega))
  have K9 := Lib.hid (K8.out.ex ee (by have o_ := ORD1.out; omega) (by have o_ := ORD1.out; omega))
  have X9 := Lib.hid (X8.out.trans (ee.mono (fun k hk => show k = g ∨ k = h ∨ k = o ∨ k = rs ∨ k = rt ∨ k = q from by have hk : k = o := hk; omega)))
  have B9 := Lib.hid (hbb)
  have R9 := Lib.hid (OwnR.nil wA)
  clear ee B8 S8 P8 R8 K8 X8 hbb hx
  have WAP := Lib.hid (show ∀ k, (Value.slice none 0 0).ownBlock = some k → k = q ∧ k ≠ o ∧ k ≠ rs ∧ k ≠ rt from fun k hk => by simp [Value.ownBlock] at hk)
  have b0 := B9.out.cell 0
  have b3 := B9.out.cell 3
  have b4 := B9.out.cell 4
  simp only [pcs, List.getElem?_toArray, List.getElem?_cons_zero, List.getElem?_cons_succ] at b0 b3 b4
  have z3 := B9.out.frozen 3
  have z4 := B9.out.frozen 4
  go_upto_region 17 with fail
  have bb : Blk ((wA.setCell ⟨o, 3, none⟩ (.int .i64 2)).setCell ⟨o, 4, none⟩ (.int .i64 0)) o 101 (pcs rs c.n cs rt c.T ct (.slice none 0 0) left 2 0 pk2 gen2 place2 size2 0 (steps + 1) (steps + 1)) := ((((B9.out).set_ 3 (.int .i64 2))).set_ 4 (.int .i64 0))
  clear b0 b3 b4 z3 z4
  have ee : Ex (fun k => k = o) wA ((wA.setCell ⟨o, 3, none⟩ (.int .i64 2)).setCell ⟨o, 4, none⟩ (.int .i64 0)) := (((Ex.refl (fun k => k = o) wA).setCell (q := ⟨o, 3, none⟩) (.inl rfl) (.int .i64 2)).setCell (q := ⟨o, 4, none⟩) (.inl rfl) (.int .i64 0))
  have S10 := Lib.hid (S9.out.ex ee (by have o_ := ORD1.out; omega))
  have P10 := Lib.hid (P9.out.ex ee (by have o_ := ORD1.out; omega))
  have R10 := Lib.hid (R9.out.ex ee (fun k hk hT => by have hT : k = o := hT; have w_ := WAP.out k hk; have o_ := ORD1.out; omega))
  have K10 := Lib.hid (K9.out.ex ee (by have o_ := ORD1.out; omega) (by have o_ := ORD1.out; omega))
  have X10 := Lib.hid (X9.out.trans (ee.mono (fun k hk => show k = g ∨ k = h ∨ k = o ∨ k = rs ∨ k = rt ∨ k = q from by have hk : k = o := hk; omega)))
  have B10 := Lib.hid (bb)
  clear ee B9 S9 P9 R9 K9 X9 bb
  generalize ((wA.setCell ⟨o, 3, none⟩ (.int .i64 2)).setCell ⟨o, 4, none⟩ (.int .i64 0)) = wB at *
  have b0 := B10.out.cell 0
  have b8 := B10.out.cell 8
  simp only [pcs, List.getElem?_toArray, List.getElem?_cons_zero, List.getElem?_cons_succ] at b0 b8
  by_cases hz : size2 = 0
  · have kz : (size2 == 0) = true := by simpa using hz
    go_upto_region 18 with fail
    clear b0 b8 kz
    have b0 := B10.out.cell 0
    have b3 := B10.out.cell 3
    simp only [pcs, List.getElem?_toArray, List.getElem?_cons_zero, List.getElem?_cons_succ] at b0 b3
    have z3 := B10.out.frozen 3
    go_wp2_with fail
    have bb : Blk (wB.setCell ⟨o, 3, none⟩ (.int .i64 3)) o 101 (pcs rs c.n cs rt c.T ct (.slice none 0 0) left 3 0 pk2 gen2 place2 size2 0 (steps + 1) (steps + 1)) := ((B10.out).set_ 3 (.int .i64 3))
    clear b0 b3 z3
    have ee : Ex (fun k => k = o) wB (wB.setCell ⟨o, 3, none⟩ (.int .i64 3)) := ((Ex.refl (fun k => k = o) wB).setCell (q := ⟨o, 3, none⟩) (.inl rfl) (.int .i64 3))
    have S11 := Lib.hid (S10.out.ex ee (by have o_ := ORD1.out; omega))
    have P11 := Lib.hid (P10.out.ex ee (by have o_ := ORD1.out; omega))
    have R11 := Lib.hid (R10.out.ex ee (fun k hk hT => by have hT : k = o := hT; have w_ := WAP.out k hk; have o_ := ORD1.out; omega))
    have K11 := Lib.hid (K10.out.ex ee (by have o_ := ORD1.out; omega) (by have o_ := ORD1.out; omega))
    have X11 := Lib.hid (X10.out.trans (ee.mono (fun k hk => show k = g ∨ k = h ∨ k = o ∨ k = rs ∨ k = rt ∨ k = q from by have hk : k = o := hk; omega)))
    have B11 := Lib.hid (bb)
    clear ee B10 S10 P10 R10 K10 X10 bb
    generalize (wB.setCell ⟨o, 3, none⟩ (.int .i64 3)) = wC at *
    first | rw [goOn_ret] | skip
    go_ret
    exact ⟨rfl, K11.out, ⟨q, .slice none 0 0, by
      unfold firstP
      rw [HFO.out]
      simp only [if_pos hz]
      exact ⟨B11.out, S11.out, P11.out, R11.out, Nat.lt_of_lt_of_le QL.out X11.out.size, HA.out, fun k hk => by simp [Value.ownBlock] at hk⟩, .inl rfl⟩, X11.out⟩
  · have kz : (size2 == 0) = false := by simpa using hz
    go_wp2_with fail
    clear b0 b8 kz
    first | rw [goOn_ret] | skip
    go_ret
    exact ⟨rfl, K10.out, ⟨q, .slice none 0 0, by
      unfold firstP
      rw [HFO.out]
      simp only [if_neg hz]
      exact ⟨B10.out, S10.out, P10.out, R10.out, Nat.lt_of_lt_of_le QL.out X10.out.size, HA.out, fun k hk => by simp [Value.ownBlock] at hk⟩, .inl rfl⟩, X10.out⟩
end Go.Proofs.Ythcaagkgddeabaa.Bank
