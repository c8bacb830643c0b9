/-
  Law 12: a poll's step, walked: where the bank refuses. Printed by wip/tools/mkpoe.py. Conditions stand at each. By an AI agent.
-/
import Derived.Test.YthcaagkgddeabaaPoE
namespace Go.Proofs.Ythcaagkgddeabaa.Bank
set_option linter.unusedVariables false
set_option linter.unusedSimpArgs false
open Go Go.RowKit Go.Proofs.Ythcaagkgddeabaa.Base Go.Deep Go.ChangeShapes Go.WideShapes Go.Proofs.Ythcaagkgddeabaa.Queue
set_option maxRecDepth 100000 in
set_option maxHeartbeats 8000000 in
theorem PS_outA (g h o rs cs rt ct q : Nat) (vw : Value) (ws : List Int) (t : Int) (c : PC) (left pk gen place size steps begun : Int) (words gl : List Int) (cu : Nat → Cur) (j : Nat) (w : World) (hb : BankAt w g h ws t)
    (ho : PAt w o rs cs rt ct q vw c ⟨left, 1, (j : Int), pk, gen, place, size, 0, steps, begun, words, gl, cu⟩) (hi : PInv c ⟨left, 1, (j : Int), pk, gen, place, size, 0, steps, begun, words, gl, cu⟩)
    (ne : o ≠ g ∧ o ≠ h ∧ rs ≠ g ∧ rs ≠ h ∧ rt ≠ g ∧ rt ≠ h ∧ q ≠ g ∧ q ≠ h) (hj : j < c.T) (hin : ¬ inW ws (c.tp j).spot.seq) :
    Calls Try.prog 9 #[.pointer (some ⟨o, 0, none⟩), .pointer (some ⟨g, 0, none⟩)] w fun e w' => e = .returned (.int .i64 3) ∧ BankAt w' g h ws (tickF ws (c.tp j).spot.seq t) ∧ (∃ q' vw', PAt w' o rs cs rt ct q' vw' c ⟨left, 1, (j : Int), pk, gen, place, size, 3, steps, begun, words, gl, cu⟩ ∧ (q' = q ∨ w.heap.size ≤ q')) ∧ Ex (fun k => k = g ∨ k = h ∨ k = o ∨ k = rs ∨ k = rt ∨ k = q) w w' := by
  have HI := Lib.hid hi
  have HJ := Lib.hid hj
  have WAP := Lib.hid ho.wap
  have QL := Lib.hid ho.qlt
  have HA := Lib.hid ho.apart
  have HIN := Lib.hid hin
  have N64 := Lib.hid (show c.n ≤ 64 ∧ c.T ≤ 64 from ⟨hi.ok.n64, Nat.le_trans hi.ok.tn hi.ok.n64⟩)
  have GLEN := Lib.hid (show gl.length = c.T from hi.fit.glen)
  have HRG := Lib.hid (fun i => wordF_range hb i)
  have B0 : RowKit.Hid (Blk w o 101 (pcs rs c.n cs rt c.T ct vw left 1 (j : Int) pk gen place size 0 steps begun)) := Lib.hid ho.box
  have S0 : RowKit.Hid (SubsIn w rs c.n (c.sub cu)) := Lib.hid ho.subs
  have P0 : RowKit.Hid (TopsIn w rt c.T c.tp gl) := Lib.hid ho.tops
  have R0 : RowKit.Hid (OwnR w vw words) := Lib.hid ho.row
  have K0 := Lib.hid hb
  have X0 := Lib.hid (Ex.refl (fun k => k = g ∨ k = h ∨ k = o ∨ k = rs ∨ k = rt ∨ k = q) w)
  have NE := Lib.hid ne
  have ORD1 := Lib.hid (show rs ≠ o ∧ rt ≠ o ∧ rs ≠ rt ∧ o ≠ g ∧ o ≠ h ∧ rs ≠ g ∧ rs ≠ h ∧ rt ≠ g ∧ rt ≠ h ∧ q ≠ g ∧ q ≠ h from by have h1 := HA.out; have h2 := NE.out; omega)
  have HJ6 := Lib.hid (show j ≤ 64 by have := N64.out; omega)
  have HNUM := Lib.hid (pstep_nums (j := j) hi.st HJ6.out)
  clear ho hb hi ne hj hin 
  have b0 := B0.out.cell 0
  have b10 := B0.out.cell 10
  have b3 := B0.out.cell 3
  simp only [pcs, List.getElem?_toArray, List.getElem?_cons_zero, List.getElem?_cons_succ] at b0 b10 b3
  go_enter Try.func9, Try.ntmps9
  go_wp2_with fail
  refine wp_scope_ahead 2 (fun c0 HC => ?_)
  go_upto_region 9 with fail
  clear b0 b10 b3
  have hne : Nonempty (Held (Ex (fun k => k = g ∨ k = h) w)) := ⟨⟨w, Ex.refl _ _⟩⟩
  have p0 : ∀ y : Held (Ex (fun k => k = g ∨ k = h) w), y.w.cell? ⟨o, 0, none⟩ = some (.slice (some ⟨rs, 0, none⟩) c.n cs) := fun y => (B0.out.ex y.ok (by have o_ := ORD1.out; omega)).cell 0
  have p4 : ∀ y : Held (Ex (fun k => k = g ∨ k = h) w), y.w.cell? ⟨o, 4, none⟩ = some (.int .i64 (j : Int)) := fun y => (B0.out.ex y.ok (by have o_ := ORD1.out; omega)).cell 4
  have p1 : ∀ y : Held (Ex (fun k => k = g ∨ k = h) w), y.w.cell? ⟨o, 1, none⟩ = some (.slice (some ⟨rt, 0, none⟩) c.T ct) := fun y => (B0.out.ex y.ok (by have o_ := ORD1.out; omega)).cell 1
  have pt : ∀ y : Held (Ex (fun k => k = g ∨ k = h) w), y.w.cell? ⟨rt, j * 7 + 2, none⟩ = some (.int .i64 (c.tp j).spot.seq) := fun y => (P0.out.ex y.ok (by have o_ := ORD1.out; omega)).cells j HJ.out 2 (by decide)
  have zj0 : (0 : Int) ≤ (j : Int) := by omega
  have zj1 : (j : Int) < (c.T : Int) := by have := HJ.out; omega
  have XD := Lib.hid ((Ex.refl (fun k => k = g ∨ k = h) w).drew)
  refine drawn_bars (S := (Ex (fun k => k = g ∨ k = h) w)) [([0, 1, 2, 3, 4, 5, 6, 7, 8, 9, 10, 11, 12], 13)] [14, 15, 16, 17, 18] (by kernel_rfl) (by kernel_rfl) (by kernel_rfl) rfl (Ex.refl _ _).drew ?_
  refine Phased.go ?_
  simp only [pick, List.map_cons, List.map_nil, List.getElem?_cons_zero, List.getElem?_cons_succ, Option.getD_some]
  repeat (go_big_quiet_step (fail))
  refine wpQuiet_nil ?_
  clear hne p0 p4 p1 pt zj0 zj1
  have ee : Ex (fun _ => False) w w.drew := (Ex.refl _ w).drew
  have B2 := Lib.hid (B0.out.ex ee (fun h => h))
  have S2 := Lib.hid (S0.out.ex ee (fun h => h))
  have P2 := Lib.hid (P0.out.ex ee (fun h => h))
  have R2 := Lib.hid (R0.out.ex ee (fun k hk hT => hT))
  have K2 := Lib.hid (K0.out.ex ee (fun h => h) (fun h => h))
  have X2 := Lib.hid (X0.out.trans (ee.mono (fun k hk => hk.elim)))
  clear ee B0 S0 P0 R0 K0 X0
  generalize w.drew = w1 at *
  go_wp2_with fail
  refine (Load_any g h ws t (c.tp j).spot.seq w1 K2.out).mono ?_; rintro e w3 ⟨rfl, hb1, hx1⟩
  have XE := Lib.hid (XD.out.trans (Ex.of_ex2 (T := fun k => k = g ∨ k = h) hx1 (.inl rfl) (.inr rfl)))
  rw [errF_out HIN.out, wordF_out HIN.out]
  have ee : Ex (fun k => k = g ∨ k = h) w1 w3 := Ex.of_ex2 (T := fun k => k = g ∨ k = h) hx1 (.inl rfl) (.inr rfl)
  have B3 := Lib.hid (B2.out.ex ee (by have o_ := ORD1.out; omega))
  have S3 := Lib.hid (S2.out.ex ee (by have o_ := ORD1.out; omega))
  have P3 := Lib.hid (P2.out.ex ee (by have o_ := ORD1.out; omega))
  have R3 := Lib.hid (R2.out.ex ee (fun k hk hT => by have hT : k = g ∨ k = h := hT; have w_ := WAP.out k hk; have o_ := ORD1.out; omega))
  have X3 := Lib.hid (X2.out.trans (ee.mono (fun k hk => show k = g ∨ k = h ∨ k = o ∨ k = rs ∨ k = rt ∨ k = q from by have hk : k = g ∨ k = h := hk; omega)))
  have K3 := Lib.hid (hb1)
  clear ee B2 S2 P2 R2 K2 X2 hb1 hx1
  go_wp2_with fail
  refine behind_normal ⟨(Ex (fun k => k = g ∨ k = h) w), fun W h => h, XE.out, ?_⟩
  refine Phased.end_ ?_
  have hne4 : Nonempty (Held (fun W => W = w3)) := ⟨⟨_, rfl⟩⟩
  simp only [pick, List.map_cons, List.map_nil, List.getElem?_cons_zero, List.getElem?_cons_succ, Option.getD_some]
  repeat (go_big_quiet_step (fail))
  refine wpQuiet_nil ?_
  clear hne4
  go_wp2_with fail
  refine wp_goto ?_
  show goOn Try.prog c0 _ 2 (.goto 2) _ _
  refine goOn_jump HC rfl ?_
  have b0 := B3.out.cell 0
  have b10 := B3.out.cell 10
  simp only [pcs, List.getElem?_toArray, List.getElem?_cons_zero, List.getElem?_cons_succ] at b0 b10
  have z10 := B3.out.frozen 10
  go_wp2_with fail
  have bb : Blk (w3.setCell ⟨o, 10, none⟩ (.int .i64 3)) o 101 (pcs rs c.n cs rt c.T ct vw left 1 (j : Int) pk gen place size 3 steps begun) := ((B3.out).set_ 10 (.int .i64 3))
  clear b0 b10 z10
  have ee : Ex (fun k => k = o) w3 (w3.setCell ⟨o, 10, none⟩ (.int .i64 3)) := ((Ex.refl (fun k => k = o) w3).setCell (q := ⟨o, 10, none⟩) (.inl rfl) (.int .i64 3))
  have S4 := Lib.hid (S3.out.ex ee (by have o_ := ORD1.out; omega))
  have P4 := Lib.hid (P3.out.ex ee (by have o_ := ORD1.out; omega))
  have R4 := Lib.hid (R3.out.ex ee (fun k hk hT => by have hT : k = o := hT; have w_ := WAP.out k hk; have o_ := ORD1.out; omega))
  have K4 := Lib.hid (K3.out.ex ee (by have o_ := ORD1.out; omega) (by have o_ := ORD1.out; omega))
  have X4 := Lib.hid (X3.out.trans (ee.mono (fun k hk => show k = g ∨ k = h ∨ k = o ∨ k = rs ∨ k = rt ∨ k = q from by have hk : k = o := hk; omega)))
  have B4 := Lib.hid (bb)
  clear ee B3 S3 P3 R3 K3 X3 bb
  generalize (w3.setCell ⟨o, 10, none⟩ (.int .i64 3)) = wz at *
  first | rw [goOn_ret] | skip
  go_ret
  exact ⟨rfl, K4.out, ⟨q, vw, ⟨B4.out, S4.out, P4.out, R4.out, Nat.lt_of_lt_of_le QL.out X4.out.size, HA.out, WAP.out⟩, .inl rfl⟩, X4.out⟩
set_option maxRecDepth 100000 in
set_option maxHeartbeats 8000000 in
theorem PS_outB (g h o rs cs rt ct q : Nat) (vw : Value) (ws : List Int) (t : Int) (c : PC) (left pk gen place size steps begun : Int) (words gl : List Int) (cu : Nat → Cur) (j : Nat) (w : World) (hb : BankAt w g h ws t)
    (ho : PAt w o rs cs rt ct q vw c ⟨left, 2, (j : Int), pk, gen, place, size, 0, steps, begun, words, gl, cu⟩) (hi : PInv c ⟨left, 2, (j : Int), pk, gen, place, size, 0, steps, begun, words, gl, cu⟩)
    (ne : o ≠ g ∧ o ≠ h ∧ rs ≠ g ∧ rs ≠ h ∧ rt ≠ g ∧ rt ≠ h ∧ q ≠ g ∧ q ≠ h) (hj : (j : Int) < size) (hin : ¬ inW ws (place + (j : Int))) :
    Calls Try.prog 9 #[.pointer (some ⟨o, 0, none⟩), .pointer (some ⟨g, 0, none⟩)] w fun e w' => e = .returned (.int .i64 3) ∧ BankAt w' g h ws (tickF ws (place + (j : Int)) t) ∧ (∃ q' vw', PAt w' o rs cs rt ct q' vw' c ⟨left, 2, (j : Int), pk, gen, place, size, 3, steps, begun, words, gl, cu⟩ ∧ (q' = q ∨ w.heap.size ≤ q')) ∧ Ex (fun k => k = g ∨ k = h ∨ k = o ∨ k = rs ∨ k = rt ∨ k = q) w w' := by
  have HI := Lib.hid hi
  have HJ := Lib.hid hj
  have WAP := Lib.hid ho.wap
  have QL := Lib.hid ho.qlt
  have HA := Lib.hid ho.apart
  have HIN := Lib.hid hin
  have N64 := Lib.hid (show c.n ≤ 64 ∧ c.T ≤ 64 from ⟨hi.ok.n64, Nat.le_trans hi.ok.tn hi.ok.n64⟩)
  have GLEN := Lib.hid (show gl.length = c.T from hi.fit.glen)
  have HRG := Lib.hid (fun i => wordF_range hb i)
  have B0 : RowKit.Hid (Blk w o 101 (pcs rs c.n cs rt c.T ct vw left 2 (j : Int) pk gen place size 0 steps begun)) := Lib.hid ho.box
  have S0 : RowKit.Hid (SubsIn w rs c.n (c.sub cu)) := Lib.hid ho.subs
  have P0 : RowKit.Hid (TopsIn w rt c.T c.tp gl) := Lib.hid ho.tops
  have R0 : RowKit.Hid (OwnR w vw words) := Lib.hid ho.row
  have K0 := Lib.hid hb
  have X0 := Lib.hid (Ex.refl (fun k => k = g ∨ k = h ∨ k = o ∨ k = rs ∨ k = rt ∨ k = q) w)
  have NE := Lib.hid ne
  have ORD1 := Lib.hid (show rs ≠ o ∧ rt ≠ o ∧ rs ≠ rt ∧ o ≠ g ∧ o ≠ h ∧ rs ≠ g ∧ rs ≠ h ∧ rt ≠ g ∧ rt ≠ h ∧ q ≠ g ∧ q ≠ h from by have h1 := HA.out; have h2 := NE.out; omega)
  have HPL := Lib.hid (show (0 ≤ place ∧ place ≤ 1100000) ∧ size ≤ 64 ∧ words.length = j ∧ (j : Int) < size from by have h := hi.way rfl; simp only at h; omega)
  have HJ6 := Lib.hid (show j ≤ 64 by have := HPL.out; omega)
  have HNUM := Lib.hid (pstep_nums (j := j) hi.st HJ6.out)
  clear ho hb hi ne hj hin 
  have b0 := B0.out.cell 0
  have b10 := B0.out.cell 10
  have b3 := B0.out.cell 3
  simp only [pcs, List.getElem?_toArray, List.getElem?_cons_zero, List.getElem?_cons_succ] at b0 b10 b3
  go_enter Try.func9, Try.ntmps9
  go_wp2_with fail
  refine wp_scope_ahead 2 (fun c0 HC => ?_)
  go_wp2_with fail
  try simp only [Exit.inBlock, Exit.then]
  refine wp_goto ?_
  show goOn Try.prog c0 _ 2 (.goto 0) _ _
  refine goOn_jump HC rfl ?_
  go_upto_region 20 with fail
  clear b0 b10 b3
  have hne : Nonempty (Held (Ex (fun k => k = g ∨ k = h) w)) := ⟨⟨w, Ex.refl _ _⟩⟩
  have p0 : ∀ y : Held (Ex (fun k => k = g ∨ k = h) w), y.w.cell? ⟨o, 0, none⟩ = some (.slice (some ⟨rs, 0, none⟩) c.n cs) := fun y => (B0.out.ex y.ok (by have o_ := ORD1.out; omega)).cell 0
  have p4 : ∀ y : Held (Ex (fun k => k = g ∨ k = h) w), y.w.cell? ⟨o, 4, none⟩ = some (.int .i64 (j : Int)) := fun y => (B0.out.ex y.ok (by have o_ := ORD1.out; omega)).cell 4
  have p7 : ∀ y : Held (Ex (fun k => k = g ∨ k = h) w), y.w.cell? ⟨o, 7, none⟩ = some (.int .i64 place) := fun y => (B0.out.ex y.ok (by have o_ := ORD1.out; omega)).cell 7
  have XD := Lib.hid ((Ex.refl (fun k => k = g ∨ k = h) w).drew)
  refine drawn_bars (S := (Ex (fun k => k = g ∨ k = h) w)) [([0, 1, 2, 3, 4, 5, 6, 7, 8, 9], 10)] [11, 12, 13, 14, 15] (by kernel_rfl) (by kernel_rfl) (by kernel_rfl) rfl (Ex.refl _ _).drew ?_
  refine Phased.go ?_
  simp only [pick, List.map_cons, List.map_nil, List.getElem?_cons_zero, List.getElem?_cons_succ, Option.getD_some]
  repeat (go_big_quiet_step (fail))
  refine wpQuiet_nil ?_
  clear hne p0 p4 p7
  have ee : Ex (fun _ => False) w w.drew := (Ex.refl _ w).drew
  have B2 := Lib.hid (B0.out.ex ee (fun h => h))
  have S2 := Lib.hid (S0.out.ex ee (fun h => h))
  have P2 := Lib.hid (P0.out.ex ee (fun h => h))
  have R2 := Lib.hid (R0.out.ex ee (fun k hk hT => hT))
  have K2 := Lib.hid (K0.out.ex ee (fun h => h) (fun h => h))
  have X2 := Lib.hid (X0.out.trans (ee.mono (fun k hk => hk.elim)))
  clear ee B0 S0 P0 R0 K0 X0
  generalize w.drew = w1 at *
  go_wp2_with fail
  rw [place_nums (j := j) HPL.out.1 HJ6.out]
  refine (Load_any g h ws t (place + (j : Int)) w1 K2.out).mono ?_; rintro e w3 ⟨rfl, hb1, hx1⟩
  have XE := Lib.hid (XD.out.trans (Ex.of_ex2 (T := fun k => k = g ∨ k = h) hx1 (.inl rfl) (.inr rfl)))
  rw [errF_out HIN.out, wordF_out HIN.out]
  have ee : Ex (fun k => k = g ∨ k = h) w1 w3 := Ex.of_ex2 (T := fun k => k = g ∨ k = h) hx1 (.inl rfl) (.inr rfl)
  have B3 := Lib.hid (B2.out.ex ee (by have o_ := ORD1.out; omega))
  have S3 := Lib.hid (S2.out.ex ee (by have o_ := ORD1.out; omega))
  have P3 := Lib.hid (P2.out.ex ee (by have o_ := ORD1.out; omega))
  have R3 := Lib.hid (R2.out.ex ee (fun k hk hT => by have hT : k = g ∨ k = h := hT; have w_ := WAP.out k hk; have o_ := ORD1.out; omega))
  have X3 := Lib.hid (X2.out.trans (ee.mono (fun k hk => show k = g ∨ k = h ∨ k = o ∨ k = rs ∨ k = rt ∨ k = q from by have hk : k = g ∨ k = h := hk; omega)))
  have K3 := Lib.hid (hb1)
  clear ee B2 S2 P2 R2 K2 X2 hb1 hx1
  go_wp2_with fail
  refine behind_normal ⟨(Ex (fun k => k = g ∨ k = h) w), fun W h => h, XE.out, ?_⟩
  refine Phased.end_ ?_
  have hne4 : Nonempty (Held (fun W => W = w3)) := ⟨⟨_, rfl⟩⟩
  simp only [pick, List.map_cons, List.map_nil, List.getElem?_cons_zero, List.getElem?_cons_succ, Option.getD_some]
  repeat (go_big_quiet_step (fail))
  refine wpQuiet_nil ?_
  clear hne4
  go_wp2_with fail
  refine wp_goto ?_
  show goOn Try.prog c0 _ 1 (.goto 2) _ _
  refine goOn_jump HC rfl ?_
  have b0 := B3.out.cell 0
  have b10 := B3.out.cell 10
  simp only [pcs, List.getElem?_toArray, List.getElem?_cons_zero, List.getElem?_cons_succ] at b0 b10
  have z10 := B3.out.frozen 10
  go_wp2_with fail
  have bb : Blk (w3.setCell ⟨o, 10, none⟩ (.int .i64 3)) o 101 (pcs rs c.n cs rt c.T ct vw left 2 (j : Int) pk gen place size 3 steps begun) := ((B3.out).set_ 10 (.int .i64 3))
  clear b0 b10 z10
  have ee : Ex (fun k => k = o) w3 (w3.setCell ⟨o, 10, none⟩ (.int .i64 3)) := ((Ex.refl (fun k => k = o) w3).setCell (q := ⟨o, 10, none⟩) (.inl rfl) (.int .i64 3))
  have S4 := Lib.hid (S3.out.ex ee (by have o_ := ORD1.out; omega))
  have P4 := Lib.hid (P3.out.ex ee (by have o_ := ORD1.out; omega))
  have R4 := Lib.hid (R3.out.ex ee (fun k hk hT => by have hT : k = o := hT; have w_ := WAP.out k hk; have o_ := ORD1.out; omega))
  have K4 := Lib.hid (K3.out.ex ee (by have o_ := ORD1.out; omega) (by have o_ := ORD1.out; omega))
  have X4 := Lib.hid (X3.out.trans (ee.mono (fun k hk => show k = g ∨ k = h ∨ k = o ∨ k = rs ∨ k = rt ∨ k = q from by have hk : k = o := hk; omega)))
  have B4 := Lib.hid (bb)
  clear ee B3 S3 P3 R3 K3 X3 bb
  generalize (w3.setCell ⟨o, 10, none⟩ (.int .i64 3)) = wz at *
  first | rw [goOn_ret] | skip
  go_ret
  exact ⟨rfl, K4.out, ⟨q, vw, ⟨B4.out, S4.out, P4.out, R4.out, Nat.lt_of_lt_of_le QL.out X4.out.size, HA.out, WAP.out⟩, .inl rfl⟩, X4.out⟩
set_option maxRecDepth 100000 in
set_option maxHeartbeats 8000000 in
theorem PS_outC (g h o rs cs rt ct q : Nat) (vw : Value) (ws : List Int) (t : Int) (c : PC) (left pk gen place size steps begun : Int) (words gl : List Int) (cu : Nat → Cur) (j : Nat) (w : World) (hb : BankAt w g h ws t)
    (ho : PAt w o rs cs rt ct q vw c ⟨left, 3, (j : Int), pk, gen, place, size, 0, steps, begun, words, gl, cu⟩) (hi : PInv c ⟨left, 3, (j : Int), pk, gen, place, size, 0, steps, begun, words, gl, cu⟩)
    (ne : o ≠ g ∧ o ≠ h ∧ rs ≠ g ∧ rs ≠ h ∧ rt ≠ g ∧ rt ≠ h ∧ q ≠ g ∧ q ≠ h) (hj : j < c.T) (hin : ¬ inW ws (c.tp j).spot.seq) :
    Calls Try.prog 9 #[.pointer (some ⟨o, 0, none⟩), .pointer (some ⟨g, 0, none⟩)] w fun e w' => e = .returned (.int .i64 3) ∧ BankAt w' g h ws (tickF ws (c.tp j).spot.seq t) ∧ (∃ q' vw', PAt w' o rs cs rt ct q' vw' c ⟨left, 3, (j : Int), pk, gen, place, size, 3, steps, begun, words, gl, cu⟩ ∧ (q' = q ∨ w.heap.size ≤ q')) ∧ Ex (fun k => k = g ∨ k = h ∨ k = o ∨ k = rs ∨ k = rt ∨ k = q) w w' := by
  have HI := Lib.hid hi
  have HJ := Lib.hid hj
  have WAP := Lib.hid ho.wap
  have QL := Lib.hid ho.qlt
  have HA := Lib.hid ho.apart
  have HIN := Lib.hid hin
  have N64 := Lib.hid (show c.n ≤ 64 ∧ c.T ≤ 64 from ⟨hi.ok.n64, Nat.le_trans hi.ok.tn hi.ok.n64⟩)
  have GLEN := Lib.hid (show gl.length = c.T from hi.fit.glen)
  have HRG := Lib.hid (fun i => wordF_range hb i)
  have B0 : RowKit.Hid (Blk w o 101 (pcs rs c.n cs rt c.T ct vw left 3 (j : Int) pk gen place size 0 steps begun)) := Lib.hid ho.box
  have S0 : RowKit.Hid (SubsIn w rs c.n (c.sub cu)) := Lib.hid ho.subs
  have P0 : RowKit.Hid (TopsIn w rt c.T c.tp gl) := Lib.hid ho.tops
  have R0 : RowKit.Hid (OwnR w vw words) := Lib.hid ho.row
  have K0 := Lib.hid hb
  have X0 := Lib.hid (Ex.refl (fun k => k = g ∨ k = h ∨ k = o ∨ k = rs ∨ k = rt ∨ k = q) w)
  have NE := Lib.hid ne
  have ORD1 := Lib.hid (show rs ≠ o ∧ rt ≠ o ∧ rs ≠ rt ∧ o ≠ g ∧ o ≠ h ∧ rs ≠ g ∧ rs ≠ h ∧ rt ≠ g ∧ rt ≠ h ∧ q ≠ g ∧ q ≠ h from by have h1 := HA.out; have h2 := NE.out; omega)
  have HJ6 := Lib.hid (show j ≤ 64 by have := N64.out; omega)
  have HNUM := Lib.hid (pstep_nums (j := j) hi.st HJ6.out)
  clear ho hb hi ne hj hin 
  have b0 := B0.out.cell 0
  have b10 := B0.out.cell 10
  have b3 := B0.out.cell 3
  simp only [pcs, List.getElem?_toArray, List.getElem?_cons_zero, List.getElem?_cons_succ] at b0 b10 b3
  go_enter Try.func9, Try.ntmps9
  go_wp2_with fail
  refine wp_scope_ahead 2 (fun c0 HC => ?_)
  go_wp2_with fail
  try simp only [Exit.inBlock, Exit.then]
  refine wp_goto ?_
  show goOn Try.prog c0 _ 2 (.goto 1) _ _
  refine goOn_jump HC rfl ?_
  go_upto_region 28 with fail
  clear b0 b10 b3
  have hne : Nonempty (Held (Ex (fun k => k = g ∨ k = h) w)) := ⟨⟨w, Ex.refl _ _⟩⟩
  have p0 : ∀ y : Held (Ex (fun k => k = g ∨ k = h) w), y.w.cell? ⟨o, 0, none⟩ = some (.slice (some ⟨rs, 0, none⟩) c.n cs) := fun y => (B0.out.ex y.ok (by have o_ := ORD1.out; omega)).cell 0
  have p4 : ∀ y : Held (Ex (fun k => k = g ∨ k = h) w), y.w.cell? ⟨o, 4, none⟩ = some (.int .i64 (j : Int)) := fun y => (B0.out.ex y.ok (by have o_ := ORD1.out; omega)).cell 4
  have p1 : ∀ y : Held (Ex (fun k => k = g ∨ k = h) w), y.w.cell? ⟨o, 1, none⟩ = some (.slice (some ⟨rt, 0, none⟩) c.T ct) := fun y => (B0.out.ex y.ok (by have o_ := ORD1.out; omega)).cell 1
  have pt : ∀ y : Held (Ex (fun k => k = g ∨ k = h) w), y.w.cell? ⟨rt, j * 7 + 2, none⟩ = some (.int .i64 (c.tp j).spot.seq) := fun y => (P0.out.ex y.ok (by have o_ := ORD1.out; omega)).cells j HJ.out 2 (by decide)
  have zj0 : (0 : Int) ≤ (j : Int) := by omega
  have zj1 : (j : Int) < (c.T : Int) := by have := HJ.out; omega
  have XD := Lib.hid ((Ex.refl (fun k => k = g ∨ k = h) w).drew)
  refine drawn_bars (S := (Ex (fun k => k = g ∨ k = h) w)) [([0, 1, 2, 3, 4, 5, 6, 7, 8, 9, 10, 11, 12], 13)] [14, 15, 16, 17, 18] (by kernel_rfl) (by kernel_rfl) (by kernel_rfl) rfl (Ex.refl _ _).drew ?_
  refine Phased.go ?_
  simp only [pick, List.map_cons, List.map_nil, List.getElem?_cons_zero, List.getElem?_cons_succ, Option.getD_some]
  repeat (go_big_quiet_step (fail))
  refine wpQuiet_nil ?_
  clear hne p0 p4 p1 pt zj0 zj1
  have ee : Ex (fun _ => False) w w.drew := (Ex.refl _ w).drew
  have B2 := Lib.hid (B0.out.ex ee (fun h => h))
  have S2 := Lib.hid (S0.out.ex ee (fun h => h))
  have P2 := Lib.hid (P0.out.ex ee (fun h => h))
  have R2 := Lib.hid (R0.out.ex ee (fun k hk hT => hT))
  have K2 := Lib.hid (K0.out.ex ee (fun h => h) (fun h => h))
  have X2 := Lib.hid (X0.out.trans (ee.mono (fun k hk => hk.elim)))
  clear ee B0 S0 P0 R0 K0 X0
  generalize w.drew = w1 at *
  go_wp2_with fail
  refine (Load_any g h ws t (c.tp j).spot.seq w1 K2.out).mono ?_; rintro e w3 ⟨rfl, hb1, hx1⟩
  have XE := Lib.hid (XD.out.trans (Ex.of_ex2 (T := fun k => k = g ∨ k = h) hx1 (.inl rfl) (.inr rfl)))
  rw [errF_out HIN.out, wordF_out HIN.out]
  have ee : Ex (fun k => k = g ∨ k = h) w1 w3 := Ex.of_ex2 (T := fun k => k = g ∨ k = h) hx1 (.inl rfl) (.inr rfl)
  have B3 := Lib.hid (B2.out.ex ee (by have o_ := ORD1.out; omega))
  have S3 := Lib.hid (S2.out.ex ee (by have o_ := ORD1.out; omega))
  have P3 := Lib.hid (P2.out.ex ee (by have o_ := ORD1.out; omega))
  have R3 := Lib.hid (R2.out.ex ee (fun k hk hT => by have hT : k = g ∨ k = h := hT; have w_ := WAP.out k hk; have o_ := ORD1.out; omega))
  have X3 := Lib.hid (X2.out.trans (ee.mono (fun k hk => show k = g ∨ k = h ∨ k = o ∨ k = rs ∨ k = rt ∨ k = q from by have hk : k = g ∨ k = h := hk; omega)))
  have K3 := Lib.hid (hb1)
  clear ee B2 S2 P2 R2 K2 X2 hb1 hx1
  go_wp2_with fail
  refine behind_normal ⟨(Ex (fun k => k = g ∨ k = h) w), fun W h => h, XE.out, ?_⟩
  refine Phased.end_ ?_
  have hne4 : Nonempty (Held (fun W => W = w3)) := ⟨⟨_, rfl⟩⟩
  simp only [pick, List.map_cons, List.map_nil, List.getElem?_cons_zero, List.getElem?_cons_succ, Option.getD_some]
  repeat (go_big_quiet_step (fail))
  refine wpQuiet_nil ?_
  clear hne4
  go_wp2_with fail
  refine wp_goto ?_
  show goOn Try.prog c0 _ 1 (.goto 2) _ _
  refine goOn_jump HC rfl ?_
  have b0 := B3.out.cell 0
  have b10 := B3.out.cell 10
  simp only [pcs, List.getElem?_toArray, List.getElem?_cons_zero, List.getElem?_cons_succ] at b0 b10
  have z10 := B3.out.frozen 10
  go_wp2_with fail
  have bb : Blk (w3.setCell ⟨o, 10, none⟩ (.int .i64 3)) o 101 (pcs rs c.n cs rt c.T ct vw left 3 (j : Int) pk gen place size 3 steps begun) := ((B3.out).set_ 10 (.int .i64 3))
  clear b0 b10 z10
  have ee : Ex (fun k => k = o) w3 (w3.setCell ⟨o, 10, none⟩ (.int .i64 3)) := ((Ex.refl (fun k => k = o) w3).setCell (q := ⟨o, 10, none⟩) (.inl rfl) (.int .i64 3))
  have S4 := Lib.hid (S3.out.ex ee (by have o_ := ORD1.out; omega))
  have P4 := Lib.hid (P3.out.ex ee (by have o_ := ORD1.out; omega))
  have R4 := Lib.hid (R3.out.ex ee (fun k hk hT => by have hT : k = o := hT; have w_ := WAP.out k hk; have o_ := ORD1.out; omega))
  have K4 := Lib.hid (K3.out.ex ee (by have o_ := ORD1.out; omega) (by have o_ := ORD1.out; omega))
  have X4 := Lib.hid (X3.out.trans (ee.mono (fun k hk => show k = g ∨ k = h ∨ k = o ∨ k = rs ∨ k = rt ∨ k = q from by have hk : k = o := hk; omega)))
  have B4 := Lib.hid (bb)
  clear ee B3 S3 P3 R3 K3 X3 bb
  generalize (w3.setCell ⟨o, 10, none⟩ (.int .i64 3)) = wz at *
  first | rw [goOn_ret] | skip
  go_ret
  exact ⟨rfl, K4.out, ⟨q, vw, ⟨B4.out, S4.out, P4.out, R4.out, Nat.lt_of_lt_of_le QL.out X4.out.size, HA.out, WAP.out⟩, .inl rfl⟩, X4.out⟩
end Go.Proofs.Ythcaagkgddeabaa.Bank
