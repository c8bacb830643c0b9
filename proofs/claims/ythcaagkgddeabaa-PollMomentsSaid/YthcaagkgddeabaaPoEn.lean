/-
  Law 12: a poll's step, walked: without a bank. Printed by wip/tools/mkpoe.py. Conditions stand at each. By an AI agent.
-/
import Derived.Test.YthcaagkgddeabaaPoE
namespace Go.Proofs.Ythcaagkgddeabaa.Bank
set_option linter.unusedVariables false
set_option linter.unusedSimpArgs false
open Go Go.RowKit Go.Proofs.Ythcaagkgddeabaa.Base Go.Deep Go.ChangeShapes Go.WideShapes Go.Proofs.Ythcaagkgddeabaa.Queue
set_option maxRecDepth 100000 in
set_option maxHeartbeats 8000000 in
theorem PS_nobank (o rs cs rt ct q : Nat) (vw : Value) (c : PC) (left pk gen place size steps begun : Int) (words gl : List Int) (cu : Nat → Cur) (j : Nat) (w : World)
    (ho : PAt w o rs cs rt ct q vw c ⟨left, 1, (j : Int), pk, gen, place, size, 0, steps, begun, words, gl, cu⟩) (hj : j < c.T) :
    Calls Try.prog 9 #[.pointer (some ⟨o, 0, none⟩), .pointer none] w fun e w' => e = .returned (.int .i64 3) ∧ PAt w' o rs cs rt ct q vw c ⟨left, 1, (j : Int), pk, gen, place, size, 3, steps, begun, words, gl, cu⟩ ∧ Ex (fun k => k = o) w w' := by
  have HJ := Lib.hid hj
  have WAP := Lib.hid ho.wap
  have QL := Lib.hid ho.qlt
  have HA := Lib.hid ho.apart
  have B0 : RowKit.Hid (Blk w o 101 (pcs rs c.n cs rt c.T ct vw left 1 (j : Int) pk gen place size 0 steps begun)) := Lib.hid ho.box
  have S0 : RowKit.Hid (SubsIn w rs c.n (c.sub cu)) := Lib.hid ho.subs
  have P0 : RowKit.Hid (TopsIn w rt c.T c.tp gl) := Lib.hid ho.tops
  have R0 : RowKit.Hid (OwnR w vw words) := Lib.hid ho.row
  have X0 := Lib.hid (Ex.refl (fun k => k = o) w)
  have ORD1 := Lib.hid (show rs ≠ o ∧ rt ≠ o ∧ rs ≠ rt from by have h1 := HA.out; omega)
  clear ho hj
  have b0 := B0.out.cell 0
  have b10 := B0.out.cell 10
  have b3 := B0.out.cell 3
  simp only [pcs, List.getElem?_toArray, List.getElem?_cons_zero, List.getElem?_cons_succ] at b0 b10 b3
  go_enter Try.func9, Try.ntmps9
  go_wp2_with fail
  refine wp_scope_ahead 2 (fun c0 HC => ?_)
  go_upto_region 9 with fail
  clear b0 b10 b3
  have hne : Nonempty (Held (Below w.heap.size w)) := ⟨⟨w, Below.refl _ _⟩⟩
  have p0 : ∀ y : Held (Below w.heap.size w), y.w.cell? ⟨o, 0, none⟩ = some (.slice (some ⟨rs, 0, none⟩) c.n cs) := fun y => (B0.out.bl y.ok).cell 0
  have p4 : ∀ y : Held (Below w.heap.size w), y.w.cell? ⟨o, 4, none⟩ = some (.int .i64 (j : Int)) := fun y => (B0.out.bl y.ok).cell 4
  have p1 : ∀ y : Held (Below w.heap.size w), y.w.cell? ⟨o, 1, none⟩ = some (.slice (some ⟨rt, 0, none⟩) c.T ct) := fun y => (B0.out.bl y.ok).cell 1
  have pt : ∀ y : Held (Below w.heap.size w), y.w.cell? ⟨rt, j * 7 + 2, none⟩ = some (.int .i64 (c.tp j).spot.seq) := fun y => (P0.out.bl y.ok).cells j HJ.out 2 (by decide)
  have zj0 : (0 : Int) ≤ (j : Int) := by omega
  have zj1 : (j : Int) < (c.T : Int) := by have := HJ.out; omega
  refine drawn_bars (S := (Below w.heap.size w)) [([0, 1, 2, 3, 4, 5, 6, 7, 8, 9, 10, 11, 12], 13)] [14, 15, 16, 17, 18] (by kernel_rfl) (by kernel_rfl) (by kernel_rfl) rfl (Below.refl _ _).drew ?_
  refine Phased.go ?_
  simp only [pick, List.map_cons, List.map_nil, List.getElem?_cons_zero, List.getElem?_cons_succ, Option.getD_some]
  repeat (go_big_quiet_step (fail))
  refine wpQuiet_nil ?_
  have XD := Lib.hid ((Below.refl w.heap.size w).drew)
  clear hne p0 p4 p1 pt zj0 zj1
  have ee : Ex (fun _ => False) w w.drew := (Ex.refl _ w).drew
  have B2 := Lib.hid (B0.out.ex ee (fun h => h))
  have S2 := Lib.hid (S0.out.ex ee (fun h => h))
  have P2 := Lib.hid (P0.out.ex ee (fun h => h))
  have R2 := Lib.hid (R0.out.ex ee (fun k hk hT => hT))
  have X2 := Lib.hid (X0.out.trans (ee.mono (fun k hk => hk.elim)))
  clear ee B0 S0 P0 R0 X0
  generalize w.drew = w1 at *
  go_wp2_with fail
  refine (Load_nil _ w1).mono ?_; rintro e w3 ⟨rfl, hb1⟩
  have XE := Lib.hid (bl XD.out hb1)
  have ee : Ex (fun _ => False) w1 w3 := Ex.of_below hb1
  have B3 := Lib.hid (B2.out.ex ee (fun h => h))
  have S3 := Lib.hid (S2.out.ex ee (fun h => h))
  have P3 := Lib.hid (P2.out.ex ee (fun h => h))
  have R3 := Lib.hid (R2.out.ex ee (fun k hk hT => hT))
  have X3 := Lib.hid (X2.out.trans (ee.mono (fun k hk => hk.elim)))
  clear ee B2 S2 P2 R2 X2 hb1
  go_wp2_with fail
  refine behind_normal ⟨(Below w.heap.size w), fun W h => h, XE.out, ?_⟩
  refine Phased.end_ ?_
  have hne4 : Nonempty (Held (fun W => W = w3)) := ⟨⟨_, rfl⟩⟩
  simp only [pick, List.map_cons, List.map_nil, List.getElem?_cons_zero, List.getElem?_cons_succ, Option.getD_some]
  repeat (go_big_quiet_step (fail))
  refine wpQuiet_nil ?_
  clear hne4
  go_wp2_with fail
  refine wp_goto ?_
  show goOn Try.prog c0 _ 2 (.goto 2) _ _
  refine goOn_jump HC rfl ?_
  have b0 := B3.out.cell 0
  have b10 := B3.out.cell 10
  simp only [pcs, List.getElem?_toArray, List.getElem?_cons_zero, List.getElem?_cons_succ] at b0 b10
  have z10 := B3.out.frozen 10
  go_wp2_with fail
  have bb : Blk (w3.setCell ⟨o, 10, none⟩ (.int .i64 3)) o 101 (pcs rs c.n cs rt c.T ct vw left 1 (j : Int) pk gen place size 3 steps begun) := ((B3.out).set_ 10 (.int .i64 3))
  clear b0 b10 z10
  have ee : Ex (fun k => k = o) w3 (w3.setCell ⟨o, 10, none⟩ (.int .i64 3)) := ((Ex.refl (fun k => k = o) w3).setCell (q := ⟨o, 10, none⟩) (.inl rfl) (.int .i64 3))
  have S4 := Lib.hid (S3.out.ex ee (by have o_ := ORD1.out; omega))
  have P4 := Lib.hid (P3.out.ex ee (by have o_ := ORD1.out; omega))
  have R4 := Lib.hid (R3.out.ex ee (fun k hk hT => by have hT : k = o := hT; have w_ := WAP.out k hk; have o_ := ORD1.out; omega))
  have X4 := Lib.hid (X3.out.trans (ee.mono (fun k hk => show k = o from by have hk : k = o := hk; omega)))
  have B4 := Lib.hid (bb)
  clear ee B3 S3 P3 R3 X3 bb
  generalize (w3.setCell ⟨o, 10, none⟩ (.int .i64 3)) = wz at *
  first | rw [goOn_ret] | skip
  go_ret
  exact ⟨rfl, ⟨B4.out, S4.out, P4.out, R4.out, Nat.lt_of_lt_of_le QL.out X4.out.size, HA.out, WAP.out⟩, X4.out⟩
end Go.Proofs.Ythcaagkgddeabaa.Bank
