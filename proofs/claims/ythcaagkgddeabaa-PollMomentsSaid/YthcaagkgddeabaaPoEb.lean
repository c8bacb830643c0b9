/-
  Law 12: a poll's step, walked: the words. Printed by wip/tools/mkpoe.py. Conditions stand at each. By an AI agent.
-/
import Derived.Test.YthcaagkgddeabaaPoE
namespace Go.Proofs.Ythcaagkgddeabaa.Bank
set_option linter.unusedVariables false
set_option linter.unusedSimpArgs false
open Go Go.RowKit Go.Proofs.Ythcaagkgddeabaa.Base Go.Deep Go.ChangeShapes Go.WideShapes Go.Proofs.Ythcaagkgddeabaa.Queue
set_option maxRecDepth 100000 in
set_option maxHeartbeats 8000000 in
theorem PS_B (g h o rs cs rt ct q : Nat) (vw : Value) (ws : List Int) (t : Int) (c : PC) (left pk gen place size steps begun : Int) (words gl : List Int) (cu : Nat → Cur) (j : Nat) (w : World) (hb : BankAt w g h ws t)
    (ho : PAt w o rs cs rt ct q vw c ⟨left, 2, (j : Int), pk, gen, place, size, 0, steps, begun, words, gl, cu⟩) (hi : PInv c ⟨left, 2, (j : Int), pk, gen, place, size, 0, steps, begun, words, gl, cu⟩)
    (ne : o ≠ g ∧ o ≠ h ∧ rs ≠ g ∧ rs ≠ h ∧ rt ≠ g ∧ rt ≠ h ∧ q ≠ g ∧ q ≠ h) (hj : (j : Int) < size) (hin : inW ws (place + (j : Int))) (hv : (j : Int) + 1 ≠ size) :
    Calls Try.prog 9 #[.pointer (some ⟨o, 0, none⟩), .pointer (some ⟨g, 0, none⟩)] w fun e w' => e = .returned (.int .i64 0) ∧ BankAt w' g h ws (tickF ws (place + (j : Int)) t) ∧ (∃ q' vw', PAt w' o rs cs rt ct q' vw' c ⟨left, 2, (j : Int) + 1, pk, gen, place, size, 0, steps + 1, begun, (words ++ [wordF ws (place + (j : Int))]), gl, cu⟩ ∧ (q' = q ∨ w.heap.size ≤ q')) ∧ Ex (fun k => k = g ∨ k = h ∨ k = o ∨ k = rs ∨ k = rt ∨ k = q) w w' := by
  have hlen : words.length = j := by have h := hi.way rfl; simp only at h; omega
  obtain ⟨va, vc, hvw⟩ := (show OwnR w vw words from ho.row).form
  rw [hlen] at hvw
  subst hvw
  clear hlen
  have HI := Lib.hid hi
  have HJ := Lib.hid hj
  have WAP := Lib.hid ho.wap
  have QL := Lib.hid ho.qlt
  have HA := Lib.hid ho.apart
  have HIN := Lib.hid hin
  have N64 := Lib.hid (show c.n ≤ 64 ∧ c.T ≤ 64 from ⟨hi.ok.n64, Nat.le_trans hi.ok.tn hi.ok.n64⟩)
  have GLEN := Lib.hid (show gl.length = c.T from hi.fit.glen)
  have HRG := Lib.hid (fun i => wordF_range hb i)
  have B0 : RowKit.Hid (Blk w o 101 (pcs rs c.n cs rt c.T ct (.slice va j vc) left 2 (j : Int) pk gen place size 0 steps begun)) := Lib.hid ho.box
  have S0 : RowKit.Hid (SubsIn w rs c.n (c.sub cu)) := Lib.hid ho.subs
  have P0 : RowKit.Hid (TopsIn w rt c.T c.tp gl) := Lib.hid ho.tops
  have R0 : RowKit.Hid (OwnR w (.slice va j vc) words) := Lib.hid ho.row
  have K0 := Lib.hid hb
  have X0 := Lib.hid (Ex.refl (fun k => k = g ∨ k = h ∨ k = o ∨ k = rs ∨ k = rt ∨ k = q) w)
  have NE := Lib.hid ne
  have HV := Lib.hid hv
  have ORD1 := Lib.hid (show rs ≠ o ∧ rt ≠ o ∧ rs ≠ rt ∧ o ≠ g ∧ o ≠ h ∧ rs ≠ g ∧ rs ≠ h ∧ rt ≠ g ∧ rt ≠ h ∧ q ≠ g ∧ q ≠ h from by have h1 := HA.out; have h2 := NE.out; omega)
  have HPL := Lib.hid (show (0 ≤ place ∧ place ≤ 1100000) ∧ size ≤ 64 ∧ words.length = j ∧ (j : Int) < size from by have h := hi.way rfl; simp only at h; omega)
  have HJ6 := Lib.hid (show j ≤ 64 by have := HPL.out; omega)
  have HNUM := Lib.hid (pstep_nums (j := j) hi.st HJ6.out)
  clear ho hb hi ne hj hin hv
  have b0 := B0.out.cell 0
  have b10 := B0.out.cell 10
  have b3 := B0.out.cell 3
  simp only [pcs, List.getElem?_toArray, List.getElem?_cons_zero, List.getElem?_cons_succ] at b0 b10 b3
  go_enter Try.func9, Try.ntmps9
  go_wp2_with fail
  refine wp_scope_ahead 2 (fun c0 HC => ?_)
  go_wp2_with fail
  try simp only [Exit.inBlock, Exit.then]
  refine wp_goto ?_
  show goOn Try.prog c0 _ 2 (.goto 0) _ _
  refine goOn_jump HC rfl ?_
  go_upto_region 20 with fail
  clear b0 b10 b3
  have hne : Nonempty (Held (Ex (fun k => k = g ∨ k = h) w)) := ⟨⟨w, Ex.refl _ _⟩⟩
  have p0 : ∀ y : Held (Ex (fun k => k = g ∨ k = h) w), y.w.cell? ⟨o, 0, none⟩ = some (.slice (some ⟨rs, 0, none⟩) c.n cs) := fun y => (B0.out.ex y.ok (by have o_ := ORD1.out; omega)).cell 0
  have p4 : ∀ y : Held (Ex (fun k => k = g ∨ k = h) w), y.w.cell? ⟨o, 4, none⟩ = some (.int .i64 (j : Int)) := fun y => (B0.out.ex y.ok (by have o_ := ORD1.out; omega)).cell 4
  have p7 : ∀ y : Held (Ex (fun k => k = g ∨ k = h) w), y.w.cell? ⟨o, 7, none⟩ = some (.int .i64 place) := fun y => (B0.out.ex y.ok (by have o_ := ORD1.out; omega)).cell 7
  have XD := Lib.hid ((Ex.refl (fun k => k = g ∨ k = h) w).drew)
  refine drawn_bars (S := (Ex (fun k => k = g ∨ k = h) w)) [([0, 1, 2, 3, 4, 5, 6, 7, 8, 9], 10)] [11, 12, 13, 14, 15] (by kernel_rfl) (by kernel_rfl) (by kernel_rfl) rfl (Ex.refl _ _).drew ?_
  refine Phased.go ?_
  simp only [pick, List.map_cons, List.map_nil, List.getElem?_cons_zero, List.getElem?_cons_succ, Option.getD_some]
  repeat (go_big_quiet_step (fail))
  refine wpQuiet_nil ?_
  clear hne p0 p4 p7
  have ee : Ex (fun _ => False) w w.drew := (Ex.refl _ w).drew
  have B2 := Lib.hid (B0.out.ex ee (fun h => h))
  have S2 := Lib.hid (S0.out.ex ee (fun h => h))
  have P2 := Lib.hid (P0.out.ex ee (fun h => h))
  have R2 := Lib.hid (R0.out.ex ee (fun k hk hT => hT))
  have K2 := Lib.hid (K0.out.ex ee (fun h => h) (fun h => h))
  have X2 := Lib.hid (X0.out.trans (ee.mono (fun k hk => hk.elim)))
  clear ee B0 S0 P0 R0 K0 X0
  generalize w.drew = w1 at *
  go_wp2_with fail
  rw [place_nums (j := j) HPL.out.1 HJ6.out]
  refine (Load_any g h ws t (place + (j : Int)) w1 K2.out).mono ?_; rintro e w3 ⟨rfl, hb1, hx1⟩
  have XE := Lib.hid (XD.out.trans (Ex.of_ex2 (T := fun k => k = g ∨ k = h) hx1 (.inl rfl) (.inr rfl)))
  rw [errF_in HIN.out]
  have ee : Ex (fun k => k = g ∨ k = h) w1 w3 := Ex.of_ex2 (T := fun k => k = g ∨ k = h) hx1 (.inl rfl) (.inr rfl)
  have B3 := Lib.hid (B2.out.ex ee (by have o_ := ORD1.out; omega))
  have S3 := Lib.hid (S2.out.ex ee (by have o_ := ORD1.out; omega))
  have P3 := Lib.hid (P2.out.ex ee (by have o_ := ORD1.out; omega))
  have R3 := Lib.hid (R2.out.ex ee (fun k hk hT => by have hT : k = g ∨ k = h := hT; have w_ := WAP.out k hk; have o_ := ORD1.out; omega))
  have X3 := Lib.hid (X2.out.trans (ee.mono (fun k hk => show k = g ∨ k = h ∨ k = o ∨ k = rs ∨ k = rt ∨ k = q from by have hk : k = g ∨ k = h := hk; omega)))
  have K3 := Lib.hid (hb1)
  clear ee B2 S2 P2 R2 K2 X2 hb1 hx1
  obtain ⟨v, hvv⟩ : ∃ v, wordF ws (place + (j : Int)) = v := ⟨_, rfl⟩
  have HVV := Lib.hid hvv
  have HR := Lib.hid (show 0 ≤ v ∧ v ≤ 18446744073709551615 by rw [← hvv]; exact HRG.out _)
  rw [hvv]
  clear hvv
  go_wp2_with fail
  refine behind_normal ⟨(Ex (fun k => k = g ∨ k = h) w), fun W h => h, XE.out, ?_⟩
  refine Phased.end_ ?_
  have hne4 : Nonempty (Held (fun W => W = w3)) := ⟨⟨_, rfl⟩⟩
  simp only [pick, List.map_cons, List.map_nil, List.getElem?_cons_zero, List.getElem?_cons_succ, Option.getD_some]
  repeat (go_big_quiet_step (fail))
  refine wpQuiet_nil ?_
  clear hne4
  have hw1 := HNUM.out.1
  have b0 := B3.out.cell 0
  have b11 := B3.out.cell 11
  simp only [pcs, List.getElem?_toArray, List.getElem?_cons_zero, List.getElem?_cons_succ] at b0 b11
  have z11 := B3.out.frozen 11
  go_upto_region 23 with fail
  have bb : Blk (w3.setCell ⟨o, 11, none⟩ (.int .i64 (steps + 1))) o 101 (pcs rs c.n cs rt c.T ct (.slice va j vc) left 2 (j : Int) pk gen place size 0 (steps + 1) begun) := ((B3.out).set_ 11 (.int .i64 (steps + 1)))
  clear hw1 b0 b11 z11
  have ee : Ex (fun k => k = o) w3 (w3.setCell ⟨o, 11, none⟩ (.int .i64 (steps + 1))) := ((Ex.refl (fun k => k = o) w3).setCell (q := ⟨o, 11, none⟩) (.inl rfl) (.int .i64 (steps + 1)))
  have S4 := Lib.hid (S3.out.ex ee (by have o_ := ORD1.out; omega))
  have P4 := Lib.hid (P3.out.ex ee (by have o_ := ORD1.out; omega))
  have R4 := Lib.hid (R3.out.ex ee (fun k hk hT => by have hT : k = o := hT; have w_ := WAP.out k hk; have o_ := ORD1.out; omega))
  have K4 := Lib.hid (K3.out.ex ee (by have o_ := ORD1.out; omega) (by have o_ := ORD1.out; omega))
  have X4 := Lib.hid (X3.out.trans (ee.mono (fun k hk => show k = g ∨ k = h ∨ k = o ∨ k = rs ∨ k = rt ∨ k = q from by have hk : k = o := hk; omega)))
  have B4 := Lib.hid (bb)
  clear ee B3 S3 P3 R3 K3 X3 bb
  generalize (w3.setCell ⟨o, 11, none⟩ (.int .i64 (steps + 1))) = w4 at *
  have b0 := B4.out.cell 0
  have b9 := B4.out.cell 9
  simp only [pcs, List.getElem?_toArray, List.getElem?_cons_zero, List.getElem?_cons_succ] at b0 b9
  have z9 := B4.out.frozen 9
  obtain ⟨i0, hi0, hz0, hz1, hz2⟩ := info_parts word_info
  go_wp2_with (at_builtin; refine wpList_append_own_at _ rfl _ _ 26 rfl 0 32 i0 (.int .u64 0) 1 8 Try.underlying26 hi0 hz0 hz1 hz2 rfl (by decide) _ _ _ rfl (World.ownsRow.alloc (R4.out.at_ HPL.out.2.2.1) _) ⟨w4.heap.size, 0, none⟩ 1 1 [.int .u64 v] rfl rfl (one_new w4 v) (one_oc v) (len_ok HJ6.out).1 (len_ok HJ6.out).2 (Nat.zero_le _) ?_)
  intro v' w5 hown' hgrow _ hat
  clear b0 b9 z9
  obtain ⟨hR, hx, q', hq1, hq2, hq3⟩ := row_push (N := fun k => k = o ∨ k = rs ∨ k = rt) R4.out HPL.out.2.2.1 (Nat.lt_of_lt_of_le QL.out X4.out.size) (fun k hk => ⟨(WAP.out k hk).1, fun h => by have := WAP.out k hk; omega⟩) (fun k hk => by
    have h1 := B4.out.lt
    have h2 := S4.out.lt
    have h3 := P4.out.lt
    rcases hk with h | h | h <;> rw [h] <;> assumption) hown' hgrow (by simpa using hat)
  clear hown' hgrow hat i0 hi0 hz0 hz1 hz2
  have HQ2 := Lib.hid (show q' = q ∨ w.heap.size ≤ q' from hq2.imp id (fun h => Nat.le_trans X4.out.size h))
  have QL2 := Lib.hid hq1
  have WAP2 := Lib.hid (show ∀ k, v'.ownBlock = some k → k = q' ∧ k ≠ o ∧ k ≠ rs ∧ k ≠ rt from fun k hk => ⟨(hq3 k hk).1, fun h => (hq3 k hk).2 (.inl h), fun h => (hq3 k hk).2 (.inr (.inl h)), fun h => (hq3 k hk).2 (.inr (.inr h))⟩)
  clear hq1 hq2 hq3
  obtain ⟨va2, vc2, hf2⟩ := hR.form
  rw [show (words ++ [v]).length = j + 1 by rw [List.length_append, HPL.out.2.2.1]; rfl] at hf2
  subst hf2
  have ee : Ex (fun k => (Value.slice va j vc).ownBlock = some k) w4 w5 := hx
  have B5 := Lib.hid (B4.out.ex ee (fun h => by have w_ := WAP.out _ h; have o_ := ORD1.out; omega))
  have S5 := Lib.hid (S4.out.ex ee (fun h => by have w_ := WAP.out _ h; have o_ := ORD1.out; omega))
  have P5 := Lib.hid (P4.out.ex ee (fun h => by have w_ := WAP.out _ h; have o_ := ORD1.out; omega))
  have R5 := Lib.hid hR
  have K5 := Lib.hid (K4.out.ex ee (fun h => by have w_ := WAP.out _ h; have o_ := ORD1.out; omega) (fun h => by have w_ := WAP.out _ h; have o_ := ORD1.out; omega))
  have X5 := Lib.hid (X4.out.trans (ee.mono (fun k hk => show k = g ∨ k = h ∨ k = o ∨ k = rs ∨ k = rt ∨ k = q from by have w_ := WAP.out k hk; omega)))
  clear ee hx hR B4 S4 P4 R4 K4 X4
  have WAP := WAP2
  clear WAP2
  have Y5 := Lib.hid (Ex.refl (fun k => k = o) w5)
  have b0 := B5.out.cell 0
  have b9 := B5.out.cell 9
  simp only [pcs, List.getElem?_toArray, List.getElem?_cons_zero, List.getElem?_cons_succ] at b0 b9
  have z9 := B5.out.frozen 9
  go_upto_region 24 with fail
  have bb : Blk (w5.setCell ⟨o, 9, none⟩ (.slice va2 (j + 1) vc2)) o 101 (pcs rs c.n cs rt c.T ct (.slice va2 (j + 1) vc2) left 2 (j : Int) pk gen place size 0 (steps + 1) begun) := ((B5.out).set_ 9 (.slice va2 (j + 1) vc2))
  clear b0 b9 z9
  have ee : Ex (fun k => k = o) w5 (w5.setCell ⟨o, 9, none⟩ (.slice va2 (j + 1) vc2)) := ((Ex.refl (fun k => k = o) w5).setCell (q := ⟨o, 9, none⟩) (.inl rfl) (.slice va2 (j + 1) vc2))
  have S6 := Lib.hid (S5.out.ex ee (by have o_ := ORD1.out; omega))
  have P6 := Lib.hid (P5.out.ex ee (by have o_ := ORD1.out; omega))
  have R6 := Lib.hid (R5.out.ex ee (fun k hk hT => by have hT : k = o := hT; have w_ := WAP.out k hk; have o_ := ORD1.out; omega))
  have K6 := Lib.hid (K5.out.ex ee (by have o_ := ORD1.out; omega) (by have o_ := ORD1.out; omega))
  have X6 := Lib.hid (X5.out.trans (ee.mono (fun k hk => show k = g ∨ k = h ∨ k = o ∨ k = rs ∨ k = rt ∨ k = q from by have hk : k = o := hk; omega)))
  have W6 := Lib.hid (Y5.out.trans (ee.mono (fun k hk => show k = o from by have hk : k = o := hk; omega)))
  have B6 := Lib.hid (bb)
  clear ee B5 S5 P5 R5 K5 X5 Y5 bb
  generalize (w5.setCell ⟨o, 9, none⟩ (.slice va2 (j + 1) vc2)) = w6 at *

  have hw2 := HNUM.out.2
  have b0 := B6.out.cell 0
  have b4 := B6.out.cell 4
  simp only [pcs, List.getElem?_toArray, List.getElem?_cons_zero, List.getElem?_cons_succ] at b0 b4
  have z4 := B6.out.frozen 4
  go_upto_region 25 with fail
  have bb : Blk (w6.setCell ⟨o, 4, none⟩ (.int .i64 ((j : Int) + 1))) o 101 (pcs rs c.n cs rt c.T ct (.slice va2 (j + 1) vc2) left 2 ((j : Int) + 1) pk gen place size 0 (steps + 1) begun) := ((B6.out).set_ 4 (.int .i64 ((j : Int) + 1)))
  clear hw2 b0 b4 z4
  have ee : Ex (fun k => k = o) w6 (w6.setCell ⟨o, 4, none⟩ (.int .i64 ((j : Int) + 1))) := ((Ex.refl (fun k => k = o) w6).setCell (q := ⟨o, 4, none⟩) (.inl rfl) (.int .i64 ((j : Int) + 1)))
  have S7 := Lib.hid (S6.out.ex ee (by have o_ := ORD1.out; omega))
  have P7 := Lib.hid (P6.out.ex ee (by have o_ := ORD1.out; omega))
  have R7 := Lib.hid (R6.out.ex ee (fun k hk hT => by have hT : k = o := hT; have w_ := WAP.out k hk; have o_ := ORD1.out; omega))
  have K7 := Lib.hid (K6.out.ex ee (by have o_ := ORD1.out; omega) (by have o_ := ORD1.out; omega))
  have X7 := Lib.hid (X6.out.trans (ee.mono (fun k hk => show k = g ∨ k = h ∨ k = o ∨ k = rs ∨ k = rt ∨ k = q from by have hk : k = o := hk; omega)))
  have W7 := Lib.hid (W6.out.trans (ee.mono (fun k hk => show k = o from by have hk : k = o := hk; omega)))
  have B7 := Lib.hid (bb)
  clear ee B6 S6 P6 R6 K6 X6 W6 bb
  generalize (w6.setCell ⟨o, 4, none⟩ (.int .i64 ((j : Int) + 1))) = w7 at *
  have hne : Nonempty (Held (fun W => W = w7.drew)) := ⟨⟨_, rfl⟩⟩
  have p0 : ∀ y : Held (fun W => W = w7.drew), y.w.cell? ⟨o, 0, none⟩ = some (.slice (some ⟨rs, 0, none⟩) c.n cs) := fun y => by rw [y.ok]; exact B7.out.cell 0
  have p4 : ∀ y : Held (fun W => W = w7.drew), y.w.cell? ⟨o, 4, none⟩ = some (.int .i64 ((j : Int) + 1)) := fun y => by rw [y.ok]; exact B7.out.cell 4
  have p8 : ∀ y : Held (fun W => W = w7.drew), y.w.cell? ⟨o, 8, none⟩ = some (.int .i64 size) := fun y => by rw [y.ok]; exact B7.out.cell 8
  refine drawn_bars (S := fun _ => True) [] [0, 1, 2, 3, 4, 5, 6, 7, 8] (by kernel_rfl) (by kernel_rfl) (by kernel_rfl) rfl trivial ?_
  refine Phased.end_ ?_
  simp only [pick, List.map_cons, List.map_nil, List.getElem?_cons_zero, List.getElem?_cons_succ, Option.getD_some]
  repeat (go_big_quiet_step (fail))
  refine wpQuiet_nil ?_
  clear hne p0 p4 p8
  have ee : Ex (fun _ => False) w7 w7.drew := (Ex.refl _ w7).drew
  have B8 := Lib.hid (B7.out.ex ee (fun h => h))
  have S8 := Lib.hid (S7.out.ex ee (fun h => h))
  have P8 := Lib.hid (P7.out.ex ee (fun h => h))
  have R8 := Lib.hid (R7.out.ex ee (fun k hk hT => hT))
  have K8 := Lib.hid (K7.out.ex ee (fun h => h) (fun h => h))
  have X8 := Lib.hid (X7.out.trans (ee.mono (fun k hk => hk.elim)))
  have W8 := Lib.hid (W7.out.trans (ee.mono (fun k hk => hk.elim)))
  clear ee B7 S7 P7 R7 K7 X7 W7
  generalize w7.drew = w8 at *
  have ke : (((j : Int) + 1) == size) = false := by have := HV.out; exact beq_eq_false_iff_ne.2 this
  go_wp2_with fail
  clear ke
  have hvq := HVV.out
  subst hvq
  first | rw [goOn_ret] | skip
  go_ret
  exact ⟨rfl, K8.out, ⟨q', .slice va2 (j + 1) vc2, ⟨B8.out, S8.out, P8.out, R8.out, Nat.lt_of_lt_of_le QL2.out W8.out.size, HA.out, WAP.out⟩, HQ2.out⟩, X8.out⟩
set_option maxRecDepth 100000 in
set_option maxHeartbeats 8000000 in
theorem PS_Bl (g h o rs cs rt ct q : Nat) (vw : Value) (ws : List Int) (t : Int) (c : PC) (left pk gen place size steps begun : Int) (words gl : List Int) (cu : Nat → Cur) (j : Nat) (w : World) (hb : BankAt w g h ws t)
    (ho : PAt w o rs cs rt ct q vw c ⟨left, 2, (j : Int), pk, gen, place, size, 0, steps, begun, words, gl, cu⟩) (hi : PInv c ⟨left, 2, (j : Int), pk, gen, place, size, 0, steps, begun, words, gl, cu⟩)
    (ne : o ≠ g ∧ o ≠ h ∧ rs ≠ g ∧ rs ≠ h ∧ rt ≠ g ∧ rt ≠ h ∧ q ≠ g ∧ q ≠ h) (hj : (j : Int) < size) (hin : inW ws (place + (j : Int))) (hv : (j : Int) + 1 = size) :
    Calls Try.prog 9 #[.pointer (some ⟨o, 0, none⟩), .pointer (some ⟨g, 0, none⟩)] w fun e w' => e = .returned (.int .i64 0) ∧ BankAt w' g h ws (tickF ws (place + (j : Int)) t) ∧ (∃ q' vw', PAt w' o rs cs rt ct q' vw' c ⟨left, 3, 0, pk, gen, place, size, 0, steps + 1, begun, (words ++ [wordF ws (place + (j : Int))]), gl, cu⟩ ∧ (q' = q ∨ w.heap.size ≤ q')) ∧ Ex (fun k => k = g ∨ k = h ∨ k = o ∨ k = rs ∨ k = rt ∨ k = q) w w' := by
  have hlen : words.length = j := by have h := hi.way rfl; simp only at h; omega
  obtain ⟨va, vc, hvw⟩ := (show OwnR w vw words from ho.row).form
  rw [hlen] at hvw
  subst hvw
  clear hlen
  have HI := Lib.hid hi
  have HJ := Lib.hid hj
  have WAP := Lib.hid ho.wap
  have QL := Lib.hid ho.qlt
  have HA := Lib.hid ho.apart
  have HIN := Lib.hid hin
  have N64 := Lib.hid (show c.n ≤ 64 ∧ c.T ≤ 64 from ⟨hi.ok.n64, Nat.le_trans hi.ok.tn hi.ok.n64⟩)
  have GLEN := Lib.hid (show gl.length = c.T from hi.fit.glen)
  have HRG := Lib.hid (fun i => wordF_range hb i)
  have B0 : RowKit.Hid (Blk w o 101 (pcs rs c.n cs rt c.T ct (.slice va j vc) left 2 (j : Int) pk gen place size 0 steps begun)) := Lib.hid ho.box
  have S0 : RowKit.Hid (SubsIn w rs c.n (c.sub cu)) := Lib.hid ho.subs
  have P0 : RowKit.Hid (TopsIn w rt c.T c.tp gl) := Lib.hid ho.tops
  have R0 : RowKit.Hid (OwnR w (.slice va j vc) words) := Lib.hid ho.row
  have K0 := Lib.hid hb
  have X0 := Lib.hid (Ex.refl (fun k => k = g ∨ k = h ∨ k = o ∨ k = rs ∨ k = rt ∨ k = q) w)
  have NE := Lib.hid ne
  have HV := Lib.hid hv
  have ORD1 := Lib.hid (show rs ≠ o ∧ rt ≠ o ∧ rs ≠ rt ∧ o ≠ g ∧ o ≠ h ∧ rs ≠ g ∧ rs ≠ h ∧ rt ≠ g ∧ rt ≠ h ∧ q ≠ g ∧ q ≠ h from by have h1 := HA.out; have h2 := NE.out; omega)
  have HPL := Lib.hid (show (0 ≤ place ∧ place ≤ 1100000) ∧ size ≤ 64 ∧ words.length = j ∧ (j : Int) < size from by have h := hi.way rfl; simp only at h; omega)
  have HJ6 := Lib.hid (show j ≤ 64 by have := HPL.out; omega)
  have HNUM := Lib.hid (pstep_nums (j := j) hi.st HJ6.out)
  clear ho hb hi ne hj hin hv
  have b0 := B0.out.cell 0
  have b10 := B0.out.cell 10
  have b3 := B0.out.cell 3
  simp only [pcs, List.getElem?_toArray, List.getElem?_cons_zero, List.getElem?_cons_succ] at b0 b10 b3
  go_enter Try.func9, Try.ntmps9
  go_wp2_with fail
  refine wp_scope_ahead 2 (fun c0 HC => ?_)
  go_wp2_with fail
  try simp only [Exit.inBlock, Exit.then]
  refine wp_goto ?_
  show goOn Try.prog c0 _ 2 (.goto 0) _ _
  refine goOn_jump HC rfl ?_
  go_upto_region 20 with fail
  clear b0 b10 b3
  have hne : Nonempty (Held (Ex (fun k => k = g ∨ k = h) w)) := ⟨⟨w, Ex.refl _ _⟩⟩
  have p0 : ∀ y : Held (Ex (fun k => k = g ∨ k = h) w), y.w.cell? ⟨o, 0, none⟩ = some (.slice (some ⟨rs, 0, none⟩) c.n cs) := fun y => (B0.out.ex y.ok (by have o_ := ORD1.out; omega)).cell 0
  have p4 : ∀ y : Held (Ex (fun k => k = g ∨ k = h) w), y.w.cell? ⟨o, 4, none⟩ = some (.int .i64 (j : Int)) := fun y => (B0.out.ex y.ok (by have o_ := ORD1.out; omega)).cell 4
  have p7 : ∀ y : Held (Ex (fun k => k = g ∨ k = h) w), y.w.cell? ⟨o, 7, none⟩ = some (.int .i64 place) := fun y => (B0.out.ex y.ok (by have o_ := ORD1.out; omega)).cell 7
  have XD := Lib.hid ((Ex.refl (fun k => k = g ∨ k = h) w).drew)
  refine drawn_bars (S := (Ex (fun k => k = g ∨ k = h) w)) [([0, 1, 2, 3, 4, 5, 6, 7, 8, 9], 10)] [11, 12, 13, 14, 15] (by kernel_rfl) (by kernel_rfl) (by kernel_rfl) rfl (Ex.refl _ _).drew ?_
  refine Phased.go ?_
  simp only [pick, List.map_cons, List.map_nil, List.getElem?_cons_zero, List.getElem?_cons_succ, Option.getD_some]
  repeat (go_big_quiet_step (fail))
  refine wpQuiet_nil ?_
  clear hne p0 p4 p7
  have ee : Ex (fun _ => False) w w.drew := (Ex.refl _ w).drew
  have B2 := Lib.hid (B0.out.ex ee (fun h => h))
  have S2 := Lib.hid (S0.out.ex ee (fun h => h))
  have P2 := Lib.hid (P0.out.ex ee (fun h => h))
  have R2 := Lib.hid (R0.out.ex ee (fun k hk hT => hT))
  have K2 := Lib.hid (K0.out.ex ee (fun h => h) (fun h => h))
  have X2 := Lib.hid (X0.out.trans (ee.mono (fun k hk => hk.elim)))
  clear ee B0 S0 P0 R0 K0 X0
  generalize w.drew = w1 at *
  go_wp2_with fail
  rw [place_nums (j := j) HPL.out.1 HJ6.out]
  refine (Load_any g h ws t (place + (j : Int)) w1 K2.out).mono ?_; rintro e w3 ⟨rfl, hb1, hx1⟩
  have XE := Lib.hid (XD.out.trans (Ex.of_ex2 (T := fun k => k = g ∨ k = h) hx1 (.inl rfl) (.inr rfl)))
  rw [errF_in HIN.out]
  have ee : Ex (fun k => k = g ∨ k = h) w1 w3 := Ex.of_ex2 (T := fun k => k = g ∨ k = h) hx1 (.inl rfl) (.inr rfl)
  have B3 := Lib.hid (B2.out.ex ee (by have o_ := ORD1.out; omega))
  have S3 := Lib.hid (S2.out.ex ee (by have o_ := ORD1.out; omega))
  have P3 := Lib.hid (P2.out.ex ee (by have o_ := ORD1.out; omega))
  have R3 := Lib.hid (R2.out.ex ee (fun k hk hT => by have hT : k = g ∨ k = h := hT; have w_ := WAP.out k hk; have o_ := ORD1.out; omega))
  have X3 := Lib.hid (X2.out.trans (ee.mono (fun k hk => show k = g ∨ k = h ∨ k = o ∨ k = rs ∨ k = rt ∨ k = q from by have hk : k = g ∨ k = h := hk; omega)))
  have K3 := Lib.hid (hb1)
  clear ee B2 S2 P2 R2 K2 X2 hb1 hx1
  obtain ⟨v, hvv⟩ : ∃ v, wordF ws (place + (j : Int)) = v := ⟨_, rfl⟩
  have HVV := Lib.hid hvv
  have HR := Lib.hid (show 0 ≤ v ∧ v ≤ 18446744073709551615 by rw [← hvv]; exact HRG.out _)
  rw [hvv]
  clear hvv
  go_wp2_with fail
  refine behind_normal ⟨(Ex (fun k => k = g ∨ k = h) w), fun W h => h, XE.out, ?_⟩
  refine Phased.end_ ?_
  have hne4 : Nonempty (Held (fun W => W = w3)) := ⟨⟨_, rfl⟩⟩
  simp only [pick, List.map_cons, List.map_nil, List.getElem?_cons_zero, List.getElem?_cons_succ, Option.getD_some]
  repeat (go_big_quiet_step (fail))
  refine wpQuiet_nil ?_
  clear hne4
  have hw1 := HNUM.out.1
  have b0 := B3.out.cell 0
  have b11 := B3.out.cell 11
  simp only [pcs, List.getElem?_toArray, List.getElem?_cons_zero, List.getElem?_cons_succ] at b0 b11
  have z11 := B3.out.frozen 11
  go_upto_region 23 with fail
  have bb : Blk (w3.setCell ⟨o, 11, none⟩ (.int .i64 (steps + 1))) o 101 (pcs rs c.n cs rt c.T ct (.slice va j vc) left 2 (j : Int) pk gen place size 0 (steps + 1) begun) := ((B3.out).set_ 11 (.int .i64 (steps + 1)))
  clear hw1 b0 b11 z11
  have ee : Ex (fun k => k = o) w3 (w3.setCell ⟨o, 11, none⟩ (.int .i64 (steps + 1))) := ((Ex.refl (fun k => k = o) w3).setCell (q := ⟨o, 11, none⟩) (.inl rfl) (.int .i64 (steps + 1)))
  have S4 := Lib.hid (S3.out.ex ee (by have o_ := ORD1.out; omega))
  have P4 := Lib.hid (P3.out.ex ee (by have o_ := ORD1.out; omega))
  have R4 := Lib.hid (R3.out.ex ee (fun k hk hT => by have hT : k = o := hT; have w_ := WAP.out k hk; have o_ := ORD1.out; omega))
  have K4 := Lib.hid (K3.out.ex ee (by have o_ := ORD1.out; omega) (by have o_ := ORD1.out; omega))
  have X4 := Lib.hid (X3.out.trans (ee.mono (fun k hk => show k = g ∨ k = h ∨ k = o ∨ k = rs ∨ k = rt ∨ k = q from by have hk : k = o := hk; omega)))
  have B4 := Lib.hid (bb)
  clear ee B3 S3 P3 R3 K3 X3 bb
  generalize (w3.setCell ⟨o, 11, none⟩ (.int .i64 (steps + 1))) = w4 at *
  have b0 := B4.out.cell 0
  have b9 := B4.out.cell 9
  simp only [pcs, List.getElem?_toArray, List.getElem?_cons_zero, List.getElem?_cons_succ] at b0 b9
  have z9 := B4.out.frozen 9
  obtain ⟨i0, hi0, hz0, hz1, hz2⟩ := info_parts word_info
  go_wp2_with (at_builtin; refine wpList_append_own_at _ rfl _ _ 26 rfl 0 32 i0 (.int .u64 0) 1 8 Try.underlying26 hi0 hz0 hz1 hz2 rfl (by decide) _ _ _ rfl (World.ownsRow.alloc (R4.out.at_ HPL.out.2.2.1) _) ⟨w4.heap.size, 0, none⟩ 1 1 [.int .u64 v] rfl rfl (one_new w4 v) (one_oc v) (len_ok HJ6.out).1 (len_ok HJ6.out).2 (Nat.zero_le _) ?_)
  intro v' w5 hown' hgrow _ hat
  clear b0 b9 z9
  obtain ⟨hR, hx, q', hq1, hq2, hq3⟩ := row_push (N := fun k => k = o ∨ k = rs ∨ k = rt) R4.out HPL.out.2.2.1 (Nat.lt_of_lt_of_le QL.out X4.out.size) (fun k hk => ⟨(WAP.out k hk).1, fun h => by have := WAP.out k hk; omega⟩) (fun k hk => by
    have h1 := B4.out.lt
    have h2 := S4.out.lt
    have h3 := P4.out.lt
    rcases hk with h | h | h <;> rw [h] <;> assumption) hown' hgrow (by simpa using hat)
  clear hown' hgrow hat i0 hi0 hz0 hz1 hz2
  have HQ2 := Lib.hid (show q' = q ∨ w.heap.size ≤ q' from hq2.imp id (fun h => Nat.le_trans X4.out.size h))
  have QL2 := Lib.hid hq1
  have WAP2 := Lib.hid (show ∀ k, v'.ownBlock = some k → k = q' ∧ k ≠ o ∧ k ≠ rs ∧ k ≠ rt from fun k hk => ⟨(hq3 k hk).1, fun h => (hq3 k hk).2 (.inl h), fun h => (hq3 k hk).2 (.inr (.inl h)), fun h => (hq3 k hk).2 (.inr (.inr h))⟩)
  clear hq1 hq2 hq3
  obtain ⟨va2, vc2, hf2⟩ := hR.form
  rw [show (words ++ [v]).length = j + 1 by rw [List.length_append, HPL.out.2.2.1]; rfl] at hf2
  subst hf2
  have ee : Ex (fun k => (Value.slice va j vc).ownBlock = some k) w4 w5 := hx
  have B5 := Lib.hid (B4.out.ex ee (fun h => by have w_ := WAP.out _ h; have o_ := ORD1.out; omega))
  have S5 := Lib.hid (S4.out.ex ee (fun h => by have w_ := WAP.out _ h; have o_ := ORD1.out; omega))
  have P5 := Lib.hid (P4.out.ex ee (fun h => by have w_ := WAP.out _ h; have o_ := ORD1.out; omega))
  have R5 := Lib.hid hR
  have K5 := Lib.hid (K4.out.ex ee (fun h => by have w_ := WAP.out _ h; have o_ := ORD1.out; omega) (fun h => by have w_ := WAP.out _ h; have o_ := ORD1.out; omega))
  have X5 := Lib.hid (X4.out.trans (ee.mono (fun k hk => show k = g ∨ k = h ∨ k = o ∨ k = rs ∨ k = rt ∨ k = q from by have w_ := WAP.out k hk; omega)))
  clear ee hx hR B4 S4 P4 R4 K4 X4
  have WAP := WAP2
  clear WAP2
  have Y5 := Lib.hid (Ex.refl (fun k => k = o) w5)
  have b0 := B5.out.cell 0
  have b9 := B5.out.cell 9
  simp only [pcs, List.getElem?_toArray, List.getElem?_cons_zero, List.getElem?_cons_succ] at b0 b9
  have z9 := B5.out.frozen 9
  go_upto_region 24 with fail
  have bb : Blk (w5.setCell ⟨o, 9, none⟩ (.slice va2 (j + 1) vc2)) o 101 (pcs rs c.n cs rt c.T ct (.slice va2 (j + 1) vc2) left 2 (j : Int) pk gen place size 0 (steps + 1) begun) := ((B5.out).set_ 9 (.slice va2 (j + 1) vc2))
  clear b0 b9 z9
  have ee : Ex (fun k => k = o) w5 (w5.setCell ⟨o, 9, none⟩ (.slice va2 (j + 1) vc2)) := ((Ex.refl (fun k => k = o) w5).setCell (q := ⟨o, 9, none⟩) (.inl rfl) (.slice va2 (j + 1) vc2))
  have S6 := Lib.hid (S5.out.ex ee (by have o_ := ORD1.out; omega))
  have P6 := Lib.hid (P5.out.ex ee (by have o_ := ORD1.out; omega))
  have R6 := Lib.hid (R5.out.ex ee (fun k hk hT => by have hT : k = o := hT; have w_ := WAP.out k hk; have o_ := ORD1.out; omega))
  have K6 := Lib.hid (K5.out.ex ee (by have o_ := ORD1.out; omega) (by have o_ := ORD1.out; omega))
  have X6 := Lib.hid (X5.out.trans (ee.mono (fun k hk => show k = g ∨ k = h ∨ k = o ∨ k = rs ∨ k = rt ∨ k = q from by have hk : k = o := hk; omega)))
  have W6 := Lib.hid (Y5.out.trans (ee.mono (fun k hk => show k = o from by have hk : k = o := hk; omega)))
  have B6 := Lib.hid (bb)
  clear ee B5 S5 P5 R5 K5 X5 Y5 bb
  generalize (w5.setCell ⟨o, 9, none⟩ (.slice va2 (j + 1) vc2)) = w6 at *

  have hw2 := HNUM.out.2
  have b0 := B6.out.cell 0
  have b4 := B6.out.cell 4
  simp only [pcs, List.getElem?_toArray, List.getElem?_cons_zero, List.getElem?_cons_succ] at b0 b4
  have z4 := B6.out.frozen 4
  go_upto_region 25 with fail
  have bb : Blk (w6.setCell ⟨o, 4, none⟩ (.int .i64 ((j : Int) + 1))) o 101 (pcs rs c.n cs rt c.T ct (.slice va2 (j + 1) vc2) left 2 ((j : Int) + 1) pk gen place size 0 (steps + 1) begun) := ((B6.out).set_ 4 (.int .i64 ((j : Int) + 1)))
  clear hw2 b0 b4 z4
  have ee : Ex (fun k => k = o) w6 (w6.setCell ⟨o, 4, none⟩ (.int .i64 ((j : Int) + 1))) := ((Ex.refl (fun k => k = o) w6).setCell (q := ⟨o, 4, none⟩) (.inl rfl) (.int .i64 ((j : Int) + 1)))
  have S7 := Lib.hid (S6.out.ex ee (by have o_ := ORD1.out; omega))
  have P7 := Lib.hid (P6.out.ex ee (by have o_ := ORD1.out; omega))
  have R7 := Lib.hid (R6.out.ex ee (fun k hk hT => by have hT : k = o := hT; have w_ := WAP.out k hk; have o_ := ORD1.out; omega))
  have K7 := Lib.hid (K6.out.ex ee (by have o_ := ORD1.out; omega) (by have o_ := ORD1.out; omega))
  have X7 := Lib.hid (X6.out.trans (ee.mono (fun k hk => show k = g ∨ k = h ∨ k = o ∨ k = rs ∨ k = rt ∨ k = q from by have hk : k = o := hk; omega)))
  have W7 := Lib.hid (W6.out.trans (ee.mono (fun k hk => show k = o from by have hk : k = o := hk; omega)))
  have B7 := Lib.hid (bb)
  clear ee B6 S6 P6 R6 K6 X6 W6 bb
  generalize (w6.setCell ⟨o, 4, none⟩ (.int .i64 ((j : Int) + 1))) = w7 at *
  have hne : Nonempty (Held (fun W => W = w7.drew)) := ⟨⟨_, rfl⟩⟩
  have p0 : ∀ y : Held (fun W => W = w7.drew), y.w.cell? ⟨o, 0, none⟩ = some (.slice (some ⟨rs, 0, none⟩) c.n cs) := fun y => by rw [y.ok]; exact B7.out.cell 0
  have p4 : ∀ y : Held (fun W => W = w7.drew), y.w.cell? ⟨o, 4, none⟩ = some (.int .i64 ((j : Int) + 1)) := fun y => by rw [y.ok]; exact B7.out.cell 4
  have p8 : ∀ y : Held (fun W => W = w7.drew), y.w.cell? ⟨o, 8, none⟩ = some (.int .i64 size) := fun y => by rw [y.ok]; exact B7.out.cell 8
  refine drawn_bars (S := fun _ => True) [] [0, 1, 2, 3, 4, 5, 6, 7, 8] (by kernel_rfl) (by kernel_rfl) (by kernel_rfl) rfl trivial ?_
  refine Phased.end_ ?_
  simp only [pick, List.map_cons, List.map_nil, List.getElem?_cons_zero, List.getElem?_cons_succ, Option.getD_some]
  repeat (go_big_quiet_step (fail))
  refine wpQuiet_nil ?_
  clear hne p0 p4 p8
  have ee : Ex (fun _ => False) w7 w7.drew := (Ex.refl _ w7).drew
  have B8 := Lib.hid (B7.out.ex ee (fun h => h))
  have S8 := Lib.hid (S7.out.ex ee (fun h => h))
  have P8 := Lib.hid (P7.out.ex ee (fun h => h))
  have R8 := Lib.hid (R7.out.ex ee (fun k hk hT => hT))
  have K8 := Lib.hid (K7.out.ex ee (fun h => h) (fun h => h))
  have X8 := Lib.hid (X7.out.trans (ee.mono (fun k hk => hk.elim)))
  have W8 := Lib.hid (W7.out.trans (ee.mono (fun k hk => hk.elim)))
  clear ee B7 S7 P7 R7 K7 X7 W7
  generalize w7.drew = w8 at *
  have ke : (((j : Int) + 1) == size) = true := by have := HV.out; exact beq_iff_eq.2 this
  have b0 := B8.out.cell 0
  have b3 := B8.out.cell 3
  have b4 := B8.out.cell 4
  simp only [pcs, List.getElem?_toArray, List.getElem?_cons_zero, List.getElem?_cons_succ] at b0 b3 b4
  have z3 := B8.out.frozen 3
  have z4 := B8.out.frozen 4
  go_wp2_with fail
  have bb : Blk ((w8.setCell ⟨o, 3, none⟩ (.int .i64 3)).setCell ⟨o, 4, none⟩ (.int .i64 0)) o 101 (pcs rs c.n cs rt c.T ct (.slice va2 (j + 1) vc2) left 3 0 pk gen place size 0 (steps + 1) begun) := ((((B8.out).set_ 3 (.int .i64 3))).set_ 4 (.int .i64 0))
  clear ke b0 b3 b4 z3 z4
  have ee : Ex (fun k => k = o) w8 ((w8.setCell ⟨o, 3, none⟩ (.int .i64 3)).setCell ⟨o, 4, none⟩ (.int .i64 0)) := (((Ex.refl (fun k => k = o) w8).setCell (q := ⟨o, 3, none⟩) (.inl rfl) (.int .i64 3)).setCell (q := ⟨o, 4, none⟩) (.inl rfl) (.int .i64 0))
  have S9 := Lib.hid (S8.out.ex ee (by have o_ := ORD1.out; omega))
  have P9 := Lib.hid (P8.out.ex ee (by have o_ := ORD1.out; omega))
  have R9 := Lib.hid (R8.out.ex ee (fun k hk hT => by have hT : k = o := hT; have w_ := WAP.out k hk; have o_ := ORD1.out; omega))
  have K9 := Lib.hid (K8.out.ex ee (by have o_ := ORD1.out; omega) (by have o_ := ORD1.out; omega))
  have X9 := Lib.hid (X8.out.trans (ee.mono (fun k hk => show k = g ∨ k = h ∨ k = o ∨ k = rs ∨ k = rt ∨ k = q from by have hk : k = o := hk; omega)))
  have W9 := Lib.hid (W8.out.trans (ee.mono (fun k hk => show k = o from by have hk : k = o := hk; omega)))
  have B9 := Lib.hid (bb)
  clear ee B8 S8 P8 R8 K8 X8 W8 bb
  generalize ((w8.setCell ⟨o, 3, none⟩ (.int .i64 3)).setCell ⟨o, 4, none⟩ (.int .i64 0)) = w9 at *
  have hvq := HVV.out
  subst hvq
  first | rw [goOn_ret] | skip
  go_ret
  exact ⟨rfl, K9.out, ⟨q', .slice va2 (j + 1) vc2, ⟨B9.out, S9.out, P9.out, R9.out, Nat.lt_of_lt_of_le QL2.out W9.out.size, HA.out, WAP.out⟩, HQ2.out⟩, X9.out⟩
end Go.Proofs.Ythcaagkgddeabaa.Bank
