/-
  The document's step of a snapshot: the third round. Printed by wip/tools/mksne.py. Conditions stand at each. By an AI agent.
-/
import Derived.Test.YtjdalllfnlpmnaaSnE
namespace Go.Proofs.Ytjdalllfnlpmnaa.Bank
set_option linter.unusedVariables false
set_option linter.unusedSimpArgs false
open Go Go.RowKit Go.Proofs.Ytjdalllfnlpmnaa.Base
set_option maxRecDepth 100000 in
set_option maxHeartbeats 4000000 in
theorem RS_3more (base f hb rl n cl : Nat) (ws : List Int) (l : Nat → Spot) (T N had begun steps : Int) (k : Nat) (vg vw : Value) (qg cg : Nat) (gl : List Int) (w : World) (ho : Blk w f 49 (rcs rl n cl T 3 (k : Int) N had (.slice (some ⟨qg, 0, none⟩) n cg) vw begun 0 steps)) (hs : SpsIn w rl n l) (hr : URow w hb ws)
    (ne : f ≠ hb ∧ hb < base ∧ f < base ∧ rl < base ∧ rl ≠ f) (hz : base ≤ w.heap.size) (hn : 1 ≤ n ∧ n ≤ 64) (hR : allR l n = true) (hst : 0 ≤ steps ∧ steps ≤ 1099511627776) (hkn : k < n) (hp : IntsIn w .u64 qg cg gl) (hgl : gl.length = n) (nq : qg < base ∧ qg ≠ f) (q : Nat) (hq : (l k).seq = (q : Int)) (hin : q < ws.length) (hk2 : nth ws q / 2 = nth gl k) (hl : ¬ (k : Int) = (n : Int) - 1) (hfit : ∀ i, 0 ≤ nth ws i ∧ nth ws i ≤ 18446744073709551615) :
    Calls Try.prog 16 #[.pointer (some ⟨f, 0, none⟩), .slice (some ⟨hb, 0, none⟩) ws.length ws.length] w fun e w' => e = .returned (.tuple #[]) ∧ Blk w' f 49 (rcs rl n cl T 3 ((k : Int) + 1) N had (.slice (some ⟨qg, 0, none⟩) n cg) vw begun 0 (steps + 1)) ∧ Ex (fun k => k = f) w w' := by
  have P0 := Lib.hid hp
  have GL := Lib.hid hgl
  have NE2 := Lib.hid nq
  clear hp hgl
  have B0 := Lib.hid (show Blk w f 49 _ from ho)
  have R0 := Lib.hid hr
  have S0 := Lib.hid hs
  have X0 := Lib.hid (Ex.refl (fun k => k = f) w)
  have ORD := Lib.hid ne
  have SZ := Lib.hid hz
  have HNN := Lib.hid hn
  have HRR := Lib.hid hR
  have KN := Lib.hid hkn
  unfold rcs at B0
  have HQ := Lib.hid hq
  have HIN := Lib.hid hin
  have HK2 := Lib.hid hk2
  have HL := Lib.hid hl
  have HFIT := Lib.hid hfit
  have HST := Lib.hid (show wrap64 (steps + 1) = steps + 1 from wrap64_in _ (by omega))
  have HN1 := Lib.hid (show wrap64 ((n : Int) - 1) = (n : Int) - 1 from wrap64_in _ (by omega))
  have HK1 := Lib.hid (show wrap64 ((k : Int) + 1) = (k : Int) + 1 from wrap64_in _ (by omega))
  have i0 : (0 : Int) ≤ (k : Int) := by omega
  have i1 : (k : Int) < (n : Int) := by omega
  clear ho hr hs ne hz hn hR hst hkn hq hin hk2 hl hfit
  clear nq
  have ORD1 := Lib.hid (show f ≠ hb ∧ hb < base ∧ f < base ∧ rl < base ∧ rl ≠ f ∧ qg < base ∧ qg ≠ f from by have o_ := ORD.out; have n2 := NE2.out; omega)
  have Bq0 := (B0.out).cell 0
  have Bq9 := (B0.out).cell 9
  simp only [List.getElem?_toArray, List.getElem?_cons_succ, List.getElem?_cons_zero] at Bq0 Bq9
  go_enter Try.func16, Try.ntmps16
  go_upto_region 1 with fail
  clear Bq0 Bq9
  have hne : Nonempty (Held (Below w.heap.size w)) := ⟨⟨w, Below.refl _ _⟩⟩
  have p0 : ∀ y : Held (Below w.heap.size w), y.w.cell? ⟨f, 0, none⟩ = some (.slice (some ⟨rl, 0, none⟩) n cl) := fun y => (B0.out.bl y.ok).cell 0
  have p3 : ∀ y : Held (Below w.heap.size w), y.w.cell? ⟨f, 3, none⟩ = some (.int .i64 (k : Int)) := fun y => (B0.out.bl y.ok).cell 3
  have s0 : ∀ y : Held (Below w.heap.size w), y.w.cell? ⟨rl, k * 5, none⟩ = some (.int .i64 (l k).owners) := fun y => (S0.out.bl y.ok).cells k KN.out 0 (by decide)
  have s1 : ∀ y : Held (Below w.heap.size w), y.w.cell? ⟨rl, k * 5 + 1, none⟩ = some (.int .i64 (l k).seq) := fun y => (S0.out.bl y.ok).cells k KN.out 1 (by decide)
  have s2 : ∀ y : Held (Below w.heap.size w), y.w.cell? ⟨rl, k * 5 + 2, none⟩ = some (.int .i64 (l k).first) := fun y => (S0.out.bl y.ok).cells k KN.out 2 (by decide)
  have s3 : ∀ y : Held (Below w.heap.size w), y.w.cell? ⟨rl, k * 5 + 3, none⟩ = some (.int .i64 (l k).words) := fun y => (S0.out.bl y.ok).cells k KN.out 3 (by decide)
  have s4 : ∀ y : Held (Below w.heap.size w), y.w.cell? ⟨rl, k * 5 + 4, none⟩ = some (.int .i64 (l k).depth) := fun y => (S0.out.bl y.ok).cells k KN.out 4 (by decide)
  refine drawn_bars (S := (Below w.heap.size w)) [([0, 1, 2, 3, 4, 5, 6, 7, 8, 9], 10), ([], 11)] [] (by kernel_rfl) (by kernel_rfl) (by kernel_rfl) rfl (Below.refl _ _).drew ?_
  refine Phased.go ?_
  simp only [pick, List.map_cons, List.map_nil, List.getElem?_cons_zero, List.getElem?_cons_succ, Option.getD_some]
  repeat (go_big_quiet_step (fail))
  refine wpQuiet_nil ?_
  have hbd : Below w.heap.size w w.drew := (Below.refl _ _).drew
  go_wp2_with fail
  refine behind_normal ⟨(Below w.heap.size w), fun W h => h, hbd.alloc (Nat.le_refl _) _, ?_⟩
  refine Phased.go ?_
  simp only [pick, List.map_cons, List.map_nil, List.getElem?_cons_zero, List.getElem?_cons_succ, Option.getD_some]
  repeat (go_big_quiet_step (fail))
  refine wpQuiet_nil ?_
  go_wp2_with fail
  have hn9 : Blk ((w.alloc (.cells #[.int .i64 (l k).owners, .int .i64 (l k).seq, .int .i64 (l k).first, .int .i64 (l k).words, .int .i64 (l k).depth] 95)).drew) w.heap.size 95 #[.int .i64 (l k).owners, .int .i64 (l k).seq, .int .i64 (l k).first, .int .i64 (l k).words, .int .i64 (l k).depth] := Blk.new w _ _
  obtain ⟨sb, hsb⟩ : ∃ sb, w.heap.size = sb := ⟨_, rfl⟩
  have hsb0 : base ≤ sb := hsb ▸ SZ.out
  have hb9 := hbd.alloc (Nat.le_refl _) (.cells #[.int .i64 (l k).owners, .int .i64 (l k).seq, .int .i64 (l k).first, .int .i64 (l k).words, .int .i64 (l k).depth] 95)
  refine behind_normal ⟨(Below w.heap.size w), fun W h => h, hb9, ?_⟩
  refine Phased.end_ ?_
  have hne5 : Nonempty (Held (fun W => W = ((w.alloc (.cells #[.int .i64 (l k).owners, .int .i64 (l k).seq, .int .i64 (l k).first, .int .i64 (l k).words, .int .i64 (l k).depth] 95)).drew))) := ⟨⟨_, rfl⟩⟩
  simp only [pick, List.map_cons, List.map_nil, List.getElem?_cons_zero, List.getElem?_cons_succ, Option.getD_some]
  repeat (go_big_quiet_step (fail))
  refine wpQuiet_nil ?_
  simp only [hsb] at hn9 ⊢
  have ORD2 := Lib.hid (show f ≠ hb ∧ hb < base ∧ f < base ∧ rl < base ∧ rl ≠ f ∧ qg < base ∧ qg ≠ f ∧ base ≤ sb from by have o_ := ORD1.out; omega)
  clear hb9 hne5 hbd hne p0 p3 s0 s1 s2 s3 s4
  have ee : Ex (fun _ => False) w ((w.alloc (.cells #[.int .i64 (l k).owners, .int .i64 (l k).seq, .int .i64 (l k).first, .int .i64 (l k).words, .int .i64 (l k).depth] 95)).drew) := ((Ex.refl _ w).alloc _).drew
  have B_3 := Lib.hid (B0.out.ex ee (fun h => h))
  have R_3 := Lib.hid (R0.out.ex ee (fun h => h))
  have S_3 := Lib.hid (S0.out.ex ee (fun h => h))
  have X_3 := Lib.hid (X0.out.ex ee (fun b_ h_ => h_.elim))
  have P_3 := Lib.hid (P0.out.ex ee (fun h => h))
  have D_3 := Lib.hid (hn9)
  clear ee B0 R0 S0 X0 P0 hn9 hsb0
  generalize ((w.alloc (.cells #[.int .i64 (l k).owners, .int .i64 (l k).seq, .int .i64 (l k).first, .int .i64 (l k).words, .int .i64 (l k).depth] 95)).drew) = w1 at *
  have d1 : w1.cell? ⟨sb, 1, none⟩ = some (.int .i64 (q : Int)) := by rw [← HQ.out]; exact D_3.out.cell 1
  have kq0 : (0 : Int) ≤ (q : Int) := by omega
  have kq1 : (q : Int) < (ws.length : Int) := by have := HIN.out; omega
  have k1 : decide ((q : Int) < 0) = false := decide_eq_false (by omega)
  have k2 : decide ((q : Int) ≥ (ws.length : Int)) = false := decide_eq_false (by omega)
  have Bq0 := (B_3.out).cell 0
  have Bq2 := (B_3.out).cell 2
  have Bq10 := (B_3.out).cell 10
  simp only [List.getElem?_toArray, List.getElem?_cons_succ, List.getElem?_cons_zero] at Bq0 Bq2 Bq10
  have Bf10 := (B_3.out).frozen 10
  have hst := HST.out
  go_upto_region 8 with fail
  clear d1 Bq0 Bq2 Bq10 Bf10
  have bb := (B_3.out.set_ 10 (.int .i64 (steps + 1)))
  simp only [List.setIfInBounds_toArray, List.set_cons_succ, List.set_cons_zero] at bb
  have BB := Lib.hid bb
  clear bb
  have ee : Ex (fun k => k = f) w1 (w1.setCell ⟨f, 10, none⟩ (.int .i64 (steps + 1))) := ((Ex.refl (fun k => k = f) w1).setCell (q := ⟨f, 10, none⟩) (.inl rfl) (.int .i64 (steps + 1)))
  have R_4 := Lib.hid (R_3.out.ex ee (by have o_ := ORD2.out; omega))
  have S_4 := Lib.hid (S_3.out.ex ee (by have o_ := ORD2.out; omega))
  have X_4 := Lib.hid (X_3.out.ex ee (fun b_ h_ => by have o_ := ORD2.out; have h_ : b_ = f := h_; first | omega | (show _ ∨ _; omega)))
  have P_4 := Lib.hid (P_3.out.ex ee (by have o_ := ORD2.out; omega))
  have D_4 := Lib.hid (D_3.out.ex ee (by have o_ := ORD2.out; omega))
  have B_4 := Lib.hid (BB.out)
  clear ee B_3 R_3 S_3 X_3 P_3 D_3 BB
  generalize (w1.setCell ⟨f, 10, none⟩ (.int .i64 (steps + 1))) = w3 at *
  have hn1 := HN1.out
  have kl : ((k : Int) == (n : Int) - 1) = false := beq_eq_false_iff_ne.2 HL.out
  have hne : Nonempty (Held (fun W => W = w3.drew)) := ⟨⟨_, rfl⟩⟩
  have p0 : ∀ y : Held (fun W => W = w3.drew), y.w.cell? ⟨f, 0, none⟩ = some (.slice (some ⟨rl, 0, none⟩) n cl) := fun y => by rw [y.ok]; exact B_4.out.cell 0
  have p3 : ∀ y : Held (fun W => W = w3.drew), y.w.cell? ⟨f, 3, none⟩ = some (.int .i64 (k : Int)) := fun y => by rw [y.ok]; exact B_4.out.cell 3
  refine drawn_bars (S := fun _ => True) [] [0, 1, 2, 3, 4, 5, 6, 7, 8, 9, 10, 11] (by kernel_rfl) (by kernel_rfl) (by kernel_rfl) rfl trivial ?_
  refine Phased.end_ ?_
  simp only [pick, List.map_cons, List.map_nil, List.getElem?_cons_zero, List.getElem?_cons_succ, Option.getD_some]
  repeat (go_big_quiet_step (fail))
  refine wpQuiet_nil ?_
  clear hne p0 p3
  have ee : Ex (fun _ => False) w3 w3.drew := (Ex.refl _ w3).drew
  have B_5 := Lib.hid (B_4.out.ex ee (fun h => h))
  have R_5 := Lib.hid (R_4.out.ex ee (fun h => h))
  have S_5 := Lib.hid (S_4.out.ex ee (fun h => h))
  have X_5 := Lib.hid (X_4.out.ex ee (fun b_ h_ => h_.elim))
  have P_5 := Lib.hid (P_4.out.ex ee (fun h => h))
  have D_5 := Lib.hid (D_4.out.ex ee (fun h => h))
  clear ee B_4 R_4 S_4 X_4 P_4 D_4
  generalize w3.drew = w4 at *
  have Bq0 := (B_5.out).cell 0
  have Bq2 := (B_5.out).cell 2
  simp only [List.getElem?_toArray, List.getElem?_cons_succ, List.getElem?_cons_zero] at Bq0 Bq2
  go_upto_region 31 with fail
  have HRG := Lib.hid (HFIT.out q)
  have kz2 : IntKind.u64.wrap ((nth ws q).tdiv 2) = nth ws q / 2 := by rw [Int.tdiv_eq_ediv_of_nonneg HRG.out.1]; exact u64_wrap_in (by have := HRG.out; omega)
  have hword := R_5.out.word HIN.out
  have HWORD := Lib.hid hword
  clear hword
  generalize nth ws q = z at *
  generalize hgg : nth gl k = gg at *
  have HGG := Lib.hid hgg
  clear hgg
  have ke : (z / 2 == gg) = true := beq_iff_eq.2 HK2.out
  have kne : (z / 2 != gg) = false := by simp only [bne, ke, Bool.not_true]
  clear Bq0 Bq2
  have hne : Nonempty (Held (fun W => W = w4.drew)) := ⟨⟨_, rfl⟩⟩
  have p3 : ∀ y : Held (fun W => W = w4.drew), y.w.cell? ⟨f, 3, none⟩ = some (.int .i64 (k : Int)) := fun y => by rw [y.ok]; exact B_5.out.cell 3
  have p6 : ∀ y : Held (fun W => W = w4.drew), y.w.cell? ⟨f, 6, none⟩ = some (.slice (some ⟨qg, 0, none⟩) n cg) := fun y => by rw [y.ok]; exact B_5.out.cell 6
  have pw : ∀ y : Held (fun W => W = w4.drew), y.w.cell? ⟨hb, q, none⟩ = some (.int .u64 z) := fun y => by rw [y.ok]; exact HWORD.out
  have pg : ∀ y : Held (fun W => W = w4.drew), y.w.cell? ⟨qg, k, none⟩ = some (.int .u64 gg) := fun y => by rw [y.ok]; exact by rw [← HGG.out]; exact P_5.out.at_ k (by rw [GL.out]; exact KN.out)
  refine drawn_bars (S := fun _ => True) [] [0, 1, 2, 3, 4, 5, 6, 7, 8, 9, 10, 11, 12, 13, 14, 15] (by kernel_rfl) (by kernel_rfl) (by kernel_rfl) rfl trivial ?_
  refine Phased.end_ ?_
  simp only [pick, List.map_cons, List.map_nil, List.getElem?_cons_zero, List.getElem?_cons_succ, Option.getD_some]
  repeat (go_big_quiet_step (fail))
  refine wpQuiet_nil ?_
  clear hne p3 p6 pw pg
  have ee : Ex (fun _ => False) w4 w4.drew := (Ex.refl _ w4).drew
  have B_6 := Lib.hid (B_5.out.ex ee (fun h => h))
  have R_6 := Lib.hid (R_5.out.ex ee (fun h => h))
  have S_6 := Lib.hid (S_5.out.ex ee (fun h => h))
  have X_6 := Lib.hid (X_5.out.ex ee (fun b_ h_ => h_.elim))
  have P_6 := Lib.hid (P_5.out.ex ee (fun h => h))
  have D_6 := Lib.hid (D_5.out.ex ee (fun h => h))
  clear ee B_5 R_5 S_5 X_5 P_5 D_5
  generalize w4.drew = w5 at *
  clear HWORD
  have hk1 := HK1.out
  have Bq0 := (B_6.out).cell 0
  have Bq3 := (B_6.out).cell 3
  simp only [List.getElem?_toArray, List.getElem?_cons_succ, List.getElem?_cons_zero] at Bq0 Bq3
  have Bf3 := (B_6.out).frozen 3
  go_wp2_with fail
  clear Bq0 Bq3 Bf3
  have bb := (B_6.out.set_ 3 (.int .i64 ((k : Int) + 1)))
  simp only [List.setIfInBounds_toArray, List.set_cons_succ, List.set_cons_zero] at bb
  have BB := Lib.hid bb
  clear bb
  have ee : Ex (fun k => k = f) w5 (w5.setCell ⟨f, 3, none⟩ (.int .i64 ((k : Int) + 1))) := ((Ex.refl (fun k => k = f) w5).setCell (q := ⟨f, 3, none⟩) (.inl rfl) (.int .i64 ((k : Int) + 1)))
  have R_7 := Lib.hid (R_6.out.ex ee (by have o_ := ORD2.out; omega))
  have S_7 := Lib.hid (S_6.out.ex ee (by have o_ := ORD2.out; omega))
  have X_7 := Lib.hid (X_6.out.ex ee (fun b_ h_ => by have o_ := ORD2.out; have h_ : b_ = f := h_; first | omega | (show _ ∨ _; omega)))
  have P_7 := Lib.hid (P_6.out.ex ee (by have o_ := ORD2.out; omega))
  have D_7 := Lib.hid (D_6.out.ex ee (by have o_ := ORD2.out; omega))
  have B_7 := Lib.hid (BB.out)
  clear ee B_6 R_6 S_6 X_6 P_6 D_6 BB
  first | (refine bodyPost_ret (results_none rfl _ _ _) rfl ?_) | go_end0
  exact ⟨rfl, B_7.out, X_7.out⟩
set_option maxRecDepth 100000 in
set_option maxHeartbeats 4000000 in
theorem RS_3last (base f hb rl n cl : Nat) (ws : List Int) (l : Nat → Spot) (T N had begun steps : Int) (k : Nat) (vg vw : Value) (qg cg : Nat) (gl : List Int) (w : World) (ho : Blk w f 49 (rcs rl n cl T 3 (k : Int) N had (.slice (some ⟨qg, 0, none⟩) n cg) vw begun 0 steps)) (hs : SpsIn w rl n l) (hr : URow w hb ws)
    (ne : f ≠ hb ∧ hb < base ∧ f < base ∧ rl < base ∧ rl ≠ f) (hz : base ≤ w.heap.size) (hn : 1 ≤ n ∧ n ≤ 64) (hR : allR l n = true) (hst : 0 ≤ steps ∧ steps ≤ 1099511627776) (hkn : k < n) (hp : IntsIn w .u64 qg cg gl) (hgl : gl.length = n) (nq : qg < base ∧ qg ≠ f) (q : Nat) (hq : (l k).seq = (q : Int)) (hin : q < ws.length) (hk2 : nth ws q / 2 = nth gl k) (hl : (k : Int) = (n : Int) - 1) (hfit : ∀ i, 0 ≤ nth ws i ∧ nth ws i ≤ 18446744073709551615) :
    Calls Try.prog 16 #[.pointer (some ⟨f, 0, none⟩), .slice (some ⟨hb, 0, none⟩) ws.length ws.length] w fun e w' => e = .returned (.tuple #[]) ∧ Blk w' f 49 (rcs rl n cl T 3 0 N had (.slice (some ⟨qg, 0, none⟩) n cg) vw begun 1 (steps + 1)) ∧ Ex (fun k => k = f) w w' := by
  have P0 := Lib.hid hp
  have GL := Lib.hid hgl
  have NE2 := Lib.hid nq
  clear hp hgl
  have B0 := Lib.hid (show Blk w f 49 _ from ho)
  have R0 := Lib.hid hr
  have S0 := Lib.hid hs
  have X0 := Lib.hid (Ex.refl (fun k => k = f) w)
  have ORD := Lib.hid ne
  have SZ := Lib.hid hz
  have HNN := Lib.hid hn
  have HRR := Lib.hid hR
  have KN := Lib.hid hkn
  unfold rcs at B0
  have HQ := Lib.hid hq
  have HIN := Lib.hid hin
  have HK2 := Lib.hid hk2
  have HL := Lib.hid hl
  have HFIT := Lib.hid hfit
  have HST := Lib.hid (show wrap64 (steps + 1) = steps + 1 from wrap64_in _ (by omega))
  have HN1 := Lib.hid (show wrap64 ((n : Int) - 1) = (n : Int) - 1 from wrap64_in _ (by omega))
  have HK1 := Lib.hid (show wrap64 ((k : Int) + 1) = (k : Int) + 1 from wrap64_in _ (by omega))
  have i0 : (0 : Int) ≤ (k : Int) := by omega
  have i1 : (k : Int) < (n : Int) := by omega
  clear ho hr hs ne hz hn hR hst hkn hq hin hk2 hl hfit
  clear nq
  have ORD1 := Lib.hid (show f ≠ hb ∧ hb < base ∧ f < base ∧ rl < base ∧ rl ≠ f ∧ qg < base ∧ qg ≠ f from by have o_ := ORD.out; have n2 := NE2.out; omega)
  have Bq0 := (B0.out).cell 0
  have Bq9 := (B0.out).cell 9
  simp only [List.getElem?_toArray, List.getElem?_cons_succ, List.getElem?_cons_zero] at Bq0 Bq9
  go_enter Try.func16, Try.ntmps16
  go_upto_region 1 with fail
  clear Bq0 Bq9
  have hne : Nonempty (Held (Below w.heap.size w)) := ⟨⟨w, Below.refl _ _⟩⟩
  have p0 : ∀ y : Held (Below w.heap.size w), y.w.cell? ⟨f, 0, none⟩ = some (.slice (some ⟨rl, 0, none⟩) n cl) := fun y => (B0.out.bl y.ok).cell 0
  have p3 : ∀ y : Held (Below w.heap.size w), y.w.cell? ⟨f, 3, none⟩ = some (.int .i64 (k : Int)) := fun y => (B0.out.bl y.ok).cell 3
  have s0 : ∀ y : Held (Below w.heap.size w), y.w.cell? ⟨rl, k * 5, none⟩ = some (.int .i64 (l k).owners) := fun y => (S0.out.bl y.ok).cells k KN.out 0 (by decide)
  have s1 : ∀ y : Held (Below w.heap.size w), y.w.cell? ⟨rl, k * 5 + 1, none⟩ = some (.int .i64 (l k).seq) := fun y => (S0.out.bl y.ok).cells k KN.out 1 (by decide)
  have s2 : ∀ y : Held (Below w.heap.size w), y.w.cell? ⟨rl, k * 5 + 2, none⟩ = some (.int .i64 (l k).first) := fun y => (S0.out.bl y.ok).cells k KN.out 2 (by decide)
  have s3 : ∀ y : Held (Below w.heap.size w), y.w.cell? ⟨rl, k * 5 + 3, none⟩ = some (.int .i64 (l k).words) := fun y => (S0.out.bl y.ok).cells k KN.out 3 (by decide)
  have s4 : ∀ y : Held (Below w.heap.size w), y.w.cell? ⟨rl, k * 5 + 4, none⟩ = some (.int .i64 (l k).depth) := fun y => (S0.out.bl y.ok).cells k KN.out 4 (by decide)
  refine drawn_bars (S := (Below w.heap.size w)) [([0, 1, 2, 3, 4, 5, 6, 7, 8, 9], 10), ([], 11)] [] (by kernel_rfl) (by kernel_rfl) (by kernel_rfl) rfl (Below.refl _ _).drew ?_
  refine Phased.go ?_
  simp only [pick, List.map_cons, List.map_nil, List.getElem?_cons_zero, List.getElem?_cons_succ, Option.getD_some]
  repeat (go_big_quiet_step (fail))
  refine wpQuiet_nil ?_
  have hbd : Below w.heap.size w w.drew := (Below.refl _ _).drew
  go_wp2_with fail
  refine behind_normal ⟨(Below w.heap.size w), fun W h => h, hbd.alloc (Nat.le_refl _) _, ?_⟩
  refine Phased.go ?_
  simp only [pick, List.map_cons, List.map_nil, List.getElem?_cons_zero, List.getElem?_cons_succ, Option.getD_some]
  repeat (go_big_quiet_step (fail))
  refine wpQuiet_nil ?_
  go_wp2_with fail
  have hn9 : Blk ((w.alloc (.cells #[.int .i64 (l k).owners, .int .i64 (l k).seq, .int .i64 (l k).first, .int .i64 (l k).words, .int .i64 (l k).depth] 95)).drew) w.heap.size 95 #[.int .i64 (l k).owners, .int .i64 (l k).seq, .int .i64 (l k).first, .int .i64 (l k).words, .int .i64 (l k).depth] := Blk.new w _ _
  obtain ⟨sb, hsb⟩ : ∃ sb, w.heap.size = sb := ⟨_, rfl⟩
  have hsb0 : base ≤ sb := hsb ▸ SZ.out
  have hb9 := hbd.alloc (Nat.le_refl _) (.cells #[.int .i64 (l k).owners, .int .i64 (l k).seq, .int .i64 (l k).first, .int .i64 (l k).words, .int .i64 (l k).depth] 95)
  refine behind_normal ⟨(Below w.heap.size w), fun W h => h, hb9, ?_⟩
  refine Phased.end_ ?_
  have hne5 : Nonempty (Held (fun W => W = ((w.alloc (.cells #[.int .i64 (l k).owners, .int .i64 (l k).seq, .int .i64 (l k).first, .int .i64 (l k).words, .int .i64 (l k).depth] 95)).drew))) := ⟨⟨_, rfl⟩⟩
  simp only [pick, List.map_cons, List.map_nil, List.getElem?_cons_zero, List.getElem?_cons_succ, Option.getD_some]
  repeat (go_big_quiet_step (fail))
  refine wpQuiet_nil ?_
  simp only [hsb] at hn9 ⊢
  have ORD2 := Lib.hid (show f ≠ hb ∧ hb < base ∧ f < base ∧ rl < base ∧ rl ≠ f ∧ qg < base ∧ qg ≠ f ∧ base ≤ sb from by have o_ := ORD1.out; omega)
  clear hb9 hne5 hbd hne p0 p3 s0 s1 s2 s3 s4
  have ee : Ex (fun _ => False) w ((w.alloc (.cells #[.int .i64 (l k).owners, .int .i64 (l k).seq, .int .i64 (l k).first, .int .i64 (l k).words, .int .i64 (l k).depth] 95)).drew) := ((Ex.refl _ w).alloc _).drew
  have B_3 := Lib.hid (B0.out.ex ee (fun h => h))
  have R_3 := Lib.hid (R0.out.ex ee (fun h => h))
  have S_3 := Lib.hid (S0.out.ex ee (fun h => h))
  have X_3 := Lib.hid (X0.out.ex ee (fun b_ h_ => h_.elim))
  have P_3 := Lib.hid (P0.out.ex ee (fun h => h))
  have D_3 := Lib.hid (hn9)
  clear ee B0 R0 S0 X0 P0 hn9 hsb0
  generalize ((w.alloc (.cells #[.int .i64 (l k).owners, .int .i64 (l k).seq, .int .i64 (l k).first, .int .i64 (l k).words, .int .i64 (l k).depth] 95)).drew) = w1 at *
  have d1 : w1.cell? ⟨sb, 1, none⟩ = some (.int .i64 (q : Int)) := by rw [← HQ.out]; exact D_3.out.cell 1
  have kq0 : (0 : Int) ≤ (q : Int) := by omega
  have kq1 : (q : Int) < (ws.length : Int) := by have := HIN.out; omega
  have k1 : decide ((q : Int) < 0) = false := decide_eq_false (by omega)
  have k2 : decide ((q : Int) ≥ (ws.length : Int)) = false := decide_eq_false (by omega)
  have Bq0 := (B_3.out).cell 0
  have Bq2 := (B_3.out).cell 2
  have Bq10 := (B_3.out).cell 10
  simp only [List.getElem?_toArray, List.getElem?_cons_succ, List.getElem?_cons_zero] at Bq0 Bq2 Bq10
  have Bf10 := (B_3.out).frozen 10
  have hst := HST.out
  go_upto_region 8 with fail
  clear d1 Bq0 Bq2 Bq10 Bf10
  have bb := (B_3.out.set_ 10 (.int .i64 (steps + 1)))
  simp only [List.setIfInBounds_toArray, List.set_cons_succ, List.set_cons_zero] at bb
  have BB := Lib.hid bb
  clear bb
  have ee : Ex (fun k => k = f) w1 (w1.setCell ⟨f, 10, none⟩ (.int .i64 (steps + 1))) := ((Ex.refl (fun k => k = f) w1).setCell (q := ⟨f, 10, none⟩) (.inl rfl) (.int .i64 (steps + 1)))
  have R_4 := Lib.hid (R_3.out.ex ee (by have o_ := ORD2.out; omega))
  have S_4 := Lib.hid (S_3.out.ex ee (by have o_ := ORD2.out; omega))
  have X_4 := Lib.hid (X_3.out.ex ee (fun b_ h_ => by have o_ := ORD2.out; have h_ : b_ = f := h_; first | omega | (show _ ∨ _; omega)))
  have P_4 := Lib.hid (P_3.out.ex ee (by have o_ := ORD2.out; omega))
  have D_4 := Lib.hid (D_3.out.ex ee (by have o_ := ORD2.out; omega))
  have B_4 := Lib.hid (BB.out)
  clear ee B_3 R_3 S_3 X_3 P_3 D_3 BB
  generalize (w1.setCell ⟨f, 10, none⟩ (.int .i64 (steps + 1))) = w3 at *
  have hn1 := HN1.out
  have kl : ((k : Int) == (n : Int) - 1) = true := beq_iff_eq.2 HL.out
  have hne : Nonempty (Held (fun W => W = w3.drew)) := ⟨⟨_, rfl⟩⟩
  have p0 : ∀ y : Held (fun W => W = w3.drew), y.w.cell? ⟨f, 0, none⟩ = some (.slice (some ⟨rl, 0, none⟩) n cl) := fun y => by rw [y.ok]; exact B_4.out.cell 0
  have p3 : ∀ y : Held (fun W => W = w3.drew), y.w.cell? ⟨f, 3, none⟩ = some (.int .i64 (k : Int)) := fun y => by rw [y.ok]; exact B_4.out.cell 3
  refine drawn_bars (S := fun _ => True) [] [0, 1, 2, 3, 4, 5, 6, 7, 8, 9, 10, 11] (by kernel_rfl) (by kernel_rfl) (by kernel_rfl) rfl trivial ?_
  refine Phased.end_ ?_
  simp only [pick, List.map_cons, List.map_nil, List.getElem?_cons_zero, List.getElem?_cons_succ, Option.getD_some]
  repeat (go_big_quiet_step (fail))
  refine wpQuiet_nil ?_
  clear hne p0 p3
  have ee : Ex (fun _ => False) w3 w3.drew := (Ex.refl _ w3).drew
  have B_5 := Lib.hid (B_4.out.ex ee (fun h => h))
  have R_5 := Lib.hid (R_4.out.ex ee (fun h => h))
  have S_5 := Lib.hid (S_4.out.ex ee (fun h => h))
  have X_5 := Lib.hid (X_4.out.ex ee (fun b_ h_ => h_.elim))
  have P_5 := Lib.hid (P_4.out.ex ee (fun h => h))
  have D_5 := Lib.hid (D_4.out.ex ee (fun h => h))
  clear ee B_4 R_4 S_4 X_4 P_4 D_4
  generalize w3.drew = w4 at *
  have Bq0 := (B_5.out).cell 0
  have Bq2 := (B_5.out).cell 2
  simp only [List.getElem?_toArray, List.getElem?_cons_succ, List.getElem?_cons_zero] at Bq0 Bq2
  go_upto_region 31 with fail
  have HRG := Lib.hid (HFIT.out q)
  have kz2 : IntKind.u64.wrap ((nth ws q).tdiv 2) = nth ws q / 2 := by rw [Int.tdiv_eq_ediv_of_nonneg HRG.out.1]; exact u64_wrap_in (by have := HRG.out; omega)
  have hword := R_5.out.word HIN.out
  have HWORD := Lib.hid hword
  clear hword
  generalize nth ws q = z at *
  generalize hgg : nth gl k = gg at *
  have HGG := Lib.hid hgg
  clear hgg
  have ke : (z / 2 == gg) = true := beq_iff_eq.2 HK2.out
  have kne : (z / 2 != gg) = false := by simp only [bne, ke, Bool.not_true]
  clear Bq0 Bq2
  have hne : Nonempty (Held (fun W => W = w4.drew)) := ⟨⟨_, rfl⟩⟩
  have p3 : ∀ y : Held (fun W => W = w4.drew), y.w.cell? ⟨f, 3, none⟩ = some (.int .i64 (k : Int)) := fun y => by rw [y.ok]; exact B_5.out.cell 3
  have p6 : ∀ y : Held (fun W => W = w4.drew), y.w.cell? ⟨f, 6, none⟩ = some (.slice (some ⟨qg, 0, none⟩) n cg) := fun y => by rw [y.ok]; exact B_5.out.cell 6
  have pw : ∀ y : Held (fun W => W = w4.drew), y.w.cell? ⟨hb, q, none⟩ = some (.int .u64 z) := fun y => by rw [y.ok]; exact HWORD.out
  have pg : ∀ y : Held (fun W => W = w4.drew), y.w.cell? ⟨qg, k, none⟩ = some (.int .u64 gg) := fun y => by rw [y.ok]; exact by rw [← HGG.out]; exact P_5.out.at_ k (by rw [GL.out]; exact KN.out)
  refine drawn_bars (S := fun _ => True) [] [0, 1, 2, 3, 4, 5, 6, 7, 8, 9, 10, 11, 12, 13, 14, 15] (by kernel_rfl) (by kernel_rfl) (by kernel_rfl) rfl trivial ?_
  refine Phased.end_ ?_
  simp only [pick, List.map_cons, List.map_nil, List.getElem?_cons_zero, List.getElem?_cons_succ, Option.getD_some]
  repeat (go_big_quiet_step (fail))
  refine wpQuiet_nil ?_
  clear hne p3 p6 pw pg
  have ee : Ex (fun _ => False) w4 w4.drew := (Ex.refl _ w4).drew
  have B_6 := Lib.hid (B_5.out.ex ee (fun h => h))
  have R_6 := Lib.hid (R_5.out.ex ee (fun h => h))
  have S_6 := Lib.hid (S_5.out.ex ee (fun h => h))
  have X_6 := Lib.hid (X_5.out.ex ee (fun b_ h_ => h_.elim))
  have P_6 := Lib.hid (P_5.out.ex ee (fun h => h))
  have D_6 := Lib.hid (D_5.out.ex ee (fun h => h))
  clear ee B_5 R_5 S_5 X_5 P_5 D_5
  generalize w4.drew = w5 at *
  clear HWORD
  have hk1 := HK1.out
  have Bq0 := (B_6.out).cell 0
  have Bq3 := (B_6.out).cell 3
  have Bq9 := (B_6.out).cell 9
  simp only [List.getElem?_toArray, List.getElem?_cons_succ, List.getElem?_cons_zero] at Bq0 Bq3 Bq9
  have Bf3 := (B_6.out).frozen 3
  have Bf9 := (B_6.out).frozen 9
  go_wp2_with fail
  clear Bq0 Bq3 Bq9 Bf3 Bf9
  have bb := (((B_6.out.set_ 3 (.int .i64 ((k : Int) + 1))).set_ 3 (.int .i64 0)).set_ 9 (.int .i64 1))
  simp only [List.setIfInBounds_toArray, List.set_cons_succ, List.set_cons_zero] at bb
  have BB := Lib.hid bb
  clear bb
  have ee : Ex (fun k => k = f) w5 (((w5.setCell ⟨f, 3, none⟩ (.int .i64 ((k : Int) + 1))).setCell ⟨f, 3, none⟩ (.int .i64 0)).setCell ⟨f, 9, none⟩ (.int .i64 1)) := ((((Ex.refl (fun k => k = f) w5).setCell (q := ⟨f, 3, none⟩) (.inl rfl) (.int .i64 ((k : Int) + 1))).setCell (q := ⟨f, 3, none⟩) (.inl rfl) (.int .i64 0)).setCell (q := ⟨f, 9, none⟩) (.inl rfl) (.int .i64 1))
  have R_7 := Lib.hid (R_6.out.ex ee (by have o_ := ORD2.out; omega))
  have S_7 := Lib.hid (S_6.out.ex ee (by have o_ := ORD2.out; omega))
  have X_7 := Lib.hid (X_6.out.ex ee (fun b_ h_ => by have o_ := ORD2.out; have h_ : b_ = f := h_; first | omega | (show _ ∨ _; omega)))
  have P_7 := Lib.hid (P_6.out.ex ee (by have o_ := ORD2.out; omega))
  have D_7 := Lib.hid (D_6.out.ex ee (by have o_ := ORD2.out; omega))
  have B_7 := Lib.hid (BB.out)
  clear ee B_6 R_6 S_6 X_6 P_6 D_6 BB
  first | (refine bodyPost_ret (results_none rfl _ _ _) rfl ?_) | go_end0
  exact ⟨rfl, B_7.out, X_7.out⟩
set_option maxRecDepth 100000 in
set_option maxHeartbeats 4000000 in
theorem RS_3again (base f hb rl n cl : Nat) (ws : List Int) (l : Nat → Spot) (T N had begun steps : Int) (k : Nat) (vg vw : Value) (qg cg : Nat) (gl : List Int) (w : World) (ho : Blk w f 49 (rcs rl n cl T 3 (k : Int) N had (.slice (some ⟨qg, 0, none⟩) n cg) vw begun 0 steps)) (hs : SpsIn w rl n l) (hr : URow w hb ws)
    (ne : f ≠ hb ∧ hb < base ∧ f < base ∧ rl < base ∧ rl ≠ f) (hz : base ≤ w.heap.size) (hn : 1 ≤ n ∧ n ≤ 64) (hR : allR l n = true) (hst : 0 ≤ steps ∧ steps ≤ 1099511627776) (hkn : k < n) (hp : IntsIn w .u64 qg cg gl) (hgl : gl.length = n) (nq : qg < base ∧ qg ≠ f) (q : Nat) (hq : (l k).seq = (q : Int)) (hin : q < ws.length) (hk2 : nth ws q / 2 ≠ nth gl k) (hl : ¬ had + 1 = T) (hfit : ∀ i, 0 ≤ nth ws i ∧ nth ws i ≤ 18446744073709551615) (hhad : 0 ≤ had ∧ had ≤ 16) :
    Calls Try.prog 16 #[.pointer (some ⟨f, 0, none⟩), .slice (some ⟨hb, 0, none⟩) ws.length ws.length] w fun e w' => e = .returned (.tuple #[]) ∧ Blk w' f 49 (rcs rl n cl T 1 0 N (had + 1) (.slice (some ⟨qg, 0, none⟩) n cg) vw begun 0 (steps + 1)) ∧ Ex (fun k => k = f) w w' := by
  have P0 := Lib.hid hp
  have GL := Lib.hid hgl
  have NE2 := Lib.hid nq
  clear hp hgl
  have B0 := Lib.hid (show Blk w f 49 _ from ho)
  have R0 := Lib.hid hr
  have S0 := Lib.hid hs
  have X0 := Lib.hid (Ex.refl (fun k => k = f) w)
  have ORD := Lib.hid ne
  have SZ := Lib.hid hz
  have HNN := Lib.hid hn
  have HRR := Lib.hid hR
  have KN := Lib.hid hkn
  unfold rcs at B0
  have HQ := Lib.hid hq
  have HIN := Lib.hid hin
  have HK2 := Lib.hid hk2
  have HL := Lib.hid hl
  have HFIT := Lib.hid hfit
  have HHAD := Lib.hid hhad
  have HST := Lib.hid (show wrap64 (steps + 1) = steps + 1 from wrap64_in _ (by omega))
  have HN1 := Lib.hid (show wrap64 ((n : Int) - 1) = (n : Int) - 1 from wrap64_in _ (by omega))
  have HK1 := Lib.hid (show wrap64 ((k : Int) + 1) = (k : Int) + 1 from wrap64_in _ (by omega))
  have i0 : (0 : Int) ≤ (k : Int) := by omega
  have i1 : (k : Int) < (n : Int) := by omega
  clear ho hr hs ne hz hn hR hst hkn hq hin hk2 hl hfit hhad
  clear nq
  have ORD1 := Lib.hid (show f ≠ hb ∧ hb < base ∧ f < base ∧ rl < base ∧ rl ≠ f ∧ qg < base ∧ qg ≠ f from by have o_ := ORD.out; have n2 := NE2.out; omega)
  have Bq0 := (B0.out).cell 0
  have Bq9 := (B0.out).cell 9
  simp only [List.getElem?_toArray, List.getElem?_cons_succ, List.getElem?_cons_zero] at Bq0 Bq9
  go_enter Try.func16, Try.ntmps16
  go_upto_region 1 with fail
  clear Bq0 Bq9
  have hne : Nonempty (Held (Below w.heap.size w)) := ⟨⟨w, Below.refl _ _⟩⟩
  have p0 : ∀ y : Held (Below w.heap.size w), y.w.cell? ⟨f, 0, none⟩ = some (.slice (some ⟨rl, 0, none⟩) n cl) := fun y => (B0.out.bl y.ok).cell 0
  have p3 : ∀ y : Held (Below w.heap.size w), y.w.cell? ⟨f, 3, none⟩ = some (.int .i64 (k : Int)) := fun y => (B0.out.bl y.ok).cell 3
  have s0 : ∀ y : Held (Below w.heap.size w), y.w.cell? ⟨rl, k * 5, none⟩ = some (.int .i64 (l k).owners) := fun y => (S0.out.bl y.ok).cells k KN.out 0 (by decide)
  have s1 : ∀ y : Held (Below w.heap.size w), y.w.cell? ⟨rl, k * 5 + 1, none⟩ = some (.int .i64 (l k).seq) := fun y => (S0.out.bl y.ok).cells k KN.out 1 (by decide)
  have s2 : ∀ y : Held (Below w.heap.size w), y.w.cell? ⟨rl, k * 5 + 2, none⟩ = some (.int .i64 (l k).first) := fun y => (S0.out.bl y.ok).cells k KN.out 2 (by decide)
  have s3 : ∀ y : Held (Below w.heap.size w), y.w.cell? ⟨rl, k * 5 + 3, none⟩ = some (.int .i64 (l k).words) := fun y => (S0.out.bl y.ok).cells k KN.out 3 (by decide)
  have s4 : ∀ y : Held (Below w.heap.size w), y.w.cell? ⟨rl, k * 5 + 4, none⟩ = some (.int .i64 (l k).depth) := fun y => (S0.out.bl y.ok).cells k KN.out 4 (by decide)
  refine drawn_bars (S := (Below w.heap.size w)) [([0, 1, 2, 3, 4, 5, 6, 7, 8, 9], 10), ([], 11)] [] (by kernel_rfl) (by kernel_rfl) (by kernel_rfl) rfl (Below.refl _ _).drew ?_
  refine Phased.go ?_
  simp only [pick, List.map_cons, List.map_nil, List.getElem?_cons_zero, List.getElem?_cons_succ, Option.getD_some]
  repeat (go_big_quiet_step (fail))
  refine wpQuiet_nil ?_
  have hbd : Below w.heap.size w w.drew := (Below.refl _ _).drew
  go_wp2_with fail
  refine behind_normal ⟨(Below w.heap.size w), fun W h => h, hbd.alloc (Nat.le_refl _) _, ?_⟩
  refine Phased.go ?_
  simp only [pick, List.map_cons, List.map_nil, List.getElem?_cons_zero, List.getElem?_cons_succ, Option.getD_some]
  repeat (go_big_quiet_step (fail))
  refine wpQuiet_nil ?_
  go_wp2_with fail
  have hn9 : Blk ((w.alloc (.cells #[.int .i64 (l k).owners, .int .i64 (l k).seq, .int .i64 (l k).first, .int .i64 (l k).words, .int .i64 (l k).depth] 95)).drew) w.heap.size 95 #[.int .i64 (l k).owners, .int .i64 (l k).seq, .int .i64 (l k).first, .int .i64 (l k).words, .int .i64 (l k).depth] := Blk.new w _ _
  obtain ⟨sb, hsb⟩ : ∃ sb, w.heap.size = sb := ⟨_, rfl⟩
  have hsb0 : base ≤ sb := hsb ▸ SZ.out
  have hb9 := hbd.alloc (Nat.le_refl _) (.cells #[.int .i64 (l k).owners, .int .i64 (l k).seq, .int .i64 (l k).first, .int .i64 (l k).words, .int .i64 (l k).depth] 95)
  refine behind_normal ⟨(Below w.heap.size w), fun W h => h, hb9, ?_⟩
  refine Phased.end_ ?_
  have hne5 : Nonempty (Held (fun W => W = ((w.alloc (.cells #[.int .i64 (l k).owners, .int .i64 (l k).seq, .int .i64 (l k).first, .int .i64 (l k).words, .int .i64 (l k).depth] 95)).drew))) := ⟨⟨_, rfl⟩⟩
  simp only [pick, List.map_cons, List.map_nil, List.getElem?_cons_zero, List.getElem?_cons_succ, Option.getD_some]
  repeat (go_big_quiet_step (fail))
  refine wpQuiet_nil ?_
  simp only [hsb] at hn9 ⊢
  have ORD2 := Lib.hid (show f ≠ hb ∧ hb < base ∧ f < base ∧ rl < base ∧ rl ≠ f ∧ qg < base ∧ qg ≠ f ∧ base ≤ sb from by have o_ := ORD1.out; omega)
  clear hb9 hne5 hbd hne p0 p3 s0 s1 s2 s3 s4
  have ee : Ex (fun _ => False) w ((w.alloc (.cells #[.int .i64 (l k).owners, .int .i64 (l k).seq, .int .i64 (l k).first, .int .i64 (l k).words, .int .i64 (l k).depth] 95)).drew) := ((Ex.refl _ w).alloc _).drew
  have B_3 := Lib.hid (B0.out.ex ee (fun h => h))
  have R_3 := Lib.hid (R0.out.ex ee (fun h => h))
  have S_3 := Lib.hid (S0.out.ex ee (fun h => h))
  have X_3 := Lib.hid (X0.out.ex ee (fun b_ h_ => h_.elim))
  have P_3 := Lib.hid (P0.out.ex ee (fun h => h))
  have D_3 := Lib.hid (hn9)
  clear ee B0 R0 S0 X0 P0 hn9 hsb0
  generalize ((w.alloc (.cells #[.int .i64 (l k).owners, .int .i64 (l k).seq, .int .i64 (l k).first, .int .i64 (l k).words, .int .i64 (l k).depth] 95)).drew) = w1 at *
  have d1 : w1.cell? ⟨sb, 1, none⟩ = some (.int .i64 (q : Int)) := by rw [← HQ.out]; exact D_3.out.cell 1
  have kq0 : (0 : Int) ≤ (q : Int) := by omega
  have kq1 : (q : Int) < (ws.length : Int) := by have := HIN.out; omega
  have k1 : decide ((q : Int) < 0) = false := decide_eq_false (by omega)
  have k2 : decide ((q : Int) ≥ (ws.length : Int)) = false := decide_eq_false (by omega)
  have Bq0 := (B_3.out).cell 0
  have Bq2 := (B_3.out).cell 2
  have Bq10 := (B_3.out).cell 10
  simp only [List.getElem?_toArray, List.getElem?_cons_succ, List.getElem?_cons_zero] at Bq0 Bq2 Bq10
  have Bf10 := (B_3.out).frozen 10
  have hst := HST.out
  go_upto_region 8 with fail
  clear d1 Bq0 Bq2 Bq10 Bf10
  have bb := (B_3.out.set_ 10 (.int .i64 (steps + 1)))
  simp only [List.setIfInBounds_toArray, List.set_cons_succ, List.set_cons_zero] at bb
  have BB := Lib.hid bb
  clear bb
  have ee : Ex (fun k => k = f) w1 (w1.setCell ⟨f, 10, none⟩ (.int .i64 (steps + 1))) := ((Ex.refl (fun k => k = f) w1).setCell (q := ⟨f, 10, none⟩) (.inl rfl) (.int .i64 (steps + 1)))
  have R_4 := Lib.hid (R_3.out.ex ee (by have o_ := ORD2.out; omega))
  have S_4 := Lib.hid (S_3.out.ex ee (by have o_ := ORD2.out; omega))
  have X_4 := Lib.hid (X_3.out.ex ee (fun b_ h_ => by have o_ := ORD2.out; have h_ : b_ = f := h_; first | omega | (show _ ∨ _; omega)))
  have P_4 := Lib.hid (P_3.out.ex ee (by have o_ := ORD2.out; omega))
  have D_4 := Lib.hid (D_3.out.ex ee (by have o_ := ORD2.out; omega))
  have B_4 := Lib.hid (BB.out)
  clear ee B_3 R_3 S_3 X_3 P_3 D_3 BB
  generalize (w1.setCell ⟨f, 10, none⟩ (.int .i64 (steps + 1))) = w3 at *
  have hn1 := HN1.out
  obtain ⟨bl9, kl⟩ : ∃ b9 : Bool, ((k : Int) == (n : Int) - 1) = b9 := ⟨_, rfl⟩
  have hne : Nonempty (Held (fun W => W = w3.drew)) := ⟨⟨_, rfl⟩⟩
  have p0 : ∀ y : Held (fun W => W = w3.drew), y.w.cell? ⟨f, 0, none⟩ = some (.slice (some ⟨rl, 0, none⟩) n cl) := fun y => by rw [y.ok]; exact B_4.out.cell 0
  have p3 : ∀ y : Held (fun W => W = w3.drew), y.w.cell? ⟨f, 3, none⟩ = some (.int .i64 (k : Int)) := fun y => by rw [y.ok]; exact B_4.out.cell 3
  refine drawn_bars (S := fun _ => True) [] [0, 1, 2, 3, 4, 5, 6, 7, 8, 9, 10, 11] (by kernel_rfl) (by kernel_rfl) (by kernel_rfl) rfl trivial ?_
  refine Phased.end_ ?_
  simp only [pick, List.map_cons, List.map_nil, List.getElem?_cons_zero, List.getElem?_cons_succ, Option.getD_some]
  repeat (go_big_quiet_step (fail))
  refine wpQuiet_nil ?_
  clear hne p0 p3
  have ee : Ex (fun _ => False) w3 w3.drew := (Ex.refl _ w3).drew
  have B_5 := Lib.hid (B_4.out.ex ee (fun h => h))
  have R_5 := Lib.hid (R_4.out.ex ee (fun h => h))
  have S_5 := Lib.hid (S_4.out.ex ee (fun h => h))
  have X_5 := Lib.hid (X_4.out.ex ee (fun b_ h_ => h_.elim))
  have P_5 := Lib.hid (P_4.out.ex ee (fun h => h))
  have D_5 := Lib.hid (D_4.out.ex ee (fun h => h))
  clear ee B_4 R_4 S_4 X_4 P_4 D_4
  generalize w3.drew = w4 at *
  have Bq0 := (B_5.out).cell 0
  have Bq2 := (B_5.out).cell 2
  simp only [List.getElem?_toArray, List.getElem?_cons_succ, List.getElem?_cons_zero] at Bq0 Bq2
  go_upto_region 31 with fail
  have HRG := Lib.hid (HFIT.out q)
  have kz2 : IntKind.u64.wrap ((nth ws q).tdiv 2) = nth ws q / 2 := by rw [Int.tdiv_eq_ediv_of_nonneg HRG.out.1]; exact u64_wrap_in (by have := HRG.out; omega)
  have hword := R_5.out.word HIN.out
  have HWORD := Lib.hid hword
  clear hword
  generalize nth ws q = z at *
  generalize hgg : nth gl k = gg at *
  have HGG := Lib.hid hgg
  clear hgg
  have ke : (z / 2 == gg) = false := beq_eq_false_iff_ne.2 HK2.out
  have kne : (z / 2 != gg) = true := by simp only [bne, ke, Bool.not_false]
  clear Bq0 Bq2
  have hne : Nonempty (Held (fun W => W = w4.drew)) := ⟨⟨_, rfl⟩⟩
  have p3 : ∀ y : Held (fun W => W = w4.drew), y.w.cell? ⟨f, 3, none⟩ = some (.int .i64 (k : Int)) := fun y => by rw [y.ok]; exact B_5.out.cell 3
  have p6 : ∀ y : Held (fun W => W = w4.drew), y.w.cell? ⟨f, 6, none⟩ = some (.slice (some ⟨qg, 0, none⟩) n cg) := fun y => by rw [y.ok]; exact B_5.out.cell 6
  have pw : ∀ y : Held (fun W => W = w4.drew), y.w.cell? ⟨hb, q, none⟩ = some (.int .u64 z) := fun y => by rw [y.ok]; exact HWORD.out
  have pg : ∀ y : Held (fun W => W = w4.drew), y.w.cell? ⟨qg, k, none⟩ = some (.int .u64 gg) := fun y => by rw [y.ok]; exact by rw [← HGG.out]; exact P_5.out.at_ k (by rw [GL.out]; exact KN.out)
  refine drawn_bars (S := fun _ => True) [] [0, 1, 2, 3, 4, 5, 6, 7, 8, 9, 10, 11, 12, 13, 14, 15] (by kernel_rfl) (by kernel_rfl) (by kernel_rfl) rfl trivial ?_
  refine Phased.end_ ?_
  simp only [pick, List.map_cons, List.map_nil, List.getElem?_cons_zero, List.getElem?_cons_succ, Option.getD_some]
  repeat (go_big_quiet_step (fail))
  refine wpQuiet_nil ?_
  clear hne p3 p6 pw pg
  have ee : Ex (fun _ => False) w4 w4.drew := (Ex.refl _ w4).drew
  have B_6 := Lib.hid (B_5.out.ex ee (fun h => h))
  have R_6 := Lib.hid (R_5.out.ex ee (fun h => h))
  have S_6 := Lib.hid (S_5.out.ex ee (fun h => h))
  have X_6 := Lib.hid (X_5.out.ex ee (fun b_ h_ => h_.elim))
  have P_6 := Lib.hid (P_5.out.ex ee (fun h => h))
  have D_6 := Lib.hid (D_5.out.ex ee (fun h => h))
  clear ee B_5 R_5 S_5 X_5 P_5 D_5
  generalize w4.drew = w5 at *
  clear HWORD
  have hk1 := HK1.out
  have kh1 : wrap64 (had + 1) = had + 1 := wrap64_in _ (by have := HHAD.out; omega)
  have Bq0 := (B_6.out).cell 0
  have Bq2 := (B_6.out).cell 2
  have Bq3 := (B_6.out).cell 3
  have Bq5 := (B_6.out).cell 5
  simp only [List.getElem?_toArray, List.getElem?_cons_succ, List.getElem?_cons_zero] at Bq0 Bq2 Bq3 Bq5
  have Bf2 := (B_6.out).frozen 2
  have Bf3 := (B_6.out).frozen 3
  have Bf5 := (B_6.out).frozen 5
  go_upto_region 35 with fail
  clear Bq0 Bq2 Bq3 Bq5 Bf2 Bf3 Bf5
  have bb := (((B_6.out.set_ 5 (.int .i64 (had + 1))).set_ 2 (.int .i64 1)).set_ 3 (.int .i64 0))
  simp only [List.setIfInBounds_toArray, List.set_cons_succ, List.set_cons_zero] at bb
  have BB := Lib.hid bb
  clear bb
  have ee : Ex (fun k => k = f) w5 (((w5.setCell ⟨f, 5, none⟩ (.int .i64 (had + 1))).setCell ⟨f, 2, none⟩ (.int .i64 1)).setCell ⟨f, 3, none⟩ (.int .i64 0)) := ((((Ex.refl (fun k => k = f) w5).setCell (q := ⟨f, 5, none⟩) (.inl rfl) (.int .i64 (had + 1))).setCell (q := ⟨f, 2, none⟩) (.inl rfl) (.int .i64 1)).setCell (q := ⟨f, 3, none⟩) (.inl rfl) (.int .i64 0))
  have R_7 := Lib.hid (R_6.out.ex ee (by have o_ := ORD2.out; omega))
  have S_7 := Lib.hid (S_6.out.ex ee (by have o_ := ORD2.out; omega))
  have X_7 := Lib.hid (X_6.out.ex ee (fun b_ h_ => by have o_ := ORD2.out; have h_ : b_ = f := h_; first | omega | (show _ ∨ _; omega)))
  have P_7 := Lib.hid (P_6.out.ex ee (by have o_ := ORD2.out; omega))
  have D_7 := Lib.hid (D_6.out.ex ee (by have o_ := ORD2.out; omega))
  have B_7 := Lib.hid (BB.out)
  clear ee B_6 R_6 S_6 X_6 P_6 D_6 BB
  generalize (((w5.setCell ⟨f, 5, none⟩ (.int .i64 (had + 1))).setCell ⟨f, 2, none⟩ (.int .i64 1)).setCell ⟨f, 3, none⟩ (.int .i64 0)) = w6 at *
  have kh : (had + 1 == T) = false := beq_eq_false_iff_ne.2 HL.out
  have hne : Nonempty (Held (fun W => W = w6.drew)) := ⟨⟨_, rfl⟩⟩
  have p1 : ∀ y : Held (fun W => W = w6.drew), y.w.cell? ⟨f, 1, none⟩ = some (.int .i64 T) := fun y => by rw [y.ok]; exact B_7.out.cell 1
  have p5 : ∀ y : Held (fun W => W = w6.drew), y.w.cell? ⟨f, 5, none⟩ = some (.int .i64 (had + 1)) := fun y => by rw [y.ok]; exact B_7.out.cell 5
  refine drawn_bars (S := fun _ => True) [] [0, 1, 2, 3, 4, 5, 6, 7, 8] (by kernel_rfl) (by kernel_rfl) (by kernel_rfl) rfl trivial ?_
  refine Phased.end_ ?_
  simp only [pick, List.map_cons, List.map_nil, List.getElem?_cons_zero, List.getElem?_cons_succ, Option.getD_some]
  repeat (go_big_quiet_step (fail))
  refine wpQuiet_nil ?_
  clear hne p1 p5
  have ee : Ex (fun _ => False) w6 w6.drew := (Ex.refl _ w6).drew
  have B_8 := Lib.hid (B_7.out.ex ee (fun h => h))
  have R_8 := Lib.hid (R_7.out.ex ee (fun h => h))
  have S_8 := Lib.hid (S_7.out.ex ee (fun h => h))
  have X_8 := Lib.hid (X_7.out.ex ee (fun b_ h_ => h_.elim))
  have P_8 := Lib.hid (P_7.out.ex ee (fun h => h))
  have D_8 := Lib.hid (D_7.out.ex ee (fun h => h))
  clear ee B_7 R_7 S_7 X_7 P_7 D_7
  generalize w6.drew = w7 at *
  go_wp2_with fail
  first | (refine bodyPost_ret (results_none rfl _ _ _) rfl ?_) | go_end0
  exact ⟨rfl, B_8.out, X_8.out⟩
set_option maxRecDepth 100000 in
set_option maxHeartbeats 4000000 in
theorem RS_3spent (base f hb rl n cl : Nat) (ws : List Int) (l : Nat → Spot) (T N had begun steps : Int) (k : Nat) (vg vw : Value) (qg cg : Nat) (gl : List Int) (w : World) (ho : Blk w f 49 (rcs rl n cl T 3 (k : Int) N had (.slice (some ⟨qg, 0, none⟩) n cg) vw begun 0 steps)) (hs : SpsIn w rl n l) (hr : URow w hb ws)
    (ne : f ≠ hb ∧ hb < base ∧ f < base ∧ rl < base ∧ rl ≠ f) (hz : base ≤ w.heap.size) (hn : 1 ≤ n ∧ n ≤ 64) (hR : allR l n = true) (hst : 0 ≤ steps ∧ steps ≤ 1099511627776) (hkn : k < n) (hp : IntsIn w .u64 qg cg gl) (hgl : gl.length = n) (nq : qg < base ∧ qg ≠ f) (q : Nat) (hq : (l k).seq = (q : Int)) (hin : q < ws.length) (hk2 : nth ws q / 2 ≠ nth gl k) (hl : had + 1 = T) (hfit : ∀ i, 0 ≤ nth ws i ∧ nth ws i ≤ 18446744073709551615) (hhad : 0 ≤ had ∧ had ≤ 16) :
    Calls Try.prog 16 #[.pointer (some ⟨f, 0, none⟩), .slice (some ⟨hb, 0, none⟩) ws.length ws.length] w fun e w' => e = .returned (.tuple #[]) ∧ Blk w' f 49 (rcs rl n cl T 1 0 N (had + 1) (.slice (some ⟨qg, 0, none⟩) n cg) vw begun 2 (steps + 1)) ∧ Ex (fun k => k = f) w w' := by
  have P0 := Lib.hid hp
  have GL := Lib.hid hgl
  have NE2 := Lib.hid nq
  clear hp hgl
  have B0 := Lib.hid (show Blk w f 49 _ from ho)
  have R0 := Lib.hid hr
  have S0 := Lib.hid hs
  have X0 := Lib.hid (Ex.refl (fun k => k = f) w)
  have ORD := Lib.hid ne
  have SZ := Lib.hid hz
  have HNN := Lib.hid hn
  have HRR := Lib.hid hR
  have KN := Lib.hid hkn
  unfold rcs at B0
  have HQ := Lib.hid hq
  have HIN := Lib.hid hin
  have HK2 := Lib.hid hk2
  have HL := Lib.hid hl
  have HFIT := Lib.hid hfit
  have HHAD := Lib.hid hhad
  have HST := Lib.hid (show wrap64 (steps + 1) = steps + 1 from wrap64_in _ (by omega))
  have HN1 := Lib.hid (show wrap64 ((n : Int) - 1) = (n : Int) - 1 from wrap64_in _ (by omega))
  have HK1 := Lib.hid (show wrap64 ((k : Int) + 1) = (k : Int) + 1 from wrap64_in _ (by omega))
  have i0 : (0 : Int) ≤ (k : Int) := by omega
  have i1 : (k : Int) < (n : Int) := by omega
  clear ho hr hs ne hz hn hR hst hkn hq hin hk2 hl hfit hhad
  clear nq
  have ORD1 := Lib.hid (show f ≠ hb ∧ hb < base ∧ f < base ∧ rl < base ∧ rl ≠ f ∧ qg < base ∧ qg ≠ f from by have o_ := ORD.out; have n2 := NE2.out; omega)
  have Bq0 := (B0.out).cell 0
  have Bq9 := (B0.out).cell 9
  simp only [List.getElem?_toArray, List.getElem?_cons_succ, List.getElem?_cons_zero] at Bq0 Bq9
  go_enter Try.func16, Try.ntmps16
  go_upto_region 1 with fail
  clear Bq0 Bq9
  have hne : Nonempty (Held (Below w.heap.size w)) := ⟨⟨w, Below.refl _ _⟩⟩
  have p0 : ∀ y : Held (Below w.heap.size w), y.w.cell? ⟨f, 0, none⟩ = some (.slice (some ⟨rl, 0, none⟩) n cl) := fun y => (B0.out.bl y.ok).cell 0
  have p3 : ∀ y : Held (Below w.heap.size w), y.w.cell? ⟨f, 3, none⟩ = some (.int .i64 (k : Int)) := fun y => (B0.out.bl y.ok).cell 3
  have s0 : ∀ y : Held (Below w.heap.size w), y.w.cell? ⟨rl, k * 5, none⟩ = some (.int .i64 (l k).owners) := fun y => (S0.out.bl y.ok).cells k KN.out 0 (by decide)
  have s1 : ∀ y : Held (Below w.heap.size w), y.w.cell? ⟨rl, k * 5 + 1, none⟩ = some (.int .i64 (l k).seq) := fun y => (S0.out.bl y.ok).cells k KN.out 1 (by decide)
  have s2 : ∀ y : Held (Below w.heap.size w), y.w.cell? ⟨rl, k * 5 + 2, none⟩ = some (.int .i64 (l k).first) := fun y => (S0.out.bl y.ok).cells k KN.out 2 (by decide)
  have s3 : ∀ y : Held (Below w.heap.size w), y.w.cell? ⟨rl, k * 5 + 3, none⟩ = some (.int .i64 (l k).words) := fun y => (S0.out.bl y.ok).cells k KN.out 3 (by decide)
  have s4 : ∀ y : Held (Below w.heap.size w), y.w.cell? ⟨rl, k * 5 + 4, none⟩ = some (.int .i64 (l k).depth) := fun y => (S0.out.bl y.ok).cells k KN.out 4 (by decide)
  refine drawn_bars (S := (Below w.heap.size w)) [([0, 1, 2, 3, 4, 5, 6, 7, 8, 9], 10), ([], 11)] [] (by kernel_rfl) (by kernel_rfl) (by kernel_rfl) rfl (Below.refl _ _).drew ?_
  refine Phased.go ?_
  simp only [pick, List.map_cons, List.map_nil, List.getElem?_cons_zero, List.getElem?_cons_succ, Option.getD_some]
  repeat (go_big_quiet_step (fail))
  refine wpQuiet_nil ?_
  have hbd : Below w.heap.size w w.drew := (Below.refl _ _).drew
  go_wp2_with fail
  refine behind_normal ⟨(Below w.heap.size w), fun W h => h, hbd.alloc (Nat.le_refl _) _, ?_⟩
  refine Phased.go ?_
  simp only [pick, List.map_cons, List.map_nil, List.getElem?_cons_zero, List.getElem?_cons_succ, Option.getD_some]
  repeat (go_big_quiet_step (fail))
  refine wpQuiet_nil ?_
  go_wp2_with fail
  have hn9 : Blk ((w.alloc (.cells #[.int .i64 (l k).owners, .int .i64 (l k).seq, .int .i64 (l k).first, .int .i64 (l k).words, .int .i64 (l k).depth] 95)).drew) w.heap.size 95 #[.int .i64 (l k).owners, .int .i64 (l k).seq, .int .i64 (l k).first, .int .i64 (l k).words, .int .i64 (l k).depth] := Blk.new w _ _
  obtain ⟨sb, hsb⟩ : ∃ sb, w.heap.size = sb := ⟨_, rfl⟩
  have hsb0 : base ≤ sb := hsb ▸ SZ.out
  have hb9 := hbd.alloc (Nat.le_refl _) (.cells #[.int .i64 (l k).owners, .int .i64 (l k).seq, .int .i64 (l k).first, .int .i64 (l k).words, .int .i64 (l k).depth] 95)
  refine behind_normal ⟨(Below w.heap.size w), fun W h => h, hb9, ?_⟩
  refine Phased.end_ ?_
  have hne5 : Nonempty (Held (fun W => W = ((w.alloc (.cells #[.int .i64 (l k).owners, .int .i64 (l k).seq, .int .i64 (l k).first, .int .i64 (l k).words, .int .i64 (l k).depth] 95)).drew))) := ⟨⟨_, rfl⟩⟩
  simp only [pick, List.map_cons, List.map_nil, List.getElem?_cons_zero, List.getElem?_cons_succ, Option.getD_some]
  repeat (go_big_quiet_step (fail))
  refine wpQuiet_nil ?_
  simp only [hsb] at hn9 ⊢
  have ORD2 := Lib.hid (show f ≠ hb ∧ hb < base ∧ f < base ∧ rl < base ∧ rl ≠ f ∧ qg < base ∧ qg ≠ f ∧ base ≤ sb from by have o_ := ORD1.out; omega)
  clear hb9 hne5 hbd hne p0 p3 s0 s1 s2 s3 s4
  have ee : Ex (fun _ => False) w ((w.alloc (.cells #[.int .i64 (l k).owners, .int .i64 (l k).seq, .int .i64 (l k).first, .int .i64 (l k).words, .int .i64 (l k).depth] 95)).drew) := ((Ex.refl _ w).alloc _).drew
  have B_3 := Lib.hid (B0.out.ex ee (fun h => h))
  have R_3 := Lib.hid (R0.out.ex ee (fun h => h))
  have S_3 := Lib.hid (S0.out.ex ee (fun h => h))
  have X_3 := Lib.hid (X0.out.ex ee (fun b_ h_ => h_.elim))
  have P_3 := Lib.hid (P0.out.ex ee (fun h => h))
  have D_3 := Lib.hid (hn9)
  clear ee B0 R0 S0 X0 P0 hn9 hsb0
  generalize ((w.alloc (.cells #[.int .i64 (l k).owners, .int .i64 (l k).seq, .int .i64 (l k).first, .int .i64 (l k).words, .int .i64 (l k).depth] 95)).drew) = w1 at *
  have d1 : w1.cell? ⟨sb, 1, none⟩ = some (.int .i64 (q : Int)) := by rw [← HQ.out]; exact D_3.out.cell 1
  have kq0 : (0 : Int) ≤ (q : Int) := by omega
  have kq1 : (q : Int) < (ws.length : Int) := by have := HIN.out; omega
  have k1 : decide ((q : Int) < 0) = false := decide_eq_false (by omega)
  have k2 : decide ((q : Int) ≥ (ws.length : Int)) = false := decide_eq_false (by omega)
  have Bq0 := (B_3.out).cell 0
  have Bq2 := (B_3.out).cell 2
  have Bq10 := (B_3.out).cell 10
  simp only [List.getElem?_toArray, List.getElem?_cons_succ, List.getElem?_cons_zero] at Bq0 Bq2 Bq10
  have Bf10 := (B_3.out).frozen 10
  have hst := HST.out
  go_upto_region 8 with fail
  clear d1 Bq0 Bq2 Bq10 Bf10
  have bb := (B_3.out.set_ 10 (.int .i64 (steps + 1)))
  simp only [List.setIfInBounds_toArray, List.set_cons_succ, List.set_cons_zero] at bb
  have BB := Lib.hid bb
  clear bb
  have ee : Ex (fun k => k = f) w1 (w1.setCell ⟨f, 10, none⟩ (.int .i64 (steps + 1))) := ((Ex.refl (fun k => k = f) w1).setCell (q := ⟨f, 10, none⟩) (.inl rfl) (.int .i64 (steps + 1)))
  have R_4 := Lib.hid (R_3.out.ex ee (by have o_ := ORD2.out; omega))
  have S_4 := Lib.hid (S_3.out.ex ee (by have o_ := ORD2.out; omega))
  have X_4 := Lib.hid (X_3.out.ex ee (fun b_ h_ => by have o_ := ORD2.out; have h_ : b_ = f := h_; first | omega | (show _ ∨ _; omega)))
  have P_4 := Lib.hid (P_3.out.ex ee (by have o_ := ORD2.out; omega))
  have D_4 := Lib.hid (D_3.out.ex ee (by have o_ := ORD2.out; omega))
  have B_4 := Lib.hid (BB.out)
  clear ee B_3 R_3 S_3 X_3 P_3 D_3 BB
  generalize (w1.setCell ⟨f, 10, none⟩ (.int .i64 (steps + 1))) = w3 at *
  have hn1 := HN1.out
  obtain ⟨bl9, kl⟩ : ∃ b9 : Bool, ((k : Int) == (n : Int) - 1) = b9 := ⟨_, rfl⟩
  have hne : Nonempty (Held (fun W => W = w3.drew)) := ⟨⟨_, rfl⟩⟩
  have p0 : ∀ y : Held (fun W => W = w3.drew), y.w.cell? ⟨f, 0, none⟩ = some (.slice (some ⟨rl, 0, none⟩) n cl) := fun y => by rw [y.ok]; exact B_4.out.cell 0
  have p3 : ∀ y : Held (fun W => W = w3.drew), y.w.cell? ⟨f, 3, none⟩ = some (.int .i64 (k : Int)) := fun y => by rw [y.ok]; exact B_4.out.cell 3
  refine drawn_bars (S := fun _ => True) [] [0, 1, 2, 3, 4, 5, 6, 7, 8, 9, 10, 11] (by kernel_rfl) (by kernel_rfl) (by kernel_rfl) rfl trivial ?_
  refine Phased.end_ ?_
  simp only [pick, List.map_cons, List.map_nil, List.getElem?_cons_zero, List.getElem?_cons_succ, Option.getD_some]
  repeat (go_big_quiet_step (fail))
  refine wpQuiet_nil ?_
  clear hne p0 p3
  have ee : Ex (fun _ => False) w3 w3.drew := (Ex.refl _ w3).drew
  have B_5 := Lib.hid (B_4.out.ex ee (fun h => h))
  have R_5 := Lib.hid (R_4.out.ex ee (fun h => h))
  have S_5 := Lib.hid (S_4.out.ex ee (fun h => h))
  have X_5 := Lib.hid (X_4.out.ex ee (fun b_ h_ => h_.elim))
  have P_5 := Lib.hid (P_4.out.ex ee (fun h => h))
  have D_5 := Lib.hid (D_4.out.ex ee (fun h => h))
  clear ee B_4 R_4 S_4 X_4 P_4 D_4
  generalize w3.drew = w4 at *
  have Bq0 := (B_5.out).cell 0
  have Bq2 := (B_5.out).cell 2
  simp only [List.getElem?_toArray, List.getElem?_cons_succ, List.getElem?_cons_zero] at Bq0 Bq2
  go_upto_region 31 with fail
  have HRG := Lib.hid (HFIT.out q)
  have kz2 : IntKind.u64.wrap ((nth ws q).tdiv 2) = nth ws q / 2 := by rw [Int.tdiv_eq_ediv_of_nonneg HRG.out.1]; exact u64_wrap_in (by have := HRG.out; omega)
  have hword := R_5.out.word HIN.out
  have HWORD := Lib.hid hword
  clear hword
  generalize nth ws q = z at *
  generalize hgg : nth gl k = gg at *
  have HGG := Lib.hid hgg
  clear hgg
  have ke : (z / 2 == gg) = false := beq_eq_false_iff_ne.2 HK2.out
  have kne : (z / 2 != gg) = true := by simp only [bne, ke, Bool.not_false]
  clear Bq0 Bq2
  have hne : Nonempty (Held (fun W => W = w4.drew)) := ⟨⟨_, rfl⟩⟩
  have p3 : ∀ y : Held (fun W => W = w4.drew), y.w.cell? ⟨f, 3, none⟩ = some (.int .i64 (k : Int)) := fun y => by rw [y.ok]; exact B_5.out.cell 3
  have p6 : ∀ y : Held (fun W => W = w4.drew), y.w.cell? ⟨f, 6, none⟩ = some (.slice (some ⟨qg, 0, none⟩) n cg) := fun y => by rw [y.ok]; exact B_5.out.cell 6
  have pw : ∀ y : Held (fun W => W = w4.drew), y.w.cell? ⟨hb, q, none⟩ = some (.int .u64 z) := fun y => by rw [y.ok]; exact HWORD.out
  have pg : ∀ y : Held (fun W => W = w4.drew), y.w.cell? ⟨qg, k, none⟩ = some (.int .u64 gg) := fun y => by rw [y.ok]; exact by rw [← HGG.out]; exact P_5.out.at_ k (by rw [GL.out]; exact KN.out)
  refine drawn_bars (S := fun _ => True) [] [0, 1, 2, 3, 4, 5, 6, 7, 8, 9, 10, 11, 12, 13, 14, 15] (by kernel_rfl) (by kernel_rfl) (by kernel_rfl) rfl trivial ?_
  refine Phased.end_ ?_
  simp only [pick, List.map_cons, List.map_nil, List.getElem?_cons_zero, List.getElem?_cons_succ, Option.getD_some]
  repeat (go_big_quiet_step (fail))
  refine wpQuiet_nil ?_
  clear hne p3 p6 pw pg
  have ee : Ex (fun _ => False) w4 w4.drew := (Ex.refl _ w4).drew
  have B_6 := Lib.hid (B_5.out.ex ee (fun h => h))
  have R_6 := Lib.hid (R_5.out.ex ee (fun h => h))
  have S_6 := Lib.hid (S_5.out.ex ee (fun h => h))
  have X_6 := Lib.hid (X_5.out.ex ee (fun b_ h_ => h_.elim))
  have P_6 := Lib.hid (P_5.out.ex ee (fun h => h))
  have D_6 := Lib.hid (D_5.out.ex ee (fun h => h))
  clear ee B_5 R_5 S_5 X_5 P_5 D_5
  generalize w4.drew = w5 at *
  clear HWORD
  have hk1 := HK1.out
  have kh1 : wrap64 (had + 1) = had + 1 := wrap64_in _ (by have := HHAD.out; omega)
  have Bq0 := (B_6.out).cell 0
  have Bq2 := (B_6.out).cell 2
  have Bq3 := (B_6.out).cell 3
  have Bq5 := (B_6.out).cell 5
  simp only [List.getElem?_toArray, List.getElem?_cons_succ, List.getElem?_cons_zero] at Bq0 Bq2 Bq3 Bq5
  have Bf2 := (B_6.out).frozen 2
  have Bf3 := (B_6.out).frozen 3
  have Bf5 := (B_6.out).frozen 5
  go_upto_region 35 with fail
  clear Bq0 Bq2 Bq3 Bq5 Bf2 Bf3 Bf5
  have bb := (((B_6.out.set_ 5 (.int .i64 (had + 1))).set_ 2 (.int .i64 1)).set_ 3 (.int .i64 0))
  simp only [List.setIfInBounds_toArray, List.set_cons_succ, List.set_cons_zero] at bb
  have BB := Lib.hid bb
  clear bb
  have ee : Ex (fun k => k = f) w5 (((w5.setCell ⟨f, 5, none⟩ (.int .i64 (had + 1))).setCell ⟨f, 2, none⟩ (.int .i64 1)).setCell ⟨f, 3, none⟩ (.int .i64 0)) := ((((Ex.refl (fun k => k = f) w5).setCell (q := ⟨f, 5, none⟩) (.inl rfl) (.int .i64 (had + 1))).setCell (q := ⟨f, 2, none⟩) (.inl rfl) (.int .i64 1)).setCell (q := ⟨f, 3, none⟩) (.inl rfl) (.int .i64 0))
  have R_7 := Lib.hid (R_6.out.ex ee (by have o_ := ORD2.out; omega))
  have S_7 := Lib.hid (S_6.out.ex ee (by have o_ := ORD2.out; omega))
  have X_7 := Lib.hid (X_6.out.ex ee (fun b_ h_ => by have o_ := ORD2.out; have h_ : b_ = f := h_; first | omega | (show _ ∨ _; omega)))
  have P_7 := Lib.hid (P_6.out.ex ee (by have o_ := ORD2.out; omega))
  have D_7 := Lib.hid (D_6.out.ex ee (by have o_ := ORD2.out; omega))
  have B_7 := Lib.hid (BB.out)
  clear ee B_6 R_6 S_6 X_6 P_6 D_6 BB
  generalize (((w5.setCell ⟨f, 5, none⟩ (.int .i64 (had + 1))).setCell ⟨f, 2, none⟩ (.int .i64 1)).setCell ⟨f, 3, none⟩ (.int .i64 0)) = w6 at *
  have kh : (had + 1 == T) = true := beq_iff_eq.2 HL.out
  have hne : Nonempty (Held (fun W => W = w6.drew)) := ⟨⟨_, rfl⟩⟩
  have p1 : ∀ y : Held (fun W => W = w6.drew), y.w.cell? ⟨f, 1, none⟩ = some (.int .i64 T) := fun y => by rw [y.ok]; exact B_7.out.cell 1
  have p5 : ∀ y : Held (fun W => W = w6.drew), y.w.cell? ⟨f, 5, none⟩ = some (.int .i64 (had + 1)) := fun y => by rw [y.ok]; exact B_7.out.cell 5
  refine drawn_bars (S := fun _ => True) [] [0, 1, 2, 3, 4, 5, 6, 7, 8] (by kernel_rfl) (by kernel_rfl) (by kernel_rfl) rfl trivial ?_
  refine Phased.end_ ?_
  simp only [pick, List.map_cons, List.map_nil, List.getElem?_cons_zero, List.getElem?_cons_succ, Option.getD_some]
  repeat (go_big_quiet_step (fail))
  refine wpQuiet_nil ?_
  clear hne p1 p5
  have ee : Ex (fun _ => False) w6 w6.drew := (Ex.refl _ w6).drew
  have B_8 := Lib.hid (B_7.out.ex ee (fun h => h))
  have R_8 := Lib.hid (R_7.out.ex ee (fun h => h))
  have S_8 := Lib.hid (S_7.out.ex ee (fun h => h))
  have X_8 := Lib.hid (X_7.out.ex ee (fun b_ h_ => h_.elim))
  have P_8 := Lib.hid (P_7.out.ex ee (fun h => h))
  have D_8 := Lib.hid (D_7.out.ex ee (fun h => h))
  clear ee B_7 R_7 S_7 X_7 P_7 D_7
  generalize w6.drew = w7 at *
  have Bq0 := (B_8.out).cell 0
  have Bq9 := (B_8.out).cell 9
  simp only [List.getElem?_toArray, List.getElem?_cons_succ, List.getElem?_cons_zero] at Bq0 Bq9
  have Bf9 := (B_8.out).frozen 9
  go_wp2_with fail
  clear Bq0 Bq9 Bf9
  have bb := (B_8.out.set_ 9 (.int .i64 2))
  simp only [List.setIfInBounds_toArray, List.set_cons_succ, List.set_cons_zero] at bb
  have BB := Lib.hid bb
  clear bb
  have ee : Ex (fun k => k = f) w7 (w7.setCell ⟨f, 9, none⟩ (.int .i64 2)) := ((Ex.refl (fun k => k = f) w7).setCell (q := ⟨f, 9, none⟩) (.inl rfl) (.int .i64 2))
  have R_9 := Lib.hid (R_8.out.ex ee (by have o_ := ORD2.out; omega))
  have S_9 := Lib.hid (S_8.out.ex ee (by have o_ := ORD2.out; omega))
  have X_9 := Lib.hid (X_8.out.ex ee (fun b_ h_ => by have o_ := ORD2.out; have h_ : b_ = f := h_; first | omega | (show _ ∨ _; omega)))
  have P_9 := Lib.hid (P_8.out.ex ee (by have o_ := ORD2.out; omega))
  have D_9 := Lib.hid (D_8.out.ex ee (by have o_ := ORD2.out; omega))
  have B_9 := Lib.hid (BB.out)
  clear ee B_8 R_8 S_8 X_8 P_8 D_8 BB
  first | (refine bodyPost_ret (results_none rfl _ _ _) rfl ?_) | go_end0
  exact ⟨rfl, B_9.out, X_9.out⟩
end Go.Proofs.Ytjdalllfnlpmnaa.Bank
