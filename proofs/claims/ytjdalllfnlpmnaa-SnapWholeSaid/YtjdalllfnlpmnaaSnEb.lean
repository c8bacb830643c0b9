/-
  The document's step of a snapshot: the second round. Printed by wip/tools/mksne.py. Conditions stand at each. By an AI agent.
-/
import Derived.Test.YtjdalllfnlpmnaaSnE
namespace Go.Proofs.Ytjdalllfnlpmnaa.Bank
set_option linter.unusedVariables false
set_option linter.unusedSimpArgs false
open Go Go.RowKit Go.Proofs.Ytjdalllfnlpmnaa.Base
set_option maxRecDepth 100000 in
set_option maxHeartbeats 4000000 in
theorem RS_out2 (base f hb rl n cl : Nat) (ws : List Int) (l : Nat → Spot) (T N had begun steps : Int) (k : Nat) (vg vw : Value) (qg cg : Nat) (gl W : List Int) (w : World) (ho : Blk w f 49 (rcs rl n cl T 2 (k : Int) N had (.slice (some ⟨qg, 0, none⟩) n cg) vw begun 0 steps)) (hs : SpsIn w rl n l) (hr : URow w hb ws)
    (ne : f ≠ hb ∧ hb < base ∧ f < base ∧ rl < base ∧ rl ≠ f) (hz : base ≤ w.heap.size) (hn : 1 ≤ n ∧ n ≤ 64) (hR : allR l n = true) (hst : 0 ≤ steps ∧ steps ≤ 1099511627776) (hkn : k < n) (hp : IntsIn w .u64 qg cg gl) (ho2 : OwnR w base vw W) (hgl : gl.length = n) (hgr : ∀ i, 0 ≤ nth gl i ∧ nth gl i ≤ 18446744073709551615) (nq : qg < base ∧ qg ≠ f) (hpp : wrap64 (atF (l k) (nth gl k) + N) = atF (l k) (nth gl k) + N) (hin : ¬ inW ws (atF (l k) (nth gl k) + N)) :
    Calls Try.prog 16 #[.pointer (some ⟨f, 0, none⟩), .slice (some ⟨hb, 0, none⟩) ws.length ws.length] w fun e w' => e = .returned (.tuple #[]) ∧ Blk w' f 49 (rcs rl n cl T 2 (k : Int) N had (.slice (some ⟨qg, 0, none⟩) n cg) vw begun 3 steps) ∧ Ex (fun k => k = f ∨ base ≤ k) w w' := by
  have HAT := Lib.hid (fun w (h : True) => rAt_any (l k) (nth gl k) w (hgr k) ((allR_iff l n).mp hR k hkn).atOk)
  unfold Spot.val at HAT
  have HAE := Lib.hid (atF_ok (gen := nth gl k) ((allR_iff l n).mp hR k hkn).atOk)
  have HAB := Lib.hid (atF_bounds (gen := nth gl k) ((allR_iff l n).mp hR k hkn).atOk)
  have HAO := Lib.hid (((allR_iff l n).mp hR k hkn).atOk)
  have P0 := Lib.hid hp
  have O0 := Lib.hid ho2
  have GL := Lib.hid hgl
  have HWL := Lib.hid (show wrap64 (atF (l k) (nth gl k) + N) = atF (l k) (nth gl k) + N from hpp)
  obtain ⟨va, vc, rfl⟩ := OwnR.form ho2
  have NE2 := Lib.hid nq
  clear hp ho2 hgl hpp hgr
  have B0 := Lib.hid (show Blk w f 49 _ from ho)
  have R0 := Lib.hid hr
  have S0 := Lib.hid hs
  have X0 := Lib.hid (Ex.refl (fun k => k = f ∨ base ≤ k) w)
  have ORD := Lib.hid ne
  have SZ := Lib.hid hz
  have HNN := Lib.hid hn
  have HRR := Lib.hid hR
  have KN := Lib.hid hkn
  unfold rcs at B0
  have HIN := Lib.hid hin
  have HST := Lib.hid (show wrap64 (steps + 1) = steps + 1 from wrap64_in _ (by omega))
  have HN1 := Lib.hid (show wrap64 ((n : Int) - 1) = (n : Int) - 1 from wrap64_in _ (by omega))
  have HK1 := Lib.hid (show wrap64 ((k : Int) + 1) = (k : Int) + 1 from wrap64_in _ (by omega))
  have i0 : (0 : Int) ≤ (k : Int) := by omega
  have i1 : (k : Int) < (n : Int) := by omega
  clear ho hr hs ne hz hn hR hst hkn hin
  clear nq
  have ORD1 := Lib.hid (show f ≠ hb ∧ hb < base ∧ f < base ∧ rl < base ∧ rl ≠ f ∧ qg < base ∧ qg ≠ f from by have o_ := ORD.out; have n2 := NE2.out; omega)
  have Bq0 := (B0.out).cell 0
  have Bq9 := (B0.out).cell 9
  simp only [List.getElem?_toArray, List.getElem?_cons_succ, List.getElem?_cons_zero] at Bq0 Bq9
  go_enter Try.func16, Try.ntmps16
  go_upto_region 1 with fail
  clear Bq0 Bq9
  have hne : Nonempty (Held (Below w.heap.size w)) := ⟨⟨w, Below.refl _ _⟩⟩
  have p0 : ∀ y : Held (Below w.heap.size w), y.w.cell? ⟨f, 0, none⟩ = some (.slice (some ⟨rl, 0, none⟩) n cl) := fun y => (B0.out.bl y.ok).cell 0
  have p3 : ∀ y : Held (Below w.heap.size w), y.w.cell? ⟨f, 3, none⟩ = some (.int .i64 (k : Int)) := fun y => (B0.out.bl y.ok).cell 3
  have s0 : ∀ y : Held (Below w.heap.size w), y.w.cell? ⟨rl, k * 5, none⟩ = some (.int .i64 (l k).owners) := fun y => (S0.out.bl y.ok).cells k KN.out 0 (by decide)
  have s1 : ∀ y : Held (Below w.heap.size w), y.w.cell? ⟨rl, k * 5 + 1, none⟩ = some (.int .i64 (l k).seq) := fun y => (S0.out.bl y.ok).cells k KN.out 1 (by decide)
  have s2 : ∀ y : Held (Below w.heap.size w), y.w.cell? ⟨rl, k * 5 + 2, none⟩ = some (.int .i64 (l k).first) := fun y => (S0.out.bl y.ok).cells k KN.out 2 (by decide)
  have s3 : ∀ y : Held (Below w.heap.size w), y.w.cell? ⟨rl, k * 5 + 3, none⟩ = some (.int .i64 (l k).words) := fun y => (S0.out.bl y.ok).cells k KN.out 3 (by decide)
  have s4 : ∀ y : Held (Below w.heap.size w), y.w.cell? ⟨rl, k * 5 + 4, none⟩ = some (.int .i64 (l k).depth) := fun y => (S0.out.bl y.ok).cells k KN.out 4 (by decide)
  refine drawn_bars (S := (Below w.heap.size w)) [([0, 1, 2, 3, 4, 5, 6, 7, 8, 9], 10), ([], 11)] [] (by kernel_rfl) (by kernel_rfl) (by kernel_rfl) rfl (Below.refl _ _).drew ?_
  refine Phased.go ?_
  simp only [pick, List.map_cons, List.map_nil, List.getElem?_cons_zero, List.getElem?_cons_succ, Option.getD_some]
  repeat (go_big_quiet_step (fail))
  refine wpQuiet_nil ?_
  have hbd : Below w.heap.size w w.drew := (Below.refl _ _).drew
  go_wp2_with fail
  refine behind_normal ⟨(Below w.heap.size w), fun W h => h, hbd.alloc (Nat.le_refl _) _, ?_⟩
  refine Phased.go ?_
  simp only [pick, List.map_cons, List.map_nil, List.getElem?_cons_zero, List.getElem?_cons_succ, Option.getD_some]
  repeat (go_big_quiet_step (fail))
  refine wpQuiet_nil ?_
  go_wp2_with fail
  have hn9 : Blk ((w.alloc (.cells #[.int .i64 (l k).owners, .int .i64 (l k).seq, .int .i64 (l k).first, .int .i64 (l k).words, .int .i64 (l k).depth] 95)).drew) w.heap.size 95 #[.int .i64 (l k).owners, .int .i64 (l k).seq, .int .i64 (l k).first, .int .i64 (l k).words, .int .i64 (l k).depth] := Blk.new w _ _
  obtain ⟨sb, hsb⟩ : ∃ sb, w.heap.size = sb := ⟨_, rfl⟩
  have hsb0 : base ≤ sb := hsb ▸ SZ.out
  have HOWN := Lib.hid (fun b h => show b < sb from hsb ▸ (World.ownsRow.lt O0.out b h).2)
  have hb9 := hbd.alloc (Nat.le_refl _) (.cells #[.int .i64 (l k).owners, .int .i64 (l k).seq, .int .i64 (l k).first, .int .i64 (l k).words, .int .i64 (l k).depth] 95)
  refine behind_normal ⟨(Below w.heap.size w), fun W h => h, hb9, ?_⟩
  refine Phased.end_ ?_
  have hne5 : Nonempty (Held (fun W => W = ((w.alloc (.cells #[.int .i64 (l k).owners, .int .i64 (l k).seq, .int .i64 (l k).first, .int .i64 (l k).words, .int .i64 (l k).depth] 95)).drew))) := ⟨⟨_, rfl⟩⟩
  simp only [pick, List.map_cons, List.map_nil, List.getElem?_cons_zero, List.getElem?_cons_succ, Option.getD_some]
  repeat (go_big_quiet_step (fail))
  refine wpQuiet_nil ?_
  simp only [hsb] at hn9 ⊢
  have ORD2 := Lib.hid (show f ≠ hb ∧ hb < base ∧ f < base ∧ rl < base ∧ rl ≠ f ∧ qg < base ∧ qg ≠ f ∧ base ≤ sb from by have o_ := ORD1.out; omega)
  clear hb9 hne5 hbd hne p0 p3 s0 s1 s2 s3 s4
  have ee : Ex (fun _ => False) w ((w.alloc (.cells #[.int .i64 (l k).owners, .int .i64 (l k).seq, .int .i64 (l k).first, .int .i64 (l k).words, .int .i64 (l k).depth] 95)).drew) := ((Ex.refl _ w).alloc _).drew
  have B_3 := Lib.hid (B0.out.ex ee (fun h => h))
  have R_3 := Lib.hid (R0.out.ex ee (fun h => h))
  have S_3 := Lib.hid (S0.out.ex ee (fun h => h))
  have X_3 := Lib.hid (X0.out.ex ee (fun b_ h_ => h_.elim))
  have P_3 := Lib.hid (P0.out.ex ee (fun h => h))
  have O_3 := Lib.hid (O0.out.ex ee (fun b_ h_ => h_.elim))
  have D_3 := Lib.hid (hn9)
  clear ee B0 R0 S0 X0 P0 O0 hn9 hsb0
  generalize ((w.alloc (.cells #[.int .i64 (l k).owners, .int .i64 (l k).seq, .int .i64 (l k).first, .int .i64 (l k).words, .int .i64 (l k).depth] 95)).drew) = w1 at *
  have Bq0 := (B_3.out).cell 0
  have Bq2 := (B_3.out).cell 2
  simp only [List.getElem?_toArray, List.getElem?_cons_succ, List.getElem?_cons_zero] at Bq0 Bq2
  have d1 := D_3.out.cell 1
  simp only [List.getElem?_toArray, List.getElem?_cons_succ, List.getElem?_cons_zero] at d1
  go_upto_region 4 with fail
  clear Bq0 Bq2 d1
  have hne : Nonempty (Held (Below w1.heap.size w1)) := ⟨⟨w1, Below.refl _ _⟩⟩
  have p3 : ∀ y : Held (Below w1.heap.size w1), y.w.cell? ⟨f, 3, none⟩ = some (.int .i64 (k : Int)) := fun y => (B_3.out.bl y.ok).cell 3
  have p4 : ∀ y : Held (Below w1.heap.size w1), y.w.cell? ⟨f, 4, none⟩ = some (.int .i64 N) := fun y => (B_3.out.bl y.ok).cell 4
  have p6 : ∀ y : Held (Below w1.heap.size w1), y.w.cell? ⟨f, 6, none⟩ = some (.slice (some ⟨qg, 0, none⟩) n cg) := fun y => (B_3.out.bl y.ok).cell 6
  have s0 : ∀ y : Held (Below w1.heap.size w1), y.w.cell? ⟨sb, 0, none⟩ = some (.int .i64 (l k).owners) := fun y => (D_3.out.bl y.ok).cell 0
  have s1 : ∀ y : Held (Below w1.heap.size w1), y.w.cell? ⟨sb, 1, none⟩ = some (.int .i64 (l k).seq) := fun y => (D_3.out.bl y.ok).cell 1
  have s2 : ∀ y : Held (Below w1.heap.size w1), y.w.cell? ⟨sb, 2, none⟩ = some (.int .i64 (l k).first) := fun y => (D_3.out.bl y.ok).cell 2
  have s3 : ∀ y : Held (Below w1.heap.size w1), y.w.cell? ⟨sb, 3, none⟩ = some (.int .i64 (l k).words) := fun y => (D_3.out.bl y.ok).cell 3
  have s4 : ∀ y : Held (Below w1.heap.size w1), y.w.cell? ⟨sb, 4, none⟩ = some (.int .i64 (l k).depth) := fun y => (D_3.out.bl y.ok).cell 4
  have pg : ∀ y : Held (Below w1.heap.size w1), y.w.cell? ⟨qg, k, none⟩ = some (.int .u64 (nth gl k)) := fun y => (P_3.out.below y.ok).at_ k (by rw [GL.out]; exact KN.out)
  refine drawn_bars (S := (Below w1.heap.size w1)) [([0, 1, 2, 3, 4, 5, 6, 7, 8, 9, 10, 12, 13, 14, 15], 11)] [16, 17] (by kernel_rfl) (by kernel_rfl) (by kernel_rfl) rfl (Below.refl _ _).drew ?_
  refine Phased.go ?_
  simp only [pick, List.map_cons, List.map_nil, List.getElem?_cons_zero, List.getElem?_cons_succ, Option.getD_some]
  repeat (go_big_quiet_step (fail))
  refine wpQuiet_nil ?_
  go_wp2_with fail
  refine (HAT.out _ trivial).mono ?_; rintro e w2 ⟨rfl, hb1⟩
  have hb2 := bl ((Below.refl w1.heap.size w1).drew) hb1
  generalize atF (l k) (nth gl k) = a9 at *
  have kwl := HWL.out
  go_wp2_with fail
  refine behind_normal ⟨(Below w1.heap.size w1), fun W h => h, hb2, ?_⟩
  refine Phased.end_ ?_
  have hne5 : Nonempty (Held (fun W => W = w2)) := ⟨⟨_, rfl⟩⟩
  simp only [pick, List.map_cons, List.map_nil, List.getElem?_cons_zero, List.getElem?_cons_succ, Option.getD_some]
  repeat (go_big_quiet_step (fail))
  refine wpQuiet_nil ?_
  clear hne5 hb1 HAT hne p3 p4 p6 s0 s1 s2 s3 s4 pg
  have ee : Ex (fun _ => False) w1 w2 := Ex.of_below hb2
  have B_4 := Lib.hid (B_3.out.ex ee (fun h => h))
  have R_4 := Lib.hid (R_3.out.ex ee (fun h => h))
  have S_4 := Lib.hid (S_3.out.ex ee (fun h => h))
  have X_4 := Lib.hid (X_3.out.ex ee (fun b_ h_ => h_.elim))
  have P_4 := Lib.hid (P_3.out.ex ee (fun h => h))
  have O_4 := Lib.hid (O_3.out.ex ee (fun b_ h_ => h_.elim))
  have D_4 := Lib.hid (D_3.out.ex ee (fun h => h))
  clear ee B_3 R_3 S_3 X_3 P_3 O_3 D_3 hb2
  have hno : a9 + N < 0 ∨ (ws.length : Int) ≤ a9 + N := by
    have h9 := HIN.out
    unfold inW at h9
    omega
  rcases hno with hno | hno
  · skip
    have k1 : decide (a9 + N < 0) = true := decide_eq_true hno
    have Bq0 := (B_4.out).cell 0
    have Bq9 := (B_4.out).cell 9
    simp only [List.getElem?_toArray, List.getElem?_cons_succ, List.getElem?_cons_zero] at Bq0 Bq9
    have Bf9 := (B_4.out).frozen 9
    go_wp2_with fail
    clear Bq0 Bq9 Bf9
    have bb := (B_4.out.set_ 9 (.int .i64 3))
    simp only [List.setIfInBounds_toArray, List.set_cons_succ, List.set_cons_zero] at bb
    have BB := Lib.hid bb
    clear bb
    have ee : Ex (fun k => k = f) w2 (w2.setCell ⟨f, 9, none⟩ (.int .i64 3)) := ((Ex.refl (fun k => k = f) w2).setCell (q := ⟨f, 9, none⟩) (.inl rfl) (.int .i64 3))
    have R_5 := Lib.hid (R_4.out.ex ee (by have o_ := ORD2.out; omega))
    have S_5 := Lib.hid (S_4.out.ex ee (by have o_ := ORD2.out; omega))
    have X_5 := Lib.hid (X_4.out.ex ee (fun b_ h_ => by have o_ := ORD2.out; have h_ : b_ = f := h_; first | omega | (show _ ∨ _; omega)))
    have P_5 := Lib.hid (P_4.out.ex ee (by have o_ := ORD2.out; omega))
    have O_5 := Lib.hid (O_4.out.ex ee (fun b_ h_ => by have o_ := ORD2.out; have h_ : b_ = f := h_; omega))
    have D_5 := Lib.hid (D_4.out.ex ee (by have o_ := ORD2.out; omega))
    have B_5 := Lib.hid (BB.out)
    clear ee B_4 R_4 S_4 X_4 P_4 O_4 D_4 BB
    first | (refine bodyPost_ret (results_none rfl _ _ _) rfl ?_) | go_end0
    exact ⟨rfl, B_5.out, X_5.out⟩
  · skip
    have hlt0 : ¬ a9 + N < 0 := by omega
    have k1 : decide (a9 + N < 0) = false := decide_eq_false hlt0
    have k2 : decide (a9 + N ≥ (ws.length : Int)) = true := decide_eq_true hno
    have Bq0 := (B_4.out).cell 0
    have Bq9 := (B_4.out).cell 9
    simp only [List.getElem?_toArray, List.getElem?_cons_succ, List.getElem?_cons_zero] at Bq0 Bq9
    have Bf9 := (B_4.out).frozen 9
    go_wp2_with fail
    clear Bq0 Bq9 Bf9
    have bb := (B_4.out.set_ 9 (.int .i64 3))
    simp only [List.setIfInBounds_toArray, List.set_cons_succ, List.set_cons_zero] at bb
    have BB := Lib.hid bb
    clear bb
    have ee : Ex (fun k => k = f) w2 (w2.setCell ⟨f, 9, none⟩ (.int .i64 3)) := ((Ex.refl (fun k => k = f) w2).setCell (q := ⟨f, 9, none⟩) (.inl rfl) (.int .i64 3))
    have R_5 := Lib.hid (R_4.out.ex ee (by have o_ := ORD2.out; omega))
    have S_5 := Lib.hid (S_4.out.ex ee (by have o_ := ORD2.out; omega))
    have X_5 := Lib.hid (X_4.out.ex ee (fun b_ h_ => by have o_ := ORD2.out; have h_ : b_ = f := h_; first | omega | (show _ ∨ _; omega)))
    have P_5 := Lib.hid (P_4.out.ex ee (by have o_ := ORD2.out; omega))
    have O_5 := Lib.hid (O_4.out.ex ee (fun b_ h_ => by have o_ := ORD2.out; have h_ : b_ = f := h_; omega))
    have D_5 := Lib.hid (D_4.out.ex ee (by have o_ := ORD2.out; omega))
    have B_5 := Lib.hid (BB.out)
    clear ee B_4 R_4 S_4 X_4 P_4 O_4 D_4 BB
    first | (refine bodyPost_ret (results_none rfl _ _ _) rfl ?_) | go_end0
    exact ⟨rfl, B_5.out, X_5.out⟩
set_option maxRecDepth 100000 in
set_option maxHeartbeats 4000000 in
theorem RS_2m (base f hb rl n cl : Nat) (ws : List Int) (l : Nat → Spot) (T N had begun steps : Int) (k : Nat) (vg vw : Value) (qg cg : Nat) (gl W : List Int) (w : World) (ho : Blk w f 49 (rcs rl n cl T 2 (k : Int) N had (.slice (some ⟨qg, 0, none⟩) n cg) vw begun 0 steps)) (hs : SpsIn w rl n l) (hr : URow w hb ws)
    (ne : f ≠ hb ∧ hb < base ∧ f < base ∧ rl < base ∧ rl ≠ f) (hz : base ≤ w.heap.size) (hn : 1 ≤ n ∧ n ≤ 64) (hR : allR l n = true) (hst : 0 ≤ steps ∧ steps ≤ 1099511627776) (hkn : k < n) (hp : IntsIn w .u64 qg cg gl) (ho2 : OwnR w base vw W) (hgl : gl.length = n) (hgr : ∀ i, 0 ≤ nth gl i ∧ nth gl i ≤ 18446744073709551615) (nq : qg < base ∧ qg ≠ f) (p : Nat) (hpp : wrap64 (atF (l k) (nth gl k) + N) = (p : Int)) (hin : p < ws.length) (hW : W.length ≤ 4096) (hw2 : ¬ N + 1 = (l k).words) (hN : 0 ≤ N ∧ N ≤ 64) :
    Calls Try.prog 16 #[.pointer (some ⟨f, 0, none⟩), .slice (some ⟨hb, 0, none⟩) ws.length ws.length] w fun e w' => e = .returned (.tuple #[]) ∧ (∃ v', Blk w' f 49 (rcs rl n cl T 2 (k : Int) (N + 1) had (.slice (some ⟨qg, 0, none⟩) n cg) v' begun 0 (steps + 1)) ∧ OwnR w' base v' (W ++ [nth ws p])) ∧ Ex (fun k => k = f ∨ base ≤ k) w w' := by
  have HLEN := Lib.hid (show W.length ≤ 4096 from hW)
  clear hW
  have HAT := Lib.hid (fun w (h : True) => rAt_any (l k) (nth gl k) w (hgr k) ((allR_iff l n).mp hR k hkn).atOk)
  unfold Spot.val at HAT
  have HAE := Lib.hid (atF_ok (gen := nth gl k) ((allR_iff l n).mp hR k hkn).atOk)
  have HAB := Lib.hid (atF_bounds (gen := nth gl k) ((allR_iff l n).mp hR k hkn).atOk)
  have HAO := Lib.hid (((allR_iff l n).mp hR k hkn).atOk)
  have P0 := Lib.hid hp
  have O0 := Lib.hid ho2
  have GL := Lib.hid hgl
  have HWL := Lib.hid (show wrap64 (atF (l k) (nth gl k) + N) = (p : Int) from hpp)
  obtain ⟨va, vc, rfl⟩ := OwnR.form ho2
  have NE2 := Lib.hid nq
  clear hp ho2 hgl hpp hgr
  have B0 := Lib.hid (show Blk w f 49 _ from ho)
  have R0 := Lib.hid hr
  have S0 := Lib.hid hs
  have X0 := Lib.hid (Ex.refl (fun k => k = f ∨ base ≤ k) w)
  have ORD := Lib.hid ne
  have SZ := Lib.hid hz
  have HNN := Lib.hid hn
  have HRR := Lib.hid hR
  have KN := Lib.hid hkn
  unfold rcs at B0
  have HIN := Lib.hid hin
  have HW2 := Lib.hid hw2
  have HN := Lib.hid hN
  have HST := Lib.hid (show wrap64 (steps + 1) = steps + 1 from wrap64_in _ (by omega))
  have HN1 := Lib.hid (show wrap64 ((n : Int) - 1) = (n : Int) - 1 from wrap64_in _ (by omega))
  have HK1 := Lib.hid (show wrap64 ((k : Int) + 1) = (k : Int) + 1 from wrap64_in _ (by omega))
  have i0 : (0 : Int) ≤ (k : Int) := by omega
  have i1 : (k : Int) < (n : Int) := by omega
  clear ho hr hs ne hz hn hR hst hkn hin hw2 hN
  clear nq
  have ORD1 := Lib.hid (show f ≠ hb ∧ hb < base ∧ f < base ∧ rl < base ∧ rl ≠ f ∧ qg < base ∧ qg ≠ f from by have o_ := ORD.out; have n2 := NE2.out; omega)
  have Bq0 := (B0.out).cell 0
  have Bq9 := (B0.out).cell 9
  simp only [List.getElem?_toArray, List.getElem?_cons_succ, List.getElem?_cons_zero] at Bq0 Bq9
  go_enter Try.func16, Try.ntmps16
  go_upto_region 1 with fail
  clear Bq0 Bq9
  have hne : Nonempty (Held (Below w.heap.size w)) := ⟨⟨w, Below.refl _ _⟩⟩
  have p0 : ∀ y : Held (Below w.heap.size w), y.w.cell? ⟨f, 0, none⟩ = some (.slice (some ⟨rl, 0, none⟩) n cl) := fun y => (B0.out.bl y.ok).cell 0
  have p3 : ∀ y : Held (Below w.heap.size w), y.w.cell? ⟨f, 3, none⟩ = some (.int .i64 (k : Int)) := fun y => (B0.out.bl y.ok).cell 3
  have s0 : ∀ y : Held (Below w.heap.size w), y.w.cell? ⟨rl, k * 5, none⟩ = some (.int .i64 (l k).owners) := fun y => (S0.out.bl y.ok).cells k KN.out 0 (by decide)
  have s1 : ∀ y : Held (Below w.heap.size w), y.w.cell? ⟨rl, k * 5 + 1, none⟩ = some (.int .i64 (l k).seq) := fun y => (S0.out.bl y.ok).cells k KN.out 1 (by decide)
  have s2 : ∀ y : Held (Below w.heap.size w), y.w.cell? ⟨rl, k * 5 + 2, none⟩ = some (.int .i64 (l k).first) := fun y => (S0.out.bl y.ok).cells k KN.out 2 (by decide)
  have s3 : ∀ y : Held (Below w.heap.size w), y.w.cell? ⟨rl, k * 5 + 3, none⟩ = some (.int .i64 (l k).words) := fun y => (S0.out.bl y.ok).cells k KN.out 3 (by decide)
  have s4 : ∀ y : Held (Below w.heap.size w), y.w.cell? ⟨rl, k * 5 + 4, none⟩ = some (.int .i64 (l k).depth) := fun y => (S0.out.bl y.ok).cells k KN.out 4 (by decide)
  refine drawn_bars (S := (Below w.heap.size w)) [([0, 1, 2, 3, 4, 5, 6, 7, 8, 9], 10), ([], 11)] [] (by kernel_rfl) (by kernel_rfl) (by kernel_rfl) rfl (Below.refl _ _).drew ?_
  refine Phased.go ?_
  simp only [pick, List.map_cons, List.map_nil, List.getElem?_cons_zero, List.getElem?_cons_succ, Option.getD_some]
  repeat (go_big_quiet_step (fail))
  refine wpQuiet_nil ?_
  have hbd : Below w.heap.size w w.drew := (Below.refl _ _).drew
  go_wp2_with fail
  refine behind_normal ⟨(Below w.heap.size w), fun W h => h, hbd.alloc (Nat.le_refl _) _, ?_⟩
  refine Phased.go ?_
  simp only [pick, List.map_cons, List.map_nil, List.getElem?_cons_zero, List.getElem?_cons_succ, Option.getD_some]
  repeat (go_big_quiet_step (fail))
  refine wpQuiet_nil ?_
  go_wp2_with fail
  have hn9 : Blk ((w.alloc (.cells #[.int .i64 (l k).owners, .int .i64 (l k).seq, .int .i64 (l k).first, .int .i64 (l k).words, .int .i64 (l k).depth] 95)).drew) w.heap.size 95 #[.int .i64 (l k).owners, .int .i64 (l k).seq, .int .i64 (l k).first, .int .i64 (l k).words, .int .i64 (l k).depth] := Blk.new w _ _
  obtain ⟨sb, hsb⟩ : ∃ sb, w.heap.size = sb := ⟨_, rfl⟩
  have hsb0 : base ≤ sb := hsb ▸ SZ.out
  have HOWN := Lib.hid (fun b h => show b < sb from hsb ▸ (World.ownsRow.lt O0.out b h).2)
  have hb9 := hbd.alloc (Nat.le_refl _) (.cells #[.int .i64 (l k).owners, .int .i64 (l k).seq, .int .i64 (l k).first, .int .i64 (l k).words, .int .i64 (l k).depth] 95)
  refine behind_normal ⟨(Below w.heap.size w), fun W h => h, hb9, ?_⟩
  refine Phased.end_ ?_
  have hne5 : Nonempty (Held (fun W => W = ((w.alloc (.cells #[.int .i64 (l k).owners, .int .i64 (l k).seq, .int .i64 (l k).first, .int .i64 (l k).words, .int .i64 (l k).depth] 95)).drew))) := ⟨⟨_, rfl⟩⟩
  simp only [pick, List.map_cons, List.map_nil, List.getElem?_cons_zero, List.getElem?_cons_succ, Option.getD_some]
  repeat (go_big_quiet_step (fail))
  refine wpQuiet_nil ?_
  simp only [hsb] at hn9 ⊢
  have ORD2 := Lib.hid (show f ≠ hb ∧ hb < base ∧ f < base ∧ rl < base ∧ rl ≠ f ∧ qg < base ∧ qg ≠ f ∧ base ≤ sb from by have o_ := ORD1.out; omega)
  clear hb9 hne5 hbd hne p0 p3 s0 s1 s2 s3 s4
  have ee : Ex (fun _ => False) w ((w.alloc (.cells #[.int .i64 (l k).owners, .int .i64 (l k).seq, .int .i64 (l k).first, .int .i64 (l k).words, .int .i64 (l k).depth] 95)).drew) := ((Ex.refl _ w).alloc _).drew
  have B_3 := Lib.hid (B0.out.ex ee (fun h => h))
  have R_3 := Lib.hid (R0.out.ex ee (fun h => h))
  have S_3 := Lib.hid (S0.out.ex ee (fun h => h))
  have X_3 := Lib.hid (X0.out.ex ee (fun b_ h_ => h_.elim))
  have P_3 := Lib.hid (P0.out.ex ee (fun h => h))
  have O_3 := Lib.hid (O0.out.ex ee (fun b_ h_ => h_.elim))
  have D_3 := Lib.hid (hn9)
  clear ee B0 R0 S0 X0 P0 O0 hn9 hsb0
  generalize ((w.alloc (.cells #[.int .i64 (l k).owners, .int .i64 (l k).seq, .int .i64 (l k).first, .int .i64 (l k).words, .int .i64 (l k).depth] 95)).drew) = w1 at *
  have Bq0 := (B_3.out).cell 0
  have Bq2 := (B_3.out).cell 2
  simp only [List.getElem?_toArray, List.getElem?_cons_succ, List.getElem?_cons_zero] at Bq0 Bq2
  have d1 := D_3.out.cell 1
  simp only [List.getElem?_toArray, List.getElem?_cons_succ, List.getElem?_cons_zero] at d1
  go_upto_region 4 with fail
  clear Bq0 Bq2 d1
  have hne : Nonempty (Held (Below w1.heap.size w1)) := ⟨⟨w1, Below.refl _ _⟩⟩
  have p3 : ∀ y : Held (Below w1.heap.size w1), y.w.cell? ⟨f, 3, none⟩ = some (.int .i64 (k : Int)) := fun y => (B_3.out.bl y.ok).cell 3
  have p4 : ∀ y : Held (Below w1.heap.size w1), y.w.cell? ⟨f, 4, none⟩ = some (.int .i64 N) := fun y => (B_3.out.bl y.ok).cell 4
  have p6 : ∀ y : Held (Below w1.heap.size w1), y.w.cell? ⟨f, 6, none⟩ = some (.slice (some ⟨qg, 0, none⟩) n cg) := fun y => (B_3.out.bl y.ok).cell 6
  have s0 : ∀ y : Held (Below w1.heap.size w1), y.w.cell? ⟨sb, 0, none⟩ = some (.int .i64 (l k).owners) := fun y => (D_3.out.bl y.ok).cell 0
  have s1 : ∀ y : Held (Below w1.heap.size w1), y.w.cell? ⟨sb, 1, none⟩ = some (.int .i64 (l k).seq) := fun y => (D_3.out.bl y.ok).cell 1
  have s2 : ∀ y : Held (Below w1.heap.size w1), y.w.cell? ⟨sb, 2, none⟩ = some (.int .i64 (l k).first) := fun y => (D_3.out.bl y.ok).cell 2
  have s3 : ∀ y : Held (Below w1.heap.size w1), y.w.cell? ⟨sb, 3, none⟩ = some (.int .i64 (l k).words) := fun y => (D_3.out.bl y.ok).cell 3
  have s4 : ∀ y : Held (Below w1.heap.size w1), y.w.cell? ⟨sb, 4, none⟩ = some (.int .i64 (l k).depth) := fun y => (D_3.out.bl y.ok).cell 4
  have pg : ∀ y : Held (Below w1.heap.size w1), y.w.cell? ⟨qg, k, none⟩ = some (.int .u64 (nth gl k)) := fun y => (P_3.out.below y.ok).at_ k (by rw [GL.out]; exact KN.out)
  refine drawn_bars (S := (Below w1.heap.size w1)) [([0, 1, 2, 3, 4, 5, 6, 7, 8, 9, 10, 12, 13, 14, 15], 11)] [16, 17] (by kernel_rfl) (by kernel_rfl) (by kernel_rfl) rfl (Below.refl _ _).drew ?_
  refine Phased.go ?_
  simp only [pick, List.map_cons, List.map_nil, List.getElem?_cons_zero, List.getElem?_cons_succ, Option.getD_some]
  repeat (go_big_quiet_step (fail))
  refine wpQuiet_nil ?_
  go_wp2_with fail
  refine (HAT.out _ trivial).mono ?_; rintro e w2 ⟨rfl, hb1⟩
  have hb2 := bl ((Below.refl w1.heap.size w1).drew) hb1
  generalize atF (l k) (nth gl k) = a9 at *
  have kwl := HWL.out
  go_wp2_with fail
  refine behind_normal ⟨(Below w1.heap.size w1), fun W h => h, hb2, ?_⟩
  refine Phased.end_ ?_
  have hne5 : Nonempty (Held (fun W => W = w2)) := ⟨⟨_, rfl⟩⟩
  simp only [pick, List.map_cons, List.map_nil, List.getElem?_cons_zero, List.getElem?_cons_succ, Option.getD_some]
  repeat (go_big_quiet_step (fail))
  refine wpQuiet_nil ?_
  clear hne5 hb1 HAT hne p3 p4 p6 s0 s1 s2 s3 s4 pg
  have ee : Ex (fun _ => False) w1 w2 := Ex.of_below hb2
  have B_4 := Lib.hid (B_3.out.ex ee (fun h => h))
  have R_4 := Lib.hid (R_3.out.ex ee (fun h => h))
  have S_4 := Lib.hid (S_3.out.ex ee (fun h => h))
  have X_4 := Lib.hid (X_3.out.ex ee (fun b_ h_ => h_.elim))
  have P_4 := Lib.hid (P_3.out.ex ee (fun h => h))
  have O_4 := Lib.hid (O_3.out.ex ee (fun b_ h_ => h_.elim))
  have D_4 := Lib.hid (D_3.out.ex ee (fun h => h))
  clear ee B_3 R_3 S_3 X_3 P_3 O_3 D_3 hb2
  have kq0 : (0 : Int) ≤ (p : Int) := by omega
  have kq1 : (p : Int) < (ws.length : Int) := by have := HIN.out; omega
  have k1 : decide ((p : Int) < 0) = false := decide_eq_false (by omega)
  have k2 : decide ((p : Int) ≥ (ws.length : Int)) = false := decide_eq_false (by omega)
  have kn1 : wrap64 (N + 1) = N + 1 := wrap64_in _ (by have := HN.out; omega)
  have Bq0 := (B_4.out).cell 0
  have Bq2 := (B_4.out).cell 2
  have Bq10 := (B_4.out).cell 10
  simp only [List.getElem?_toArray, List.getElem?_cons_succ, List.getElem?_cons_zero] at Bq0 Bq2 Bq10
  have Bf10 := (B_4.out).frozen 10
  have hst := HST.out
  go_upto_region 8 with fail
  clear Bq0 Bq2 Bq10 Bf10
  have bb := (B_4.out.set_ 10 (.int .i64 (steps + 1)))
  simp only [List.setIfInBounds_toArray, List.set_cons_succ, List.set_cons_zero] at bb
  have BB := Lib.hid bb
  clear bb
  have ee : Ex (fun k => k = f) w2 (w2.setCell ⟨f, 10, none⟩ (.int .i64 (steps + 1))) := ((Ex.refl (fun k => k = f) w2).setCell (q := ⟨f, 10, none⟩) (.inl rfl) (.int .i64 (steps + 1)))
  have R_5 := Lib.hid (R_4.out.ex ee (by have o_ := ORD2.out; omega))
  have S_5 := Lib.hid (S_4.out.ex ee (by have o_ := ORD2.out; omega))
  have X_5 := Lib.hid (X_4.out.ex ee (fun b_ h_ => by have o_ := ORD2.out; have h_ : b_ = f := h_; first | omega | (show _ ∨ _; omega)))
  have P_5 := Lib.hid (P_4.out.ex ee (by have o_ := ORD2.out; omega))
  have O_5 := Lib.hid (O_4.out.ex ee (fun b_ h_ => by have o_ := ORD2.out; have h_ : b_ = f := h_; omega))
  have D_5 := Lib.hid (D_4.out.ex ee (by have o_ := ORD2.out; omega))
  have B_5 := Lib.hid (BB.out)
  clear ee B_4 R_4 S_4 X_4 P_4 O_4 D_4 BB
  generalize (w2.setCell ⟨f, 10, none⟩ (.int .i64 (steps + 1))) = w3 at *
  have hn1 := HN1.out
  obtain ⟨bl9, kl⟩ : ∃ b9 : Bool, ((k : Int) == (n : Int) - 1) = b9 := ⟨_, rfl⟩
  have hne : Nonempty (Held (fun W => W = w3.drew)) := ⟨⟨_, rfl⟩⟩
  have p0 : ∀ y : Held (fun W => W = w3.drew), y.w.cell? ⟨f, 0, none⟩ = some (.slice (some ⟨rl, 0, none⟩) n cl) := fun y => by rw [y.ok]; exact B_5.out.cell 0
  have p3 : ∀ y : Held (fun W => W = w3.drew), y.w.cell? ⟨f, 3, none⟩ = some (.int .i64 (k : Int)) := fun y => by rw [y.ok]; exact B_5.out.cell 3
  refine drawn_bars (S := fun _ => True) [] [0, 1, 2, 3, 4, 5, 6, 7, 8, 9, 10, 11] (by kernel_rfl) (by kernel_rfl) (by kernel_rfl) rfl trivial ?_
  refine Phased.end_ ?_
  simp only [pick, List.map_cons, List.map_nil, List.getElem?_cons_zero, List.getElem?_cons_succ, Option.getD_some]
  repeat (go_big_quiet_step (fail))
  refine wpQuiet_nil ?_
  clear hne p0 p3
  have ee : Ex (fun _ => False) w3 w3.drew := (Ex.refl _ w3).drew
  have B_6 := Lib.hid (B_5.out.ex ee (fun h => h))
  have R_6 := Lib.hid (R_5.out.ex ee (fun h => h))
  have S_6 := Lib.hid (S_5.out.ex ee (fun h => h))
  have X_6 := Lib.hid (X_5.out.ex ee (fun b_ h_ => h_.elim))
  have P_6 := Lib.hid (P_5.out.ex ee (fun h => h))
  have O_6 := Lib.hid (O_5.out.ex ee (fun b_ h_ => h_.elim))
  have D_6 := Lib.hid (D_5.out.ex ee (fun h => h))
  clear ee B_5 R_5 S_5 X_5 P_5 O_5 D_5
  generalize w3.drew = w4 at *
  have Bq0 := (B_6.out).cell 0
  have Bq2 := (B_6.out).cell 2
  simp only [List.getElem?_toArray, List.getElem?_cons_succ, List.getElem?_cons_zero] at Bq0 Bq2
  go_upto_region 22 with fail
  clear Bq0 Bq2
  have hne : Nonempty (Held (Ex (fun k => base ≤ k) w4)) := ⟨⟨w4, Ex.refl _ _⟩⟩
  have p7 : ∀ y : Held (Ex (fun k => base ≤ k) w4), y.w.cell? ⟨f, 7, none⟩ = some (.slice va W.length vc) := fun y => (B_6.out.ex y.ok (by have := ORD.out; omega)).cell 7
  have pw : ∀ y : Held (Ex (fun k => base ≤ k) w4), y.w.cell? ⟨hb, p, none⟩ = some (.int .u64 (nth ws p)) := fun y => (R_6.out.ex y.ok (by have := ORD.out; omega)).word HIN.out
  obtain ⟨i0_, hi0, hz0, hz1, hz2⟩ := info_parts wordU_info
  refine drawn_tail (S := (Ex (fun k => base ≤ k) w4)) [13] [([0, 1, 2, 3, 4, 5, 6, 7, 8], 9), ([], 10), ([], 11), ([], 12), ([], 13)] (by kernel_rfl) (by kernel_rfl) (by kernel_rfl) rfl (Ex.refl _ _).drew ?_
  refine PhasedT.go ?_
  generalize hzz : nth ws p = z at *
  have HZZ := Lib.hid hzz
  clear hzz
  simp only [pick, List.map_cons, List.map_nil, List.getElem?_cons_zero, List.getElem?_cons_succ, Option.getD_some]
  repeat (go_big_quiet_step (fail))
  refine wpQuiet_nil ?_
  clear hne p7 pw
  have ee : Ex (fun _ => False) w4 w4.drew := (Ex.refl _ w4).drew
  have B_7 := Lib.hid (B_6.out.ex ee (fun h => h))
  have R_7 := Lib.hid (R_6.out.ex ee (fun h => h))
  have S_7 := Lib.hid (S_6.out.ex ee (fun h => h))
  have X_7 := Lib.hid (X_6.out.ex ee (fun b_ h_ => h_.elim))
  have P_7 := Lib.hid (P_6.out.ex ee (fun h => h))
  have O_7 := Lib.hid (O_6.out.ex ee (fun b_ h_ => h_.elim))
  have D_7 := Lib.hid (D_6.out.ex ee (fun h => h))
  clear ee B_6 R_6 S_6 X_6 P_6 O_6 D_6
  have EE0 := Lib.hid ((Ex.refl (fun k => base ≤ k) w4).drew)
  generalize w4.drew = wa at *
  have SZa := Lib.hid (Nat.le_trans SZ.out X_7.out.size)
  go_wp2_with fail
  refine behind_normal ⟨(Ex (fun k => base ≤ k) w4), fun W h => h, by first | exact EE0.out.alloc _ | exact fun _ => EE0.out.alloc _, ?_⟩
  refine PhasedT.go ?_
  simp only [pick, List.map_cons, List.map_nil, List.getElem?_cons_zero, List.getElem?_cons_succ, Option.getD_some]
  repeat (go_big_quiet_step (fail))
  refine wpQuiet_nil ?_
  go_wp2_with (at_builtin; refine wpList_append_own _ rfl _ _ 41 rfl base 42 i0_ (.int .u64 0) 1 8 Try.underlying41 hi0 hz0 hz1 hz2 rfl (by decide) _ _ _ rfl (World.ownsRow.alloc O_7.out _) ⟨wa.heap.size, 0, none⟩ 1 1 [.int .u64 (z)] rfl rfl ?c1 ?c2 ?c3 ?c4 ?c5 ?_)
  case c1 =>
    have hbn := Blk.new wa 42 #[.int .u64 (z)]
    intro j u hj
    match j, hj with
    | 0, hj => simp at hj; subst hj; exact hbn.cell 0
  case c2 =>
    intro u hu
    simp only [List.mem_cons, List.not_mem_nil, or_false] at hu
    subst hu; rfl
  case c3 => have h1 := HLEN.out; have h2 := SZa.out; first | omega | (unfold maxLen; omega) | (simp; omega)
  case c4 => have h1 := HLEN.out; have h2 := SZa.out; first | omega | (unfold maxLen; omega) | (simp; omega)
  case c5 => have h1 := HLEN.out; have h2 := SZa.out; first | omega | (unfold maxLen; omega) | (simp; omega)
  intro v' wb hown' hgrow _
  have hbel := ((Below.refl base wa).alloc SZa.out (.cells #[.int .u64 (z)] 42)).grown hgrow (by have := SZa.out; simp; omega) (fun k hk => (World.ownsRow.lt O_7.out k hk).1)
  have hgr2 := ((Ex.refl _ wa).alloc (.cells #[.int .u64 (z)] 42)).trans (Ex.of_grown hgrow)
  have hown2 : OwnR wb base v' (W ++ [z]) := by unfold OwnR; simpa using hown'
  obtain ⟨va2, vc2, rfl⟩ := hown2.form
  have hlw : (W ++ [z]).length = W.length + 1 := by simp
  have HO2 := Lib.hid (show OwnR wb base (.slice va2 (W.length + 1) vc2) (W ++ [z]) by have := hown2; rw [hlw] at this; exact this)
  have he : Ex (fun k => base ≤ k) wa wb := ⟨hbel.os, hbel.tape, hbel.output, hbel.size, fun k hk hn => hbel.block k (by omega)⟩
  have B_9 := Lib.hid (B_7.out.ex he (by have := ORD.out; omega))
  have R_9 := Lib.hid (R_7.out.ex he (by have := ORD.out; omega))
  have S_9 := Lib.hid (S_7.out.ex he (by have := ORD.out; omega))
  have D_9 := Lib.hid (D_7.out.ex hgr2 (fun h => Nat.lt_irrefl _ (HOWN.out _ h)))
  have X_9 := Lib.hid (X_7.out.ex he (fun k hk => .inr hk))
  have EE1 := Lib.hid (EE0.out.trans he)
  have P_9 := Lib.hid (P_7.out.ex he (by have := ORD2.out; omega))
  clear hown' hgrow hbel hown2 he hgr2 B_7 R_7 O_7 X_7 S_7 D_7 P_7 EE0
  refine behind_normal ⟨(Ex (fun k => base ≤ k) w4), fun W h => h, by first | exact EE1.out | exact fun _ => EE1.out, ?_⟩
  refine PhasedT.go ?_
  simp only [pick, List.map_cons, List.map_nil, List.getElem?_cons_zero, List.getElem?_cons_succ, Option.getD_some]
  repeat (go_big_quiet_step (fail))
  refine wpQuiet_nil ?_
  have Bq0 := B_9.out.cell 0
  simp only [List.getElem?_toArray, List.getElem?_cons_succ, List.getElem?_cons_zero] at Bq0
  go_wp2_with fail
  refine behind_normal ⟨(Ex (fun k => base ≤ k) w4), fun W h => h, by first | exact EE1.out | exact fun _ => EE1.out, ?_⟩
  refine PhasedT.go ?_
  simp only [pick, List.map_cons, List.map_nil, List.getElem?_cons_zero, List.getElem?_cons_succ, Option.getD_some]
  repeat (go_big_quiet_step (fail))
  refine wpQuiet_nil ?_
  clear Bq0
  go_wp2_with fail
  have Bq0 := (B_9.out).cell 0
  have Bq7 := (B_9.out).cell 7
  simp only [List.getElem?_toArray, List.getElem?_cons_succ, List.getElem?_cons_zero] at Bq0 Bq7
  have Bf7 := (B_9.out).frozen 7
  refine behind_normal ⟨(Ex (fun k => base ≤ k) w4), fun W h => h, by first | exact EE1.out | exact fun _ => EE1.out, ?_⟩
  refine PhasedT.go ?_
  simp only [pick, List.map_cons, List.map_nil, List.getElem?_cons_zero, List.getElem?_cons_succ, Option.getD_some]
  repeat (go_big_quiet_step (fail))
  refine wpQuiet_nil ?_
  go_wp2_with fail
  refine behind_normal ⟨(Ex (fun k => base ≤ k) w4), fun W h => h, by first | exact fun h => absurd h (by decide) | trivial | simp, ?_⟩
  refine PhasedT.end_ ?_
  clear Bq0 Bq7 Bf7
  have bb := (B_9.out.set_ 7 (.slice va2 (W.length + 1) vc2))
  simp only [List.setIfInBounds_toArray, List.set_cons_succ, List.set_cons_zero] at bb
  have BB := Lib.hid bb
  clear bb
  have ee : Ex (fun k => k = f) wb (wb.setCell ⟨f, 7, none⟩ (.slice va2 (W.length + 1) vc2)) := ((Ex.refl (fun k => k = f) wb).setCell (q := ⟨f, 7, none⟩) (.inl rfl) (.slice va2 (W.length + 1) vc2))
  have R_8 := Lib.hid (R_9.out.ex ee (by have o_ := ORD2.out; omega))
  have O_8 := Lib.hid (HO2.out.ex ee (fun b_ h_ => by have o_ := ORD2.out; have h_ : b_ = f := h_; omega))
  have X_8 := Lib.hid (X_9.out.ex ee (fun b_ h_ => by have o_ := ORD2.out; have h_ : b_ = f := h_; first | omega | (show _ ∨ _; omega)))
  have S_8 := Lib.hid (S_9.out.ex ee (by have o_ := ORD2.out; omega))
  have D_8 := Lib.hid (D_9.out.ex ee (by have o_ := ORD2.out; omega))
  have P_8 := Lib.hid (P_9.out.ex ee (by have o_ := ORD2.out; omega))
  have B_8 := Lib.hid (BB.out)
  clear ee B_9 R_9 HO2 X_9 S_9 D_9 P_9 BB
  generalize (wb.setCell ⟨f, 7, none⟩ (.slice va2 (W.length + 1) vc2)) = w6 at *
  have Bq0 := (B_8.out).cell 0
  have Bq4 := (B_8.out).cell 4
  simp only [List.getElem?_toArray, List.getElem?_cons_succ, List.getElem?_cons_zero] at Bq0 Bq4
  have Bf4 := (B_8.out).frozen 4
  go_upto_region 24 with fail
  clear Bq0 Bq4 Bf4
  have bb := (B_8.out.set_ 4 (.int .i64 (N + 1)))
  simp only [List.setIfInBounds_toArray, List.set_cons_succ, List.set_cons_zero] at bb
  have BB := Lib.hid bb
  clear bb
  have ee : Ex (fun k => k = f) w6 (w6.setCell ⟨f, 4, none⟩ (.int .i64 (N + 1))) := ((Ex.refl (fun k => k = f) w6).setCell (q := ⟨f, 4, none⟩) (.inl rfl) (.int .i64 (N + 1)))
  have R_9 := Lib.hid (R_8.out.ex ee (by have o_ := ORD2.out; omega))
  have O_9 := Lib.hid (O_8.out.ex ee (fun b_ h_ => by have o_ := ORD2.out; have h_ : b_ = f := h_; omega))
  have X_9 := Lib.hid (X_8.out.ex ee (fun b_ h_ => by have o_ := ORD2.out; have h_ : b_ = f := h_; first | omega | (show _ ∨ _; omega)))
  have S_9 := Lib.hid (S_8.out.ex ee (by have o_ := ORD2.out; omega))
  have D_9 := Lib.hid (D_8.out.ex ee (by have o_ := ORD2.out; omega))
  have P_9 := Lib.hid (P_8.out.ex ee (by have o_ := ORD2.out; omega))
  have B_9 := Lib.hid (BB.out)
  clear ee B_8 R_8 O_8 X_8 S_8 D_8 P_8 BB
  generalize (w6.setCell ⟨f, 4, none⟩ (.int .i64 (N + 1))) = w7 at *
  have kw : (N + 1 == (l k).words) = false := beq_eq_false_iff_ne.2 HW2.out
  have hne : Nonempty (Held (fun W => W = w7.drew)) := ⟨⟨_, rfl⟩⟩
  have p4 : ∀ y : Held (fun W => W = w7.drew), y.w.cell? ⟨f, 4, none⟩ = some (.int .i64 (N + 1)) := fun y => by rw [y.ok]; exact B_9.out.cell 4
  have pd : ∀ y : Held (fun W => W = w7.drew), y.w.cell? ⟨sb, 3, none⟩ = some (.int .i64 (l k).words) := fun y => by rw [y.ok]; exact D_9.out.cell 3
  refine drawn_bars (S := fun _ => True) [] [0, 1, 2, 3, 4, 5, 6] (by kernel_rfl) (by kernel_rfl) (by kernel_rfl) rfl trivial ?_
  refine Phased.end_ ?_
  simp only [pick, List.map_cons, List.map_nil, List.getElem?_cons_zero, List.getElem?_cons_succ, Option.getD_some]
  repeat (go_big_quiet_step (fail))
  refine wpQuiet_nil ?_
  clear hne p4 pd
  have ee : Ex (fun _ => False) w7 w7.drew := (Ex.refl _ w7).drew
  have B_10 := Lib.hid (B_9.out.ex ee (fun h => h))
  have R_10 := Lib.hid (R_9.out.ex ee (fun h => h))
  have O_10 := Lib.hid (O_9.out.ex ee (fun b_ h_ => h_.elim))
  have X_10 := Lib.hid (X_9.out.ex ee (fun b_ h_ => h_.elim))
  have S_10 := Lib.hid (S_9.out.ex ee (fun h => h))
  have D_10 := Lib.hid (D_9.out.ex ee (fun h => h))
  have P_10 := Lib.hid (P_9.out.ex ee (fun h => h))
  clear ee B_9 R_9 O_9 X_9 S_9 D_9 P_9
  generalize w7.drew = w8 at *
  have hk1 := HK1.out
  go_wp2_with fail
  first | (refine bodyPost_ret (results_none rfl _ _ _) rfl ?_) | go_end0
  rw [HZZ.out]
  exact ⟨rfl, ⟨_, B_10.out, O_10.out⟩, X_10.out⟩
set_option maxRecDepth 100000 in
set_option maxHeartbeats 4000000 in
theorem RS_2f (base f hb rl n cl : Nat) (ws : List Int) (l : Nat → Spot) (T N had begun steps : Int) (k : Nat) (vg vw : Value) (qg cg : Nat) (gl W : List Int) (w : World) (ho : Blk w f 49 (rcs rl n cl T 2 (k : Int) N had (.slice (some ⟨qg, 0, none⟩) n cg) vw begun 0 steps)) (hs : SpsIn w rl n l) (hr : URow w hb ws)
    (ne : f ≠ hb ∧ hb < base ∧ f < base ∧ rl < base ∧ rl ≠ f) (hz : base ≤ w.heap.size) (hn : 1 ≤ n ∧ n ≤ 64) (hR : allR l n = true) (hst : 0 ≤ steps ∧ steps ≤ 1099511627776) (hkn : k < n) (hp : IntsIn w .u64 qg cg gl) (ho2 : OwnR w base vw W) (hgl : gl.length = n) (hgr : ∀ i, 0 ≤ nth gl i ∧ nth gl i ≤ 18446744073709551615) (nq : qg < base ∧ qg ≠ f) (p : Nat) (hpp : wrap64 (atF (l k) (nth gl k) + N) = (p : Int)) (hin : p < ws.length) (hW : W.length ≤ 4096) (hw2 : N + 1 = (l k).words) (hl : ¬ (k : Int) = (n : Int) - 1) (hN : 0 ≤ N ∧ N ≤ 64) :
    Calls Try.prog 16 #[.pointer (some ⟨f, 0, none⟩), .slice (some ⟨hb, 0, none⟩) ws.length ws.length] w fun e w' => e = .returned (.tuple #[]) ∧ (∃ v', Blk w' f 49 (rcs rl n cl T 2 ((k : Int) + 1) 0 had (.slice (some ⟨qg, 0, none⟩) n cg) v' begun 0 (steps + 1)) ∧ OwnR w' base v' (W ++ [nth ws p])) ∧ Ex (fun k => k = f ∨ base ≤ k) w w' := by
  have HLEN := Lib.hid (show W.length ≤ 4096 from hW)
  clear hW
  have HAT := Lib.hid (fun w (h : True) => rAt_any (l k) (nth gl k) w (hgr k) ((allR_iff l n).mp hR k hkn).atOk)
  unfold Spot.val at HAT
  have HAE := Lib.hid (atF_ok (gen := nth gl k) ((allR_iff l n).mp hR k hkn).atOk)
  have HAB := Lib.hid (atF_bounds (gen := nth gl k) ((allR_iff l n).mp hR k hkn).atOk)
  have HAO := Lib.hid (((allR_iff l n).mp hR k hkn).atOk)
  have P0 := Lib.hid hp
  have O0 := Lib.hid ho2
  have GL := Lib.hid hgl
  have HWL := Lib.hid (show wrap64 (atF (l k) (nth gl k) + N) = (p : Int) from hpp)
  obtain ⟨va, vc, rfl⟩ := OwnR.form ho2
  have NE2 := Lib.hid nq
  clear hp ho2 hgl hpp hgr
  have B0 := Lib.hid (show Blk w f 49 _ from ho)
  have R0 := Lib.hid hr
  have S0 := Lib.hid hs
  have X0 := Lib.hid (Ex.refl (fun k => k = f ∨ base ≤ k) w)
  have ORD := Lib.hid ne
  have SZ := Lib.hid hz
  have HNN := Lib.hid hn
  have HRR := Lib.hid hR
  have KN := Lib.hid hkn
  unfold rcs at B0
  have HIN := Lib.hid hin
  have HW2 := Lib.hid hw2
  have HL := Lib.hid hl
  have HN := Lib.hid hN
  have HST := Lib.hid (show wrap64 (steps + 1) = steps + 1 from wrap64_in _ (by omega))
  have HN1 := Lib.hid (show wrap64 ((n : Int) - 1) = (n : Int) - 1 from wrap64_in _ (by omega))
  have HK1 := Lib.hid (show wrap64 ((k : Int) + 1) = (k : Int) + 1 from wrap64_in _ (by omega))
  have i0 : (0 : Int) ≤ (k : Int) := by omega
  have i1 : (k : Int) < (n : Int) := by omega
  clear ho hr hs ne hz hn hR hst hkn hin hw2 hl hN
  clear nq
  have ORD1 := Lib.hid (show f ≠ hb ∧ hb < base ∧ f < base ∧ rl < base ∧ rl ≠ f ∧ qg < base ∧ qg ≠ f from by have o_ := ORD.out; have n2 := NE2.out; omega)
  have Bq0 := (B0.out).cell 0
  have Bq9 := (B0.out).cell 9
  simp only [List.getElem?_toArray, List.getElem?_cons_succ, List.getElem?_cons_zero] at Bq0 Bq9
  go_enter Try.func16, Try.ntmps16
  go_upto_region 1 with fail
  clear Bq0 Bq9
  have hne : Nonempty (Held (Below w.heap.size w)) := ⟨⟨w, Below.refl _ _⟩⟩
  have p0 : ∀ y : Held (Below w.heap.size w), y.w.cell? ⟨f, 0, none⟩ = some (.slice (some ⟨rl, 0, none⟩) n cl) := fun y => (B0.out.bl y.ok).cell 0
  have p3 : ∀ y : Held (Below w.heap.size w), y.w.cell? ⟨f, 3, none⟩ = some (.int .i64 (k : Int)) := fun y => (B0.out.bl y.ok).cell 3
  have s0 : ∀ y : Held (Below w.heap.size w), y.w.cell? ⟨rl, k * 5, none⟩ = some (.int .i64 (l k).owners) := fun y => (S0.out.bl y.ok).cells k KN.out 0 (by decide)
  have s1 : ∀ y : Held (Below w.heap.size w), y.w.cell? ⟨rl, k * 5 + 1, none⟩ = some (.int .i64 (l k).seq) := fun y => (S0.out.bl y.ok).cells k KN.out 1 (by decide)
  have s2 : ∀ y : Held (Below w.heap.size w), y.w.cell? ⟨rl, k * 5 + 2, none⟩ = some (.int .i64 (l k).first) := fun y => (S0.out.bl y.ok).cells k KN.out 2 (by decide)
  have s3 : ∀ y : Held (Below w.heap.size w), y.w.cell? ⟨rl, k * 5 + 3, none⟩ = some (.int .i64 (l k).words) := fun y => (S0.out.bl y.ok).cells k KN.out 3 (by decide)
  have s4 : ∀ y : Held (Below w.heap.size w), y.w.cell? ⟨rl, k * 5 + 4, none⟩ = some (.int .i64 (l k).depth) := fun y => (S0.out.bl y.ok).cells k KN.out 4 (by decide)
  refine drawn_bars (S := (Below w.heap.size w)) [([0, 1, 2, 3, 4, 5, 6, 7, 8, 9], 10), ([], 11)] [] (by kernel_rfl) (by kernel_rfl) (by kernel_rfl) rfl (Below.refl _ _).drew ?_
  refine Phased.go ?_
  simp only [pick, List.map_cons, List.map_nil, List.getElem?_cons_zero, List.getElem?_cons_succ, Option.getD_some]
  repeat (go_big_quiet_step (fail))
  refine wpQuiet_nil ?_
  have hbd : Below w.heap.size w w.drew := (Below.refl _ _).drew
  go_wp2_with fail
  refine behind_normal ⟨(Below w.heap.size w), fun W h => h, hbd.alloc (Nat.le_refl _) _, ?_⟩
  refine Phased.go ?_
  simp only [pick, List.map_cons, List.map_nil, List.getElem?_cons_zero, List.getElem?_cons_succ, Option.getD_some]
  repeat (go_big_quiet_step (fail))
  refine wpQuiet_nil ?_
  go_wp2_with fail
  have hn9 : Blk ((w.alloc (.cells #[.int .i64 (l k).owners, .int .i64 (l k).seq, .int .i64 (l k).first, .int .i64 (l k).words, .int .i64 (l k).depth] 95)).drew) w.heap.size 95 #[.int .i64 (l k).owners, .int .i64 (l k).seq, .int .i64 (l k).first, .int .i64 (l k).words, .int .i64 (l k).depth] := Blk.new w _ _
  obtain ⟨sb, hsb⟩ : ∃ sb, w.heap.size = sb := ⟨_, rfl⟩
  have hsb0 : base ≤ sb := hsb ▸ SZ.out
  have HOWN := Lib.hid (fun b h => show b < sb from hsb ▸ (World.ownsRow.lt O0.out b h).2)
  have hb9 := hbd.alloc (Nat.le_refl _) (.cells #[.int .i64 (l k).owners, .int .i64 (l k).seq, .int .i64 (l k).first, .int .i64 (l k).words, .int .i64 (l k).depth] 95)
  refine behind_normal ⟨(Below w.heap.size w), fun W h => h, hb9, ?_⟩
  refine Phased.end_ ?_
  have hne5 : Nonempty (Held (fun W => W = ((w.alloc (.cells #[.int .i64 (l k).owners, .int .i64 (l k).seq, .int .i64 (l k).first, .int .i64 (l k).words, .int .i64 (l k).depth] 95)).drew))) := ⟨⟨_, rfl⟩⟩
  simp only [pick, List.map_cons, List.map_nil, List.getElem?_cons_zero, List.getElem?_cons_succ, Option.getD_some]
  repeat (go_big_quiet_step (fail))
  refine wpQuiet_nil ?_
  simp only [hsb] at hn9 ⊢
  have ORD2 := Lib.hid (show f ≠ hb ∧ hb < base ∧ f < base ∧ rl < base ∧ rl ≠ f ∧ qg < base ∧ qg ≠ f ∧ base ≤ sb from by have o_ := ORD1.out; omega)
  clear hb9 hne5 hbd hne p0 p3 s0 s1 s2 s3 s4
  have ee : Ex (fun _ => False) w ((w.alloc (.cells #[.int .i64 (l k).owners, .int .i64 (l k).seq, .int .i64 (l k).first, .int .i64 (l k).words, .int .i64 (l k).depth] 95)).drew) := ((Ex.refl _ w).alloc _).drew
  have B_3 := Lib.hid (B0.out.ex ee (fun h => h))
  have R_3 := Lib.hid (R0.out.ex ee (fun h => h))
  have S_3 := Lib.hid (S0.out.ex ee (fun h => h))
  have X_3 := Lib.hid (X0.out.ex ee (fun b_ h_ => h_.elim))
  have P_3 := Lib.hid (P0.out.ex ee (fun h => h))
  have O_3 := Lib.hid (O0.out.ex ee (fun b_ h_ => h_.elim))
  have D_3 := Lib.hid (hn9)
  clear ee B0 R0 S0 X0 P0 O0 hn9 hsb0
  generalize ((w.alloc (.cells #[.int .i64 (l k).owners, .int .i64 (l k).seq, .int .i64 (l k).first, .int .i64 (l k).words, .int .i64 (l k).depth] 95)).drew) = w1 at *
  have Bq0 := (B_3.out).cell 0
  have Bq2 := (B_3.out).cell 2
  simp only [List.getElem?_toArray, List.getElem?_cons_succ, List.getElem?_cons_zero] at Bq0 Bq2
  have d1 := D_3.out.cell 1
  simp only [List.getElem?_toArray, List.getElem?_cons_succ, List.getElem?_cons_zero] at d1
  go_upto_region 4 with fail
  clear Bq0 Bq2 d1
  have hne : Nonempty (Held (Below w1.heap.size w1)) := ⟨⟨w1, Below.refl _ _⟩⟩
  have p3 : ∀ y : Held (Below w1.heap.size w1), y.w.cell? ⟨f, 3, none⟩ = some (.int .i64 (k : Int)) := fun y => (B_3.out.bl y.ok).cell 3
  have p4 : ∀ y : Held (Below w1.heap.size w1), y.w.cell? ⟨f, 4, none⟩ = some (.int .i64 N) := fun y => (B_3.out.bl y.ok).cell 4
  have p6 : ∀ y : Held (Below w1.heap.size w1), y.w.cell? ⟨f, 6, none⟩ = some (.slice (some ⟨qg, 0, none⟩) n cg) := fun y => (B_3.out.bl y.ok).cell 6
  have s0 : ∀ y : Held (Below w1.heap.size w1), y.w.cell? ⟨sb, 0, none⟩ = some (.int .i64 (l k).owners) := fun y => (D_3.out.bl y.ok).cell 0
  have s1 : ∀ y : Held (Below w1.heap.size w1), y.w.cell? ⟨sb, 1, none⟩ = some (.int .i64 (l k).seq) := fun y => (D_3.out.bl y.ok).cell 1
  have s2 : ∀ y : Held (Below w1.heap.size w1), y.w.cell? ⟨sb, 2, none⟩ = some (.int .i64 (l k).first) := fun y => (D_3.out.bl y.ok).cell 2
  have s3 : ∀ y : Held (Below w1.heap.size w1), y.w.cell? ⟨sb, 3, none⟩ = some (.int .i64 (l k).words) := fun y => (D_3.out.bl y.ok).cell 3
  have s4 : ∀ y : Held (Below w1.heap.size w1), y.w.cell? ⟨sb, 4, none⟩ = some (.int .i64 (l k).depth) := fun y => (D_3.out.bl y.ok).cell 4
  have pg : ∀ y : Held (Below w1.heap.size w1), y.w.cell? ⟨qg, k, none⟩ = some (.int .u64 (nth gl k)) := fun y => (P_3.out.below y.ok).at_ k (by rw [GL.out]; exact KN.out)
  refine drawn_bars (S := (Below w1.heap.size w1)) [([0, 1, 2, 3, 4, 5, 6, 7, 8, 9, 10, 12, 13, 14, 15], 11)] [16, 17] (by kernel_rfl) (by kernel_rfl) (by kernel_rfl) rfl (Below.refl _ _).drew ?_
  refine Phased.go ?_
  simp only [pick, List.map_cons, List.map_nil, List.getElem?_cons_zero, List.getElem?_cons_succ, Option.getD_some]
  repeat (go_big_quiet_step (fail))
  refine wpQuiet_nil ?_
  go_wp2_with fail
  refine (HAT.out _ trivial).mono ?_; rintro e w2 ⟨rfl, hb1⟩
  have hb2 := bl ((Below.refl w1.heap.size w1).drew) hb1
  generalize atF (l k) (nth gl k) = a9 at *
  have kwl := HWL.out
  go_wp2_with fail
  refine behind_normal ⟨(Below w1.heap.size w1), fun W h => h, hb2, ?_⟩
  refine Phased.end_ ?_
  have hne5 : Nonempty (Held (fun W => W = w2)) := ⟨⟨_, rfl⟩⟩
  simp only [pick, List.map_cons, List.map_nil, List.getElem?_cons_zero, List.getElem?_cons_succ, Option.getD_some]
  repeat (go_big_quiet_step (fail))
  refine wpQuiet_nil ?_
  clear hne5 hb1 HAT hne p3 p4 p6 s0 s1 s2 s3 s4 pg
  have ee : Ex (fun _ => False) w1 w2 := Ex.of_below hb2
  have B_4 := Lib.hid (B_3.out.ex ee (fun h => h))
  have R_4 := Lib.hid (R_3.out.ex ee (fun h => h))
  have S_4 := Lib.hid (S_3.out.ex ee (fun h => h))
  have X_4 := Lib.hid (X_3.out.ex ee (fun b_ h_ => h_.elim))
  have P_4 := Lib.hid (P_3.out.ex ee (fun h => h))
  have O_4 := Lib.hid (O_3.out.ex ee (fun b_ h_ => h_.elim))
  have D_4 := Lib.hid (D_3.out.ex ee (fun h => h))
  clear ee B_3 R_3 S_3 X_3 P_3 O_3 D_3 hb2
  have kq0 : (0 : Int) ≤ (p : Int) := by omega
  have kq1 : (p : Int) < (ws.length : Int) := by have := HIN.out; omega
  have k1 : decide ((p : Int) < 0) = false := decide_eq_false (by omega)
  have k2 : decide ((p : Int) ≥ (ws.length : Int)) = false := decide_eq_false (by omega)
  have kn1 : wrap64 (N + 1) = N + 1 := wrap64_in _ (by have := HN.out; omega)
  have Bq0 := (B_4.out).cell 0
  have Bq2 := (B_4.out).cell 2
  have Bq10 := (B_4.out).cell 10
  simp only [List.getElem?_toArray, List.getElem?_cons_succ, List.getElem?_cons_zero] at Bq0 Bq2 Bq10
  have Bf10 := (B_4.out).frozen 10
  have hst := HST.out
  go_upto_region 8 with fail
  clear Bq0 Bq2 Bq10 Bf10
  have bb := (B_4.out.set_ 10 (.int .i64 (steps + 1)))
  simp only [List.setIfInBounds_toArray, List.set_cons_succ, List.set_cons_zero] at bb
  have BB := Lib.hid bb
  clear bb
  have ee : Ex (fun k => k = f) w2 (w2.setCell ⟨f, 10, none⟩ (.int .i64 (steps + 1))) := ((Ex.refl (fun k => k = f) w2).setCell (q := ⟨f, 10, none⟩) (.inl rfl) (.int .i64 (steps + 1)))
  have R_5 := Lib.hid (R_4.out.ex ee (by have o_ := ORD2.out; omega))
  have S_5 := Lib.hid (S_4.out.ex ee (by have o_ := ORD2.out; omega))
  have X_5 := Lib.hid (X_4.out.ex ee (fun b_ h_ => by have o_ := ORD2.out; have h_ : b_ = f := h_; first | omega | (show _ ∨ _; omega)))
  have P_5 := Lib.hid (P_4.out.ex ee (by have o_ := ORD2.out; omega))
  have O_5 := Lib.hid (O_4.out.ex ee (fun b_ h_ => by have o_ := ORD2.out; have h_ : b_ = f := h_; omega))
  have D_5 := Lib.hid (D_4.out.ex ee (by have o_ := ORD2.out; omega))
  have B_5 := Lib.hid (BB.out)
  clear ee B_4 R_4 S_4 X_4 P_4 O_4 D_4 BB
  generalize (w2.setCell ⟨f, 10, none⟩ (.int .i64 (steps + 1))) = w3 at *
  have hn1 := HN1.out
  have kl : ((k : Int) == (n : Int) - 1) = false := beq_eq_false_iff_ne.2 HL.out
  have hne : Nonempty (Held (fun W => W = w3.drew)) := ⟨⟨_, rfl⟩⟩
  have p0 : ∀ y : Held (fun W => W = w3.drew), y.w.cell? ⟨f, 0, none⟩ = some (.slice (some ⟨rl, 0, none⟩) n cl) := fun y => by rw [y.ok]; exact B_5.out.cell 0
  have p3 : ∀ y : Held (fun W => W = w3.drew), y.w.cell? ⟨f, 3, none⟩ = some (.int .i64 (k : Int)) := fun y => by rw [y.ok]; exact B_5.out.cell 3
  refine drawn_bars (S := fun _ => True) [] [0, 1, 2, 3, 4, 5, 6, 7, 8, 9, 10, 11] (by kernel_rfl) (by kernel_rfl) (by kernel_rfl) rfl trivial ?_
  refine Phased.end_ ?_
  simp only [pick, List.map_cons, List.map_nil, List.getElem?_cons_zero, List.getElem?_cons_succ, Option.getD_some]
  repeat (go_big_quiet_step (fail))
  refine wpQuiet_nil ?_
  clear hne p0 p3
  have ee : Ex (fun _ => False) w3 w3.drew := (Ex.refl _ w3).drew
  have B_6 := Lib.hid (B_5.out.ex ee (fun h => h))
  have R_6 := Lib.hid (R_5.out.ex ee (fun h => h))
  have S_6 := Lib.hid (S_5.out.ex ee (fun h => h))
  have X_6 := Lib.hid (X_5.out.ex ee (fun b_ h_ => h_.elim))
  have P_6 := Lib.hid (P_5.out.ex ee (fun h => h))
  have O_6 := Lib.hid (O_5.out.ex ee (fun b_ h_ => h_.elim))
  have D_6 := Lib.hid (D_5.out.ex ee (fun h => h))
  clear ee B_5 R_5 S_5 X_5 P_5 O_5 D_5
  generalize w3.drew = w4 at *
  have Bq0 := (B_6.out).cell 0
  have Bq2 := (B_6.out).cell 2
  simp only [List.getElem?_toArray, List.getElem?_cons_succ, List.getElem?_cons_zero] at Bq0 Bq2
  go_upto_region 22 with fail
  clear Bq0 Bq2
  have hne : Nonempty (Held (Ex (fun k => base ≤ k) w4)) := ⟨⟨w4, Ex.refl _ _⟩⟩
  have p7 : ∀ y : Held (Ex (fun k => base ≤ k) w4), y.w.cell? ⟨f, 7, none⟩ = some (.slice va W.length vc) := fun y => (B_6.out.ex y.ok (by have := ORD.out; omega)).cell 7
  have pw : ∀ y : Held (Ex (fun k => base ≤ k) w4), y.w.cell? ⟨hb, p, none⟩ = some (.int .u64 (nth ws p)) := fun y => (R_6.out.ex y.ok (by have := ORD.out; omega)).word HIN.out
  obtain ⟨i0_, hi0, hz0, hz1, hz2⟩ := info_parts wordU_info
  refine drawn_tail (S := (Ex (fun k => base ≤ k) w4)) [13] [([0, 1, 2, 3, 4, 5, 6, 7, 8], 9), ([], 10), ([], 11), ([], 12), ([], 13)] (by kernel_rfl) (by kernel_rfl) (by kernel_rfl) rfl (Ex.refl _ _).drew ?_
  refine PhasedT.go ?_
  generalize hzz : nth ws p = z at *
  have HZZ := Lib.hid hzz
  clear hzz
  simp only [pick, List.map_cons, List.map_nil, List.getElem?_cons_zero, List.getElem?_cons_succ, Option.getD_some]
  repeat (go_big_quiet_step (fail))
  refine wpQuiet_nil ?_
  clear hne p7 pw
  have ee : Ex (fun _ => False) w4 w4.drew := (Ex.refl _ w4).drew
  have B_7 := Lib.hid (B_6.out.ex ee (fun h => h))
  have R_7 := Lib.hid (R_6.out.ex ee (fun h => h))
  have S_7 := Lib.hid (S_6.out.ex ee (fun h => h))
  have X_7 := Lib.hid (X_6.out.ex ee (fun b_ h_ => h_.elim))
  have P_7 := Lib.hid (P_6.out.ex ee (fun h => h))
  have O_7 := Lib.hid (O_6.out.ex ee (fun b_ h_ => h_.elim))
  have D_7 := Lib.hid (D_6.out.ex ee (fun h => h))
  clear ee B_6 R_6 S_6 X_6 P_6 O_6 D_6
  have EE0 := Lib.hid ((Ex.refl (fun k => base ≤ k) w4).drew)
  generalize w4.drew = wa at *
  have SZa := Lib.hid (Nat.le_trans SZ.out X_7.out.size)
  go_wp2_with fail
  refine behind_normal ⟨(Ex (fun k => base ≤ k) w4), fun W h => h, by first | exact EE0.out.alloc _ | exact fun _ => EE0.out.alloc _, ?_⟩
  refine PhasedT.go ?_
  simp only [pick, List.map_cons, List.map_nil, List.getElem?_cons_zero, List.getElem?_cons_succ, Option.getD_some]
  repeat (go_big_quiet_step (fail))
  refine wpQuiet_nil ?_
  go_wp2_with (at_builtin; refine wpList_append_own _ rfl _ _ 41 rfl base 42 i0_ (.int .u64 0) 1 8 Try.underlying41 hi0 hz0 hz1 hz2 rfl (by decide) _ _ _ rfl (World.ownsRow.alloc O_7.out _) ⟨wa.heap.size, 0, none⟩ 1 1 [.int .u64 (z)] rfl rfl ?c1 ?c2 ?c3 ?c4 ?c5 ?_)
  case c1 =>
    have hbn := Blk.new wa 42 #[.int .u64 (z)]
    intro j u hj
    match j, hj with
    | 0, hj => simp at hj; subst hj; exact hbn.cell 0
  case c2 =>
    intro u hu
    simp only [List.mem_cons, List.not_mem_nil, or_false] at hu
    subst hu; rfl
  case c3 => have h1 := HLEN.out; have h2 := SZa.out; first | omega | (unfold maxLen; omega) | (simp; omega)
  case c4 => have h1 := HLEN.out; have h2 := SZa.out; first | omega | (unfold maxLen; omega) | (simp; omega)
  case c5 => have h1 := HLEN.out; have h2 := SZa.out; first | omega | (unfold maxLen; omega) | (simp; omega)
  intro v' wb hown' hgrow _
  have hbel := ((Below.refl base wa).alloc SZa.out (.cells #[.int .u64 (z)] 42)).grown hgrow (by have := SZa.out; simp; omega) (fun k hk => (World.ownsRow.lt O_7.out k hk).1)
  have hgr2 := ((Ex.refl _ wa).alloc (.cells #[.int .u64 (z)] 42)).trans (Ex.of_grown hgrow)
  have hown2 : OwnR wb base v' (W ++ [z]) := by unfold OwnR; simpa using hown'
  obtain ⟨va2, vc2, rfl⟩ := hown2.form
  have hlw : (W ++ [z]).length = W.length + 1 := by simp
  have HO2 := Lib.hid (show OwnR wb base (.slice va2 (W.length + 1) vc2) (W ++ [z]) by have := hown2; rw [hlw] at this; exact this)
  have he : Ex (fun k => base ≤ k) wa wb := ⟨hbel.os, hbel.tape, hbel.output, hbel.size, fun k hk hn => hbel.block k (by omega)⟩
  have B_9 := Lib.hid (B_7.out.ex he (by have := ORD.out; omega))
  have R_9 := Lib.hid (R_7.out.ex he (by have := ORD.out; omega))
  have S_9 := Lib.hid (S_7.out.ex he (by have := ORD.out; omega))
  have D_9 := Lib.hid (D_7.out.ex hgr2 (fun h => Nat.lt_irrefl _ (HOWN.out _ h)))
  have X_9 := Lib.hid (X_7.out.ex he (fun k hk => .inr hk))
  have EE1 := Lib.hid (EE0.out.trans he)
  have P_9 := Lib.hid (P_7.out.ex he (by have := ORD2.out; omega))
  clear hown' hgrow hbel hown2 he hgr2 B_7 R_7 O_7 X_7 S_7 D_7 P_7 EE0
  refine behind_normal ⟨(Ex (fun k => base ≤ k) w4), fun W h => h, by first | exact EE1.out | exact fun _ => EE1.out, ?_⟩
  refine PhasedT.go ?_
  simp only [pick, List.map_cons, List.map_nil, List.getElem?_cons_zero, List.getElem?_cons_succ, Option.getD_some]
  repeat (go_big_quiet_step (fail))
  refine wpQuiet_nil ?_
  have Bq0 := B_9.out.cell 0
  simp only [List.getElem?_toArray, List.getElem?_cons_succ, List.getElem?_cons_zero] at Bq0
  go_wp2_with fail
  refine behind_normal ⟨(Ex (fun k => base ≤ k) w4), fun W h => h, by first | exact EE1.out | exact fun _ => EE1.out, ?_⟩
  refine PhasedT.go ?_
  simp only [pick, List.map_cons, List.map_nil, List.getElem?_cons_zero, List.getElem?_cons_succ, Option.getD_some]
  repeat (go_big_quiet_step (fail))
  refine wpQuiet_nil ?_
  clear Bq0
  go_wp2_with fail
  have Bq0 := (B_9.out).cell 0
  have Bq7 := (B_9.out).cell 7
  simp only [List.getElem?_toArray, List.getElem?_cons_succ, List.getElem?_cons_zero] at Bq0 Bq7
  have Bf7 := (B_9.out).frozen 7
  refine behind_normal ⟨(Ex (fun k => base ≤ k) w4), fun W h => h, by first | exact EE1.out | exact fun _ => EE1.out, ?_⟩
  refine PhasedT.go ?_
  simp only [pick, List.map_cons, List.map_nil, List.getElem?_cons_zero, List.getElem?_cons_succ, Option.getD_some]
  repeat (go_big_quiet_step (fail))
  refine wpQuiet_nil ?_
  go_wp2_with fail
  refine behind_normal ⟨(Ex (fun k => base ≤ k) w4), fun W h => h, by first | exact fun h => absurd h (by decide) | trivial | simp, ?_⟩
  refine PhasedT.end_ ?_
  clear Bq0 Bq7 Bf7
  have bb := (B_9.out.set_ 7 (.slice va2 (W.length + 1) vc2))
  simp only [List.setIfInBounds_toArray, List.set_cons_succ, List.set_cons_zero] at bb
  have BB := Lib.hid bb
  clear bb
  have ee : Ex (fun k => k = f) wb (wb.setCell ⟨f, 7, none⟩ (.slice va2 (W.length + 1) vc2)) := ((Ex.refl (fun k => k = f) wb).setCell (q := ⟨f, 7, none⟩) (.inl rfl) (.slice va2 (W.length + 1) vc2))
  have R_8 := Lib.hid (R_9.out.ex ee (by have o_ := ORD2.out; omega))
  have O_8 := Lib.hid (HO2.out.ex ee (fun b_ h_ => by have o_ := ORD2.out; have h_ : b_ = f := h_; omega))
  have X_8 := Lib.hid (X_9.out.ex ee (fun b_ h_ => by have o_ := ORD2.out; have h_ : b_ = f := h_; first | omega | (show _ ∨ _; omega)))
  have S_8 := Lib.hid (S_9.out.ex ee (by have o_ := ORD2.out; omega))
  have D_8 := Lib.hid (D_9.out.ex ee (by have o_ := ORD2.out; omega))
  have P_8 := Lib.hid (P_9.out.ex ee (by have o_ := ORD2.out; omega))
  have B_8 := Lib.hid (BB.out)
  clear ee B_9 R_9 HO2 X_9 S_9 D_9 P_9 BB
  generalize (wb.setCell ⟨f, 7, none⟩ (.slice va2 (W.length + 1) vc2)) = w6 at *
  have Bq0 := (B_8.out).cell 0
  have Bq4 := (B_8.out).cell 4
  simp only [List.getElem?_toArray, List.getElem?_cons_succ, List.getElem?_cons_zero] at Bq0 Bq4
  have Bf4 := (B_8.out).frozen 4
  go_upto_region 24 with fail
  clear Bq0 Bq4 Bf4
  have bb := (B_8.out.set_ 4 (.int .i64 (N + 1)))
  simp only [List.setIfInBounds_toArray, List.set_cons_succ, List.set_cons_zero] at bb
  have BB := Lib.hid bb
  clear bb
  have ee : Ex (fun k => k = f) w6 (w6.setCell ⟨f, 4, none⟩ (.int .i64 (N + 1))) := ((Ex.refl (fun k => k = f) w6).setCell (q := ⟨f, 4, none⟩) (.inl rfl) (.int .i64 (N + 1)))
  have R_9 := Lib.hid (R_8.out.ex ee (by have o_ := ORD2.out; omega))
  have O_9 := Lib.hid (O_8.out.ex ee (fun b_ h_ => by have o_ := ORD2.out; have h_ : b_ = f := h_; omega))
  have X_9 := Lib.hid (X_8.out.ex ee (fun b_ h_ => by have o_ := ORD2.out; have h_ : b_ = f := h_; first | omega | (show _ ∨ _; omega)))
  have S_9 := Lib.hid (S_8.out.ex ee (by have o_ := ORD2.out; omega))
  have D_9 := Lib.hid (D_8.out.ex ee (by have o_ := ORD2.out; omega))
  have P_9 := Lib.hid (P_8.out.ex ee (by have o_ := ORD2.out; omega))
  have B_9 := Lib.hid (BB.out)
  clear ee B_8 R_8 O_8 X_8 S_8 D_8 P_8 BB
  generalize (w6.setCell ⟨f, 4, none⟩ (.int .i64 (N + 1))) = w7 at *
  have kw : (N + 1 == (l k).words) = true := beq_iff_eq.2 HW2.out
  have hne : Nonempty (Held (fun W => W = w7.drew)) := ⟨⟨_, rfl⟩⟩
  have p4 : ∀ y : Held (fun W => W = w7.drew), y.w.cell? ⟨f, 4, none⟩ = some (.int .i64 (N + 1)) := fun y => by rw [y.ok]; exact B_9.out.cell 4
  have pd : ∀ y : Held (fun W => W = w7.drew), y.w.cell? ⟨sb, 3, none⟩ = some (.int .i64 (l k).words) := fun y => by rw [y.ok]; exact D_9.out.cell 3
  refine drawn_bars (S := fun _ => True) [] [0, 1, 2, 3, 4, 5, 6] (by kernel_rfl) (by kernel_rfl) (by kernel_rfl) rfl trivial ?_
  refine Phased.end_ ?_
  simp only [pick, List.map_cons, List.map_nil, List.getElem?_cons_zero, List.getElem?_cons_succ, Option.getD_some]
  repeat (go_big_quiet_step (fail))
  refine wpQuiet_nil ?_
  clear hne p4 pd
  have ee : Ex (fun _ => False) w7 w7.drew := (Ex.refl _ w7).drew
  have B_10 := Lib.hid (B_9.out.ex ee (fun h => h))
  have R_10 := Lib.hid (R_9.out.ex ee (fun h => h))
  have O_10 := Lib.hid (O_9.out.ex ee (fun b_ h_ => h_.elim))
  have X_10 := Lib.hid (X_9.out.ex ee (fun b_ h_ => h_.elim))
  have S_10 := Lib.hid (S_9.out.ex ee (fun h => h))
  have D_10 := Lib.hid (D_9.out.ex ee (fun h => h))
  have P_10 := Lib.hid (P_9.out.ex ee (fun h => h))
  clear ee B_9 R_9 O_9 X_9 S_9 D_9 P_9
  generalize w7.drew = w8 at *
  have hk1 := HK1.out
  have Bq0 := (B_10.out).cell 0
  have Bq3 := (B_10.out).cell 3
  have Bq4 := (B_10.out).cell 4
  simp only [List.getElem?_toArray, List.getElem?_cons_succ, List.getElem?_cons_zero] at Bq0 Bq3 Bq4
  have Bf3 := (B_10.out).frozen 3
  have Bf4 := (B_10.out).frozen 4
  go_wp2_with fail
  clear Bq0 Bq3 Bq4 Bf3 Bf4
  have bb := ((B_10.out.set_ 4 (.int .i64 0)).set_ 3 (.int .i64 ((k : Int) + 1)))
  simp only [List.setIfInBounds_toArray, List.set_cons_succ, List.set_cons_zero] at bb
  have BB := Lib.hid bb
  clear bb
  have ee : Ex (fun k => k = f) w8 ((w8.setCell ⟨f, 4, none⟩ (.int .i64 0)).setCell ⟨f, 3, none⟩ (.int .i64 ((k : Int) + 1))) := (((Ex.refl (fun k => k = f) w8).setCell (q := ⟨f, 4, none⟩) (.inl rfl) (.int .i64 0)).setCell (q := ⟨f, 3, none⟩) (.inl rfl) (.int .i64 ((k : Int) + 1)))
  have R_11 := Lib.hid (R_10.out.ex ee (by have o_ := ORD2.out; omega))
  have O_11 := Lib.hid (O_10.out.ex ee (fun b_ h_ => by have o_ := ORD2.out; have h_ : b_ = f := h_; omega))
  have X_11 := Lib.hid (X_10.out.ex ee (fun b_ h_ => by have o_ := ORD2.out; have h_ : b_ = f := h_; first | omega | (show _ ∨ _; omega)))
  have S_11 := Lib.hid (S_10.out.ex ee (by have o_ := ORD2.out; omega))
  have D_11 := Lib.hid (D_10.out.ex ee (by have o_ := ORD2.out; omega))
  have P_11 := Lib.hid (P_10.out.ex ee (by have o_ := ORD2.out; omega))
  have B_11 := Lib.hid (BB.out)
  clear ee B_10 R_10 O_10 X_10 S_10 D_10 P_10 BB
  first | (refine bodyPost_ret (results_none rfl _ _ _) rfl ?_) | go_end0
  rw [HZZ.out]
  exact ⟨rfl, ⟨_, B_11.out, O_11.out⟩, X_11.out⟩
set_option maxRecDepth 100000 in
set_option maxHeartbeats 4000000 in
theorem RS_2fl (base f hb rl n cl : Nat) (ws : List Int) (l : Nat → Spot) (T N had begun steps : Int) (k : Nat) (vg vw : Value) (qg cg : Nat) (gl W : List Int) (w : World) (ho : Blk w f 49 (rcs rl n cl T 2 (k : Int) N had (.slice (some ⟨qg, 0, none⟩) n cg) vw begun 0 steps)) (hs : SpsIn w rl n l) (hr : URow w hb ws)
    (ne : f ≠ hb ∧ hb < base ∧ f < base ∧ rl < base ∧ rl ≠ f) (hz : base ≤ w.heap.size) (hn : 1 ≤ n ∧ n ≤ 64) (hR : allR l n = true) (hst : 0 ≤ steps ∧ steps ≤ 1099511627776) (hkn : k < n) (hp : IntsIn w .u64 qg cg gl) (ho2 : OwnR w base vw W) (hgl : gl.length = n) (hgr : ∀ i, 0 ≤ nth gl i ∧ nth gl i ≤ 18446744073709551615) (nq : qg < base ∧ qg ≠ f) (p : Nat) (hpp : wrap64 (atF (l k) (nth gl k) + N) = (p : Int)) (hin : p < ws.length) (hW : W.length ≤ 4096) (hw2 : N + 1 = (l k).words) (hl : (k : Int) = (n : Int) - 1) (hN : 0 ≤ N ∧ N ≤ 64) :
    Calls Try.prog 16 #[.pointer (some ⟨f, 0, none⟩), .slice (some ⟨hb, 0, none⟩) ws.length ws.length] w fun e w' => e = .returned (.tuple #[]) ∧ (∃ v', Blk w' f 49 (rcs rl n cl T 3 0 0 had (.slice (some ⟨qg, 0, none⟩) n cg) v' begun 0 (steps + 1)) ∧ OwnR w' base v' (W ++ [nth ws p])) ∧ Ex (fun k => k = f ∨ base ≤ k) w w' := by
  have HLEN := Lib.hid (show W.length ≤ 4096 from hW)
  clear hW
  have HAT := Lib.hid (fun w (h : True) => rAt_any (l k) (nth gl k) w (hgr k) ((allR_iff l n).mp hR k hkn).atOk)
  unfold Spot.val at HAT
  have HAE := Lib.hid (atF_ok (gen := nth gl k) ((allR_iff l n).mp hR k hkn).atOk)
  have HAB := Lib.hid (atF_bounds (gen := nth gl k) ((allR_iff l n).mp hR k hkn).atOk)
  have HAO := Lib.hid (((allR_iff l n).mp hR k hkn).atOk)
  have P0 := Lib.hid hp
  have O0 := Lib.hid ho2
  have GL := Lib.hid hgl
  have HWL := Lib.hid (show wrap64 (atF (l k) (nth gl k) + N) = (p : Int) from hpp)
  obtain ⟨va, vc, rfl⟩ := OwnR.form ho2
  have NE2 := Lib.hid nq
  clear hp ho2 hgl hpp hgr
  have B0 := Lib.hid (show Blk w f 49 _ from ho)
  have R0 := Lib.hid hr
  have S0 := Lib.hid hs
  have X0 := Lib.hid (Ex.refl (fun k => k = f ∨ base ≤ k) w)
  have ORD := Lib.hid ne
  have SZ := Lib.hid hz
  have HNN := Lib.hid hn
  have HRR := Lib.hid hR
  have KN := Lib.hid hkn
  unfold rcs at B0
  have HIN := Lib.hid hin
  have HW2 := Lib.hid hw2
  have HL := Lib.hid hl
  have HN := Lib.hid hN
  have HST := Lib.hid (show wrap64 (steps + 1) = steps + 1 from wrap64_in _ (by omega))
  have HN1 := Lib.hid (show wrap64 ((n : Int) - 1) = (n : Int) - 1 from wrap64_in _ (by omega))
  have HK1 := Lib.hid (show wrap64 ((k : Int) + 1) = (k : Int) + 1 from wrap64_in _ (by omega))
  have i0 : (0 : Int) ≤ (k : Int) := by omega
  have i1 : (k : Int) < (n : Int) := by omega
  clear ho hr hs ne hz hn hR hst hkn hin hw2 hl hN
  clear nq
  have ORD1 := Lib.hid (show f ≠ hb ∧ hb < base ∧ f < base ∧ rl < base ∧ rl ≠ f ∧ qg < base ∧ qg ≠ f from by have o_ := ORD.out; have n2 := NE2.out; omega)
  have Bq0 := (B0.out).cell 0
  have Bq9 := (B0.out).cell 9
  simp only [List.getElem?_toArray, List.getElem?_cons_succ, List.getElem?_cons_zero] at Bq0 Bq9
  go_enter Try.func16, Try.ntmps16
  go_upto_region 1 with fail
  clear Bq0 Bq9
  have hne : Nonempty (Held (Below w.heap.size w)) := ⟨⟨w, Below.refl _ _⟩⟩
  have p0 : ∀ y : Held (Below w.heap.size w), y.w.cell? ⟨f, 0, none⟩ = some (.slice (some ⟨rl, 0, none⟩) n cl) := fun y => (B0.out.bl y.ok).cell 0
  have p3 : ∀ y : Held (Below w.heap.size w), y.w.cell? ⟨f, 3, none⟩ = some (.int .i64 (k : Int)) := fun y => (B0.out.bl y.ok).cell 3
  have s0 : ∀ y : Held (Below w.heap.size w), y.w.cell? ⟨rl, k * 5, none⟩ = some (.int .i64 (l k).owners) := fun y => (S0.out.bl y.ok).cells k KN.out 0 (by decide)
  have s1 : ∀ y : Held (Below w.heap.size w), y.w.cell? ⟨rl, k * 5 + 1, none⟩ = some (.int .i64 (l k).seq) := fun y => (S0.out.bl y.ok).cells k KN.out 1 (by decide)
  have s2 : ∀ y : Held (Below w.heap.size w), y.w.cell? ⟨rl, k * 5 + 2, none⟩ = some (.int .i64 (l k).first) := fun y => (S0.out.bl y.ok).cells k KN.out 2 (by decide)
  have s3 : ∀ y : Held (Below w.heap.size w), y.w.cell? ⟨rl, k * 5 + 3, none⟩ = some (.int .i64 (l k).words) := fun y => (S0.out.bl y.ok).cells k KN.out 3 (by decide)
  have s4 : ∀ y : Held (Below w.heap.size w), y.w.cell? ⟨rl, k * 5 + 4, none⟩ = some (.int .i64 (l k).depth) := fun y => (S0.out.bl y.ok).cells k KN.out 4 (by decide)
  refine drawn_bars (S := (Below w.heap.size w)) [([0, 1, 2, 3, 4, 5, 6, 7, 8, 9], 10), ([], 11)] [] (by kernel_rfl) (by kernel_rfl) (by kernel_rfl) rfl (Below.refl _ _).drew ?_
  refine Phased.go ?_
  simp only [pick, List.map_cons, List.map_nil, List.getElem?_cons_zero, List.getElem?_cons_succ, Option.getD_some]
  repeat (go_big_quiet_step (fail))
  refine wpQuiet_nil ?_
  have hbd : Below w.heap.size w w.drew := (Below.refl _ _).drew
  go_wp2_with fail
  refine behind_normal ⟨(Below w.heap.size w), fun W h => h, hbd.alloc (Nat.le_refl _) _, ?_⟩
  refine Phased.go ?_
  simp only [pick, List.map_cons, List.map_nil, List.getElem?_cons_zero, List.getElem?_cons_succ, Option.getD_some]
  repeat (go_big_quiet_step (fail))
  refine wpQuiet_nil ?_
  go_wp2_with fail
  have hn9 : Blk ((w.alloc (.cells #[.int .i64 (l k).owners, .int .i64 (l k).seq, .int .i64 (l k).first, .int .i64 (l k).words, .int .i64 (l k).depth] 95)).drew) w.heap.size 95 #[.int .i64 (l k).owners, .int .i64 (l k).seq, .int .i64 (l k).first, .int .i64 (l k).words, .int .i64 (l k).depth] := Blk.new w _ _
  obtain ⟨sb, hsb⟩ : ∃ sb, w.heap.size = sb := ⟨_, rfl⟩
  have hsb0 : base ≤ sb := hsb ▸ SZ.out
  have HOWN := Lib.hid (fun b h => show b < sb from hsb ▸ (World.ownsRow.lt O0.out b h).2)
  have hb9 := hbd.alloc (Nat.le_refl _) (.cells #[.int .i64 (l k).owners, .int .i64 (l k).seq, .int .i64 (l k).first, .int .i64 (l k).words, .int .i64 (l k).depth] 95)
  refine behind_normal ⟨(Below w.heap.size w), fun W h => h, hb9, ?_⟩
  refine Phased.end_ ?_
  have hne5 : Nonempty (Held (fun W => W = ((w.alloc (.cells #[.int .i64 (l k).owners, .int .i64 (l k).seq, .int .i64 (l k).first, .int .i64 (l k).words, .int .i64 (l k).depth] 95)).drew))) := ⟨⟨_, rfl⟩⟩
  simp only [pick, List.map_cons, List.map_nil, List.getElem?_cons_zero, List.getElem?_cons_succ, Option.getD_some]
  repeat (go_big_quiet_step (fail))
  refine wpQuiet_nil ?_
  simp only [hsb] at hn9 ⊢
  have ORD2 := Lib.hid (show f ≠ hb ∧ hb < base ∧ f < base ∧ rl < base ∧ rl ≠ f ∧ qg < base ∧ qg ≠ f ∧ base ≤ sb from by have o_ := ORD1.out; omega)
  clear hb9 hne5 hbd hne p0 p3 s0 s1 s2 s3 s4
  have ee : Ex (fun _ => False) w ((w.alloc (.cells #[.int .i64 (l k).owners, .int .i64 (l k).seq, .int .i64 (l k).first, .int .i64 (l k).words, .int .i64 (l k).depth] 95)).drew) := ((Ex.refl _ w).alloc _).drew
  have B_3 := Lib.hid (B0.out.ex ee (fun h => h))
  have R_3 := Lib.hid (R0.out.ex ee (fun h => h))
  have S_3 := Lib.hid (S0.out.ex ee (fun h => h))
  have X_3 := Lib.hid (X0.out.ex ee (fun b_ h_ => h_.elim))
  have P_3 := Lib.hid (P0.out.ex ee (fun h => h))
  have O_3 := Lib.hid (O0.out.ex ee (fun b_ h_ => h_.elim))
  have D_3 := Lib.hid (hn9)
  clear ee B0 R0 S0 X0 P0 O0 hn9 hsb0
  generalize ((w.alloc (.cells #[.int .i64 (l k).owners, .int .i64 (l k).seq, .int .i64 (l k).first, .int .i64 (l k).words, .int .i64 (l k).depth] 95)).drew) = w1 at *
  have Bq0 := (B_3.out).cell 0
  have Bq2 := (B_3.out).cell 2
  simp only [List.getElem?_toArray, List.getElem?_cons_succ, List.getElem?_cons_zero] at Bq0 Bq2
  have d1 := D_3.out.cell 1
  simp only [List.getElem?_toArray, List.getElem?_cons_succ, List.getElem?_cons_zero] at d1
  go_upto_region 4 with fail
  clear Bq0 Bq2 d1
  have hne : Nonempty (Held (Below w1.heap.size w1)) := ⟨⟨w1, Below.refl _ _⟩⟩
  have p3 : ∀ y : Held (Below w1.heap.size w1), y.w.cell? ⟨f, 3, none⟩ = some (.int .i64 (k : Int)) := fun y => (B_3.out.bl y.ok).cell 3
  have p4 : ∀ y : Held (Below w1.heap.size w1), y.w.cell? ⟨f, 4, none⟩ = some (.int .i64 N) := fun y => (B_3.out.bl y.ok).cell 4
  have p6 : ∀ y : Held (Below w1.heap.size w1), y.w.cell? ⟨f, 6, none⟩ = some (.slice (some ⟨qg, 0, none⟩) n cg) := fun y => (B_3.out.bl y.ok).cell 6
  have s0 : ∀ y : Held (Below w1.heap.size w1), y.w.cell? ⟨sb, 0, none⟩ = some (.int .i64 (l k).owners) := fun y => (D_3.out.bl y.ok).cell 0
  have s1 : ∀ y : Held (Below w1.heap.size w1), y.w.cell? ⟨sb, 1, none⟩ = some (.int .i64 (l k).seq) := fun y => (D_3.out.bl y.ok).cell 1
  have s2 : ∀ y : Held (Below w1.heap.size w1), y.w.cell? ⟨sb, 2, none⟩ = some (.int .i64 (l k).first) := fun y => (D_3.out.bl y.ok).cell 2
  have s3 : ∀ y : Held (Below w1.heap.size w1), y.w.cell? ⟨sb, 3, none⟩ = some (.int .i64 (l k).words) := fun y => (D_3.out.bl y.ok).cell 3
  have s4 : ∀ y : Held (Below w1.heap.size w1), y.w.cell? ⟨sb, 4, none⟩ = some (.int .i64 (l k).depth) := fun y => (D_3.out.bl y.ok).cell 4
  have pg : ∀ y : Held (Below w1.heap.size w1), y.w.cell? ⟨qg, k, none⟩ = some (.int .u64 (nth gl k)) := fun y => (P_3.out.below y.ok).at_ k (by rw [GL.out]; exact KN.out)
  refine drawn_bars (S := (Below w1.heap.size w1)) [([0, 1, 2, 3, 4, 5, 6, 7, 8, 9, 10, 12, 13, 14, 15], 11)] [16, 17] (by kernel_rfl) (by kernel_rfl) (by kernel_rfl) rfl (Below.refl _ _).drew ?_
  refine Phased.go ?_
  simp only [pick, List.map_cons, List.map_nil, List.getElem?_cons_zero, List.getElem?_cons_succ, Option.getD_some]
  repeat (go_big_quiet_step (fail))
  refine wpQuiet_nil ?_
  go_wp2_with fail
  refine (HAT.out _ trivial).mono ?_; rintro e w2 ⟨rfl, hb1⟩
  have hb2 := bl ((Below.refl w1.heap.size w1).drew) hb1
  generalize atF (l k) (nth gl k) = a9 at *
  have kwl := HWL.out
  go_wp2_with fail
  refine behind_normal ⟨(Below w1.heap.size w1), fun W h => h, hb2, ?_⟩
  refine Phased.end_ ?_
  have hne5 : Nonempty (Held (fun W => W = w2)) := ⟨⟨_, rfl⟩⟩
  simp only [pick, List.map_cons, List.map_nil, List.getElem?_cons_zero, List.getElem?_cons_succ, Option.getD_some]
  repeat (go_big_quiet_step (fail))
  refine wpQuiet_nil ?_
  clear hne5 hb1 HAT hne p3 p4 p6 s0 s1 s2 s3 s4 pg
  have ee : Ex (fun _ => False) w1 w2 := Ex.of_below hb2
  have B_4 := Lib.hid (B_3.out.ex ee (fun h => h))
  have R_4 := Lib.hid (R_3.out.ex ee (fun h => h))
  have S_4 := Lib.hid (S_3.out.ex ee (fun h => h))
  have X_4 := Lib.hid (X_3.out.ex ee (fun b_ h_ => h_.elim))
  have P_4 := Lib.hid (P_3.out.ex ee (fun h => h))
  have O_4 := Lib.hid (O_3.out.ex ee (fun b_ h_ => h_.elim))
  have D_4 := Lib.hid (D_3.out.ex ee (fun h => h))
  clear ee B_3 R_3 S_3 X_3 P_3 O_3 D_3 hb2
  have kq0 : (0 : Int) ≤ (p : Int) := by omega
  have kq1 : (p : Int) < (ws.length : Int) := by have := HIN.out; omega
  have k1 : decide ((p : Int) < 0) = false := decide_eq_false (by omega)
  have k2 : decide ((p : Int) ≥ (ws.length : Int)) = false := decide_eq_false (by omega)
  have kn1 : wrap64 (N + 1) = N + 1 := wrap64_in _ (by have := HN.out; omega)
  have Bq0 := (B_4.out).cell 0
  have Bq2 := (B_4.out).cell 2
  have Bq10 := (B_4.out).cell 10
  simp only [List.getElem?_toArray, List.getElem?_cons_succ, List.getElem?_cons_zero] at Bq0 Bq2 Bq10
  have Bf10 := (B_4.out).frozen 10
  have hst := HST.out
  go_upto_region 8 with fail
  clear Bq0 Bq2 Bq10 Bf10
  have bb := (B_4.out.set_ 10 (.int .i64 (steps + 1)))
  simp only [List.setIfInBounds_toArray, List.set_cons_succ, List.set_cons_zero] at bb
  have BB := Lib.hid bb
  clear bb
  have ee : Ex (fun k => k = f) w2 (w2.setCell ⟨f, 10, none⟩ (.int .i64 (steps + 1))) := ((Ex.refl (fun k => k = f) w2).setCell (q := ⟨f, 10, none⟩) (.inl rfl) (.int .i64 (steps + 1)))
  have R_5 := Lib.hid (R_4.out.ex ee (by have o_ := ORD2.out; omega))
  have S_5 := Lib.hid (S_4.out.ex ee (by have o_ := ORD2.out; omega))
  have X_5 := Lib.hid (X_4.out.ex ee (fun b_ h_ => by have o_ := ORD2.out; have h_ : b_ = f := h_; first | omega | (show _ ∨ _; omega)))
  have P_5 := Lib.hid (P_4.out.ex ee (by have o_ := ORD2.out; omega))
  have O_5 := Lib.hid (O_4.out.ex ee (fun b_ h_ => by have o_ := ORD2.out; have h_ : b_ = f := h_; omega))
  have D_5 := Lib.hid (D_4.out.ex ee (by have o_ := ORD2.out; omega))
  have B_5 := Lib.hid (BB.out)
  clear ee B_4 R_4 S_4 X_4 P_4 O_4 D_4 BB
  generalize (w2.setCell ⟨f, 10, none⟩ (.int .i64 (steps + 1))) = w3 at *
  have hn1 := HN1.out
  have kl : ((k : Int) == (n : Int) - 1) = true := beq_iff_eq.2 HL.out
  have hne : Nonempty (Held (fun W => W = w3.drew)) := ⟨⟨_, rfl⟩⟩
  have p0 : ∀ y : Held (fun W => W = w3.drew), y.w.cell? ⟨f, 0, none⟩ = some (.slice (some ⟨rl, 0, none⟩) n cl) := fun y => by rw [y.ok]; exact B_5.out.cell 0
  have p3 : ∀ y : Held (fun W => W = w3.drew), y.w.cell? ⟨f, 3, none⟩ = some (.int .i64 (k : Int)) := fun y => by rw [y.ok]; exact B_5.out.cell 3
  refine drawn_bars (S := fun _ => True) [] [0, 1, 2, 3, 4, 5, 6, 7, 8, 9, 10, 11] (by kernel_rfl) (by kernel_rfl) (by kernel_rfl) rfl trivial ?_
  refine Phased.end_ ?_
  simp only [pick, List.map_cons, List.map_nil, List.getElem?_cons_zero, List.getElem?_cons_succ, Option.getD_some]
  repeat (go_big_quiet_step (fail))
  refine wpQuiet_nil ?_
  clear hne p0 p3
  have ee : Ex (fun _ => False) w3 w3.drew := (Ex.refl _ w3).drew
  have B_6 := Lib.hid (B_5.out.ex ee (fun h => h))
  have R_6 := Lib.hid (R_5.out.ex ee (fun h => h))
  have S_6 := Lib.hid (S_5.out.ex ee (fun h => h))
  have X_6 := Lib.hid (X_5.out.ex ee (fun b_ h_ => h_.elim))
  have P_6 := Lib.hid (P_5.out.ex ee (fun h => h))
  have O_6 := Lib.hid (O_5.out.ex ee (fun b_ h_ => h_.elim))
  have D_6 := Lib.hid (D_5.out.ex ee (fun h => h))
  clear ee B_5 R_5 S_5 X_5 P_5 O_5 D_5
  generalize w3.drew = w4 at *
  have Bq0 := (B_6.out).cell 0
  have Bq2 := (B_6.out).cell 2
  simp only [List.getElem?_toArray, List.getElem?_cons_succ, List.getElem?_cons_zero] at Bq0 Bq2
  go_upto_region 22 with fail
  clear Bq0 Bq2
  have hne : Nonempty (Held (Ex (fun k => base ≤ k) w4)) := ⟨⟨w4, Ex.refl _ _⟩⟩
  have p7 : ∀ y : Held (Ex (fun k => base ≤ k) w4), y.w.cell? ⟨f, 7, none⟩ = some (.slice va W.length vc) := fun y => (B_6.out.ex y.ok (by have := ORD.out; omega)).cell 7
  have pw : ∀ y : Held (Ex (fun k => base ≤ k) w4), y.w.cell? ⟨hb, p, none⟩ = some (.int .u64 (nth ws p)) := fun y => (R_6.out.ex y.ok (by have := ORD.out; omega)).word HIN.out
  obtain ⟨i0_, hi0, hz0, hz1, hz2⟩ := info_parts wordU_info
  refine drawn_tail (S := (Ex (fun k => base ≤ k) w4)) [13] [([0, 1, 2, 3, 4, 5, 6, 7, 8], 9), ([], 10), ([], 11), ([], 12), ([], 13)] (by kernel_rfl) (by kernel_rfl) (by kernel_rfl) rfl (Ex.refl _ _).drew ?_
  refine PhasedT.go ?_
  generalize hzz : nth ws p = z at *
  have HZZ := Lib.hid hzz
  clear hzz
  simp only [pick, List.map_cons, List.map_nil, List.getElem?_cons_zero, List.getElem?_cons_succ, Option.getD_some]
  repeat (go_big_quiet_step (fail))
  refine wpQuiet_nil ?_
  clear hne p7 pw
  have ee : Ex (fun _ => False) w4 w4.drew := (Ex.refl _ w4).drew
  have B_7 := Lib.hid (B_6.out.ex ee (fun h => h))
  have R_7 := Lib.hid (R_6.out.ex ee (fun h => h))
  have S_7 := Lib.hid (S_6.out.ex ee (fun h => h))
  have X_7 := Lib.hid (X_6.out.ex ee (fun b_ h_ => h_.elim))
  have P_7 := Lib.hid (P_6.out.ex ee (fun h => h))
  have O_7 := Lib.hid (O_6.out.ex ee (fun b_ h_ => h_.elim))
  have D_7 := Lib.hid (D_6.out.ex ee (fun h => h))
  clear ee B_6 R_6 S_6 X_6 P_6 O_6 D_6
  have EE0 := Lib.hid ((Ex.refl (fun k => base ≤ k) w4).drew)
  generalize w4.drew = wa at *
  have SZa := Lib.hid (Nat.le_trans SZ.out X_7.out.size)
  go_wp2_with fail
  refine behind_normal ⟨(Ex (fun k => base ≤ k) w4), fun W h => h, by first | exact EE0.out.alloc _ | exact fun _ => EE0.out.alloc _, ?_⟩
  refine PhasedT.go ?_
  simp only [pick, List.map_cons, List.map_nil, List.getElem?_cons_zero, List.getElem?_cons_succ, Option.getD_some]
  repeat (go_big_quiet_step (fail))
  refine wpQuiet_nil ?_
  go_wp2_with (at_builtin; refine wpList_append_own _ rfl _ _ 41 rfl base 42 i0_ (.int .u64 0) 1 8 Try.underlying41 hi0 hz0 hz1 hz2 rfl (by decide) _ _ _ rfl (World.ownsRow.alloc O_7.out _) ⟨wa.heap.size, 0, none⟩ 1 1 [.int .u64 (z)] rfl rfl ?c1 ?c2 ?c3 ?c4 ?c5 ?_)
  case c1 =>
    have hbn := Blk.new wa 42 #[.int .u64 (z)]
    intro j u hj
    match j, hj with
    | 0, hj => simp at hj; subst hj; exact hbn.cell 0
  case c2 =>
    intro u hu
    simp only [List.mem_cons, List.not_mem_nil, or_false] at hu
    subst hu; rfl
  case c3 => have h1 := HLEN.out; have h2 := SZa.out; first | omega | (unfold maxLen; omega) | (simp; omega)
  case c4 => have h1 := HLEN.out; have h2 := SZa.out; first | omega | (unfold maxLen; omega) | (simp; omega)
  case c5 => have h1 := HLEN.out; have h2 := SZa.out; first | omega | (unfold maxLen; omega) | (simp; omega)
  intro v' wb hown' hgrow _
  have hbel := ((Below.refl base wa).alloc SZa.out (.cells #[.int .u64 (z)] 42)).grown hgrow (by have := SZa.out; simp; omega) (fun k hk => (World.ownsRow.lt O_7.out k hk).1)
  have hgr2 := ((Ex.refl _ wa).alloc (.cells #[.int .u64 (z)] 42)).trans (Ex.of_grown hgrow)
  have hown2 : OwnR wb base v' (W ++ [z]) := by unfold OwnR; simpa using hown'
  obtain ⟨va2, vc2, rfl⟩ := hown2.form
  have hlw : (W ++ [z]).length = W.length + 1 := by simp
  have HO2 := Lib.hid (show OwnR wb base (.slice va2 (W.length + 1) vc2) (W ++ [z]) by have := hown2; rw [hlw] at this; exact this)
  have he : Ex (fun k => base ≤ k) wa wb := ⟨hbel.os, hbel.tape, hbel.output, hbel.size, fun k hk hn => hbel.block k (by omega)⟩
  have B_9 := Lib.hid (B_7.out.ex he (by have := ORD.out; omega))
  have R_9 := Lib.hid (R_7.out.ex he (by have := ORD.out; omega))
  have S_9 := Lib.hid (S_7.out.ex he (by have := ORD.out; omega))
  have D_9 := Lib.hid (D_7.out.ex hgr2 (fun h => Nat.lt_irrefl _ (HOWN.out _ h)))
  have X_9 := Lib.hid (X_7.out.ex he (fun k hk => .inr hk))
  have EE1 := Lib.hid (EE0.out.trans he)
  have P_9 := Lib.hid (P_7.out.ex he (by have := ORD2.out; omega))
  clear hown' hgrow hbel hown2 he hgr2 B_7 R_7 O_7 X_7 S_7 D_7 P_7 EE0
  refine behind_normal ⟨(Ex (fun k => base ≤ k) w4), fun W h => h, by first | exact EE1.out | exact fun _ => EE1.out, ?_⟩
  refine PhasedT.go ?_
  simp only [pick, List.map_cons, List.map_nil, List.getElem?_cons_zero, List.getElem?_cons_succ, Option.getD_some]
  repeat (go_big_quiet_step (fail))
  refine wpQuiet_nil ?_
  have Bq0 := B_9.out.cell 0
  simp only [List.getElem?_toArray, List.getElem?_cons_succ, List.getElem?_cons_zero] at Bq0
  go_wp2_with fail
  refine behind_normal ⟨(Ex (fun k => base ≤ k) w4), fun W h => h, by first | exact EE1.out | exact fun _ => EE1.out, ?_⟩
  refine PhasedT.go ?_
  simp only [pick, List.map_cons, List.map_nil, List.getElem?_cons_zero, List.getElem?_cons_succ, Option.getD_some]
  repeat (go_big_quiet_step (fail))
  refine wpQuiet_nil ?_
  clear Bq0
  go_wp2_with fail
  have Bq0 := (B_9.out).cell 0
  have Bq7 := (B_9.out).cell 7
  simp only [List.getElem?_toArray, List.getElem?_cons_succ, List.getElem?_cons_zero] at Bq0 Bq7
  have Bf7 := (B_9.out).frozen 7
  refine behind_normal ⟨(Ex (fun k => base ≤ k) w4), fun W h => h, by first | exact EE1.out | exact fun _ => EE1.out, ?_⟩
  refine PhasedT.go ?_
  simp only [pick, List.map_cons, List.map_nil, List.getElem?_cons_zero, List.getElem?_cons_succ, Option.getD_some]
  repeat (go_big_quiet_step (fail))
  refine wpQuiet_nil ?_
  go_wp2_with fail
  refine behind_normal ⟨(Ex (fun k => base ≤ k) w4), fun W h => h, by first | exact fun h => absurd h (by decide) | trivial | simp, ?_⟩
  refine PhasedT.end_ ?_
  clear Bq0 Bq7 Bf7
  have bb := (B_9.out.set_ 7 (.slice va2 (W.length + 1) vc2))
  simp only [List.setIfInBounds_toArray, List.set_cons_succ, List.set_cons_zero] at bb
  have BB := Lib.hid bb
  clear bb
  have ee : Ex (fun k => k = f) wb (wb.setCell ⟨f, 7, none⟩ (.slice va2 (W.length + 1) vc2)) := ((Ex.refl (fun k => k = f) wb).setCell (q := ⟨f, 7, none⟩) (.inl rfl) (.slice va2 (W.length + 1) vc2))
  have R_8 := Lib.hid (R_9.out.ex ee (by have o_ := ORD2.out; omega))
  have O_8 := Lib.hid (HO2.out.ex ee (fun b_ h_ => by have o_ := ORD2.out; have h_ : b_ = f := h_; omega))
  have X_8 := Lib.hid (X_9.out.ex ee (fun b_ h_ => by have o_ := ORD2.out; have h_ : b_ = f := h_; first | omega | (show _ ∨ _; omega)))
  have S_8 := Lib.hid (S_9.out.ex ee (by have o_ := ORD2.out; omega))
  have D_8 := Lib.hid (D_9.out.ex ee (by have o_ := ORD2.out; omega))
  have P_8 := Lib.hid (P_9.out.ex ee (by have o_ := ORD2.out; omega))
  have B_8 := Lib.hid (BB.out)
  clear ee B_9 R_9 HO2 X_9 S_9 D_9 P_9 BB
  generalize (wb.setCell ⟨f, 7, none⟩ (.slice va2 (W.length + 1) vc2)) = w6 at *
  have Bq0 := (B_8.out).cell 0
  have Bq4 := (B_8.out).cell 4
  simp only [List.getElem?_toArray, List.getElem?_cons_succ, List.getElem?_cons_zero] at Bq0 Bq4
  have Bf4 := (B_8.out).frozen 4
  go_upto_region 24 with fail
  clear Bq0 Bq4 Bf4
  have bb := (B_8.out.set_ 4 (.int .i64 (N + 1)))
  simp only [List.setIfInBounds_toArray, List.set_cons_succ, List.set_cons_zero] at bb
  have BB := Lib.hid bb
  clear bb
  have ee : Ex (fun k => k = f) w6 (w6.setCell ⟨f, 4, none⟩ (.int .i64 (N + 1))) := ((Ex.refl (fun k => k = f) w6).setCell (q := ⟨f, 4, none⟩) (.inl rfl) (.int .i64 (N + 1)))
  have R_9 := Lib.hid (R_8.out.ex ee (by have o_ := ORD2.out; omega))
  have O_9 := Lib.hid (O_8.out.ex ee (fun b_ h_ => by have o_ := ORD2.out; have h_ : b_ = f := h_; omega))
  have X_9 := Lib.hid (X_8.out.ex ee (fun b_ h_ => by have o_ := ORD2.out; have h_ : b_ = f := h_; first | omega | (show _ ∨ _; omega)))
  have S_9 := Lib.hid (S_8.out.ex ee (by have o_ := ORD2.out; omega))
  have D_9 := Lib.hid (D_8.out.ex ee (by have o_ := ORD2.out; omega))
  have P_9 := Lib.hid (P_8.out.ex ee (by have o_ := ORD2.out; omega))
  have B_9 := Lib.hid (BB.out)
  clear ee B_8 R_8 O_8 X_8 S_8 D_8 P_8 BB
  generalize (w6.setCell ⟨f, 4, none⟩ (.int .i64 (N + 1))) = w7 at *
  have kw : (N + 1 == (l k).words) = true := beq_iff_eq.2 HW2.out
  have hne : Nonempty (Held (fun W => W = w7.drew)) := ⟨⟨_, rfl⟩⟩
  have p4 : ∀ y : Held (fun W => W = w7.drew), y.w.cell? ⟨f, 4, none⟩ = some (.int .i64 (N + 1)) := fun y => by rw [y.ok]; exact B_9.out.cell 4
  have pd : ∀ y : Held (fun W => W = w7.drew), y.w.cell? ⟨sb, 3, none⟩ = some (.int .i64 (l k).words) := fun y => by rw [y.ok]; exact D_9.out.cell 3
  refine drawn_bars (S := fun _ => True) [] [0, 1, 2, 3, 4, 5, 6] (by kernel_rfl) (by kernel_rfl) (by kernel_rfl) rfl trivial ?_
  refine Phased.end_ ?_
  simp only [pick, List.map_cons, List.map_nil, List.getElem?_cons_zero, List.getElem?_cons_succ, Option.getD_some]
  repeat (go_big_quiet_step (fail))
  refine wpQuiet_nil ?_
  clear hne p4 pd
  have ee : Ex (fun _ => False) w7 w7.drew := (Ex.refl _ w7).drew
  have B_10 := Lib.hid (B_9.out.ex ee (fun h => h))
  have R_10 := Lib.hid (R_9.out.ex ee (fun h => h))
  have O_10 := Lib.hid (O_9.out.ex ee (fun b_ h_ => h_.elim))
  have X_10 := Lib.hid (X_9.out.ex ee (fun b_ h_ => h_.elim))
  have S_10 := Lib.hid (S_9.out.ex ee (fun h => h))
  have D_10 := Lib.hid (D_9.out.ex ee (fun h => h))
  have P_10 := Lib.hid (P_9.out.ex ee (fun h => h))
  clear ee B_9 R_9 O_9 X_9 S_9 D_9 P_9
  generalize w7.drew = w8 at *
  have hk1 := HK1.out
  have Bq0 := (B_10.out).cell 0
  have Bq2 := (B_10.out).cell 2
  have Bq3 := (B_10.out).cell 3
  have Bq4 := (B_10.out).cell 4
  simp only [List.getElem?_toArray, List.getElem?_cons_succ, List.getElem?_cons_zero] at Bq0 Bq2 Bq3 Bq4
  have Bf2 := (B_10.out).frozen 2
  have Bf3 := (B_10.out).frozen 3
  have Bf4 := (B_10.out).frozen 4
  go_wp2_with fail
  clear Bq0 Bq2 Bq3 Bq4 Bf2 Bf3 Bf4
  have bb := ((((B_10.out.set_ 4 (.int .i64 0)).set_ 3 (.int .i64 ((k : Int) + 1))).set_ 2 (.int .i64 3)).set_ 3 (.int .i64 0))
  simp only [List.setIfInBounds_toArray, List.set_cons_succ, List.set_cons_zero] at bb
  have BB := Lib.hid bb
  clear bb
  have ee : Ex (fun k => k = f) w8 ((((w8.setCell ⟨f, 4, none⟩ (.int .i64 0)).setCell ⟨f, 3, none⟩ (.int .i64 ((k : Int) + 1))).setCell ⟨f, 2, none⟩ (.int .i64 3)).setCell ⟨f, 3, none⟩ (.int .i64 0)) := (((((Ex.refl (fun k => k = f) w8).setCell (q := ⟨f, 4, none⟩) (.inl rfl) (.int .i64 0)).setCell (q := ⟨f, 3, none⟩) (.inl rfl) (.int .i64 ((k : Int) + 1))).setCell (q := ⟨f, 2, none⟩) (.inl rfl) (.int .i64 3)).setCell (q := ⟨f, 3, none⟩) (.inl rfl) (.int .i64 0))
  have R_11 := Lib.hid (R_10.out.ex ee (by have o_ := ORD2.out; omega))
  have O_11 := Lib.hid (O_10.out.ex ee (fun b_ h_ => by have o_ := ORD2.out; have h_ : b_ = f := h_; omega))
  have X_11 := Lib.hid (X_10.out.ex ee (fun b_ h_ => by have o_ := ORD2.out; have h_ : b_ = f := h_; first | omega | (show _ ∨ _; omega)))
  have S_11 := Lib.hid (S_10.out.ex ee (by have o_ := ORD2.out; omega))
  have D_11 := Lib.hid (D_10.out.ex ee (by have o_ := ORD2.out; omega))
  have P_11 := Lib.hid (P_10.out.ex ee (by have o_ := ORD2.out; omega))
  have B_11 := Lib.hid (BB.out)
  clear ee B_10 R_10 O_10 X_10 S_10 D_10 P_10 BB
  first | (refine bodyPost_ret (results_none rfl _ _ _) rfl ?_) | go_end0
  rw [HZZ.out]
  exact ⟨rfl, ⟨_, B_11.out, O_11.out⟩, X_11.out⟩
end Go.Proofs.Ytjdalllfnlpmnaa.Bank
