/-
  The branches of the document's step of a snapshot, walked. Printed by wip/tools/mksne.py. Conditions stand at each. By an AI agent.
-/
import Derived.Test.YtjdalllfnlpmnaaSnR
import Derived.Test.YtjdalllfnlpmnaaSnP
import Derived.Test.YtjdalllfnlpmnaaRf
import Derived.Test.YtjdalllfnlpmnaaTail
import Derived.OwnWalk
namespace Go.Proofs.Ytjdalllfnlpmnaa.Base
open Go Go.RowKit
theorem Ex.ex {T0 T : Nat → Prop} {a b c : World} (p : Ex T0 a b) (q : Ex T b c) (h : ∀ k, T k → T0 k) : Ex T0 a c := p.trans (q.mono h)
theorem Ex.of_grown {a b : World} {r : Option Nat} (h : a.grownBy b r) : Ex (fun k => r = some k) a b := ⟨h.os, h.tape, h.output, h.size, fun k hk hn => h.block k hk (fun e => hn e.symm)⟩
end Go.Proofs.Ytjdalllfnlpmnaa.Base
namespace Go.Proofs.Ytjdalllfnlpmnaa.Bank
set_option linter.unusedVariables false
set_option linter.unusedSimpArgs false
open Go Go.RowKit Go.Proofs.Ytjdalllfnlpmnaa.Base
/-- the cells of the document's snapshot -/
def rcs (rl n cl : Nat) (T nx kk N had : Int) (vg vw : Value) (begun how steps : Int) : Array Value :=
  #[.slice (some ⟨rl, 0, none⟩) n cl, .int .i64 T, .int .i64 nx, .int .i64 kk, .int .i64 N, .int .i64 had, vg, vw, .int .i64 begun, .int .i64 how, .int .i64 steps]
theorem ownsRow_ex {T : Nat → Prop} {w w' : World} {base e size n : Nat} {v : Value} {xs : List Value} (h : w.ownsRow base e size v n xs) (p : Ex T w w') (hT : ∀ k, v.ownBlock = some k → ¬ T k) : w'.ownsRow base e size v n xs := by
  have hlt := h.lt
  obtain ⟨h1, h2⟩ := h
  refine ⟨h1, ?_⟩
  rcases h2 with h2 | ⟨g, cap, cur, hv, hg, hh, r⟩
  · exact .inl h2
  · exact .inr ⟨g, cap, cur, hv, hg, (p.block g (hlt g (by rw [hv]; rfl)).2 (hT g (by rw [hv]; rfl))).trans hh, r⟩
def OwnR (w : World) (base : Nat) (v : Value) (W : List Int) : Prop := w.ownsRow base 42 1 v W.length (W.map (Value.int .u64))
theorem OwnR.ex {T : Nat → Prop} {w w' : World} {base : Nat} {v : Value} {W : List Int} (h : OwnR w base v W) (p : Ex T w w') (hT : ∀ k, T k → k < base) : OwnR w' base v W :=
  ownsRow_ex h p (fun k hk ht => by have h1 := hT k ht; have h2 := (World.ownsRow.lt h k hk).1; omega)
theorem OwnR.nil (w : World) (base : Nat) : OwnR w base (.slice none 0 0) [] := ⟨rfl, .inl ⟨rfl, rfl⟩⟩
theorem OwnR.form {w : World} {base : Nat} {v : Value} {W : List Int} (h : OwnR w base v W) : ∃ a c, v = .slice a W.length c := by
  rcases h.2 with ⟨rfl, h0⟩ | ⟨g, cap, cur, rfl, _⟩
  · exact ⟨none, 0, by rw [h0]⟩
  · exact ⟨_, _, rfl⟩
theorem wordU_info : (Try.prog.info? 42).map (fun i => (i.zero, i.size, i.bytes)) = some (some (.int .u64 0), 1, 8) := by kernel_rfl
set_option maxRecDepth 100000 in
theorem RS_done (f hb rl n cl : Nat) (T nx kk N had begun how steps : Int) (vg vw v : Value) (w : World) (ho : Blk w f 49 (rcs rl n cl T nx kk N had vg vw begun how steps)) (hh : how ≠ 0) :
    Calls Try.prog 16 #[.pointer (some ⟨f, 0, none⟩), v] w fun e w' => e = .returned (.tuple #[]) ∧ w = w' := by
  have q0 := ho.cell 0
  have q9 := ho.cell 9
  unfold rcs at q0 q9
  simp only [List.getElem?_toArray, List.getElem?_cons_succ, List.getElem?_cons_zero] at q0 q9
  have hd : (how != 0) = true := by simpa using hh
  clear ho hh
  go_enter Try.func16, Try.ntmps16
  go_wp2_with fail
  first | (refine bodyPost_ret (results_none rfl _ _ _) rfl ?_) | go_end0
  exact ⟨rfl, rfl⟩
set_option maxRecDepth 100000 in
set_option maxHeartbeats 4000000 in
theorem RS_out1 (base f hb rl n cl : Nat) (ws : List Int) (l : Nat → Spot) (T N had begun steps : Int) (k : Nat) (vg vw : Value) (w : World) (ho : Blk w f 49 (rcs rl n cl T 1 (k : Int) N had vg vw begun 0 steps)) (hs : SpsIn w rl n l) (hr : URow w hb ws)
    (ne : f ≠ hb ∧ hb < base ∧ f < base ∧ rl < base ∧ rl ≠ f) (hz : base ≤ w.heap.size) (hn : 1 ≤ n ∧ n ≤ 64) (hR : allR l n = true) (hst : 0 ≤ steps ∧ steps ≤ 1099511627776) (hkn : k < n) (hin : ¬ inW ws (l k).seq) :
    Calls Try.prog 16 #[.pointer (some ⟨f, 0, none⟩), .slice (some ⟨hb, 0, none⟩) ws.length ws.length] w fun e w' => e = .returned (.tuple #[]) ∧ Blk w' f 49 (rcs rl n cl T 1 (k : Int) N had vg vw begun 3 steps) ∧ Ex (fun k => k = f ∨ base ≤ k) w w' := by
  have B0 := Lib.hid (show Blk w f 49 _ from ho)
  have R0 := Lib.hid hr
  have S0 := Lib.hid hs
  have X0 := Lib.hid (Ex.refl (fun k => k = f ∨ base ≤ k) w)
  have ORD := Lib.hid ne
  have SZ := Lib.hid hz
  have HNN := Lib.hid hn
  have HRR := Lib.hid hR
  have KN := Lib.hid hkn
  unfold rcs at B0
  have HIN := Lib.hid hin
  have HST := Lib.hid (show wrap64 (steps + 1) = steps + 1 from wrap64_in _ (by omega))
  have HN1 := Lib.hid (show wrap64 ((n : Int) - 1) = (n : Int) - 1 from wrap64_in _ (by omega))
  have HK1 := Lib.hid (show wrap64 ((k : Int) + 1) = (k : Int) + 1 from wrap64_in _ (by omega))
  have i0 : (0 : Int) ≤ (k : Int) := by omega
  have i1 : (k : Int) < (n : Int) := by omega
  clear ho hr hs ne hz hn hR hst hkn hin
  have Bq0 := (B0.out).cell 0
  have Bq9 := (B0.out).cell 9
  simp only [List.getElem?_toArray, List.getElem?_cons_succ, List.getElem?_cons_zero] at Bq0 Bq9
  go_enter Try.func16, Try.ntmps16
  go_upto_region 1 with fail
  clear Bq0 Bq9
  have hne : Nonempty (Held (Below w.heap.size w)) := ⟨⟨w, Below.refl _ _⟩⟩
  have p0 : ∀ y : Held (Below w.heap.size w), y.w.cell? ⟨f, 0, none⟩ = some (.slice (some ⟨rl, 0, none⟩) n cl) := fun y => (B0.out.bl y.ok).cell 0
  have p3 : ∀ y : Held (Below w.heap.size w), y.w.cell? ⟨f, 3, none⟩ = some (.int .i64 (k : Int)) := fun y => (B0.out.bl y.ok).cell 3
  have s0 : ∀ y : Held (Below w.heap.size w), y.w.cell? ⟨rl, k * 5, none⟩ = some (.int .i64 (l k).owners) := fun y => (S0.out.bl y.ok).cells k KN.out 0 (by decide)
  have s1 : ∀ y : Held (Below w.heap.size w), y.w.cell? ⟨rl, k * 5 + 1, none⟩ = some (.int .i64 (l k).seq) := fun y => (S0.out.bl y.ok).cells k KN.out 1 (by decide)
  have s2 : ∀ y : Held (Below w.heap.size w), y.w.cell? ⟨rl, k * 5 + 2, none⟩ = some (.int .i64 (l k).first) := fun y => (S0.out.bl y.ok).cells k KN.out 2 (by decide)
  have s3 : ∀ y : Held (Below w.heap.size w), y.w.cell? ⟨rl, k * 5 + 3, none⟩ = some (.int .i64 (l k).words) := fun y => (S0.out.bl y.ok).cells k KN.out 3 (by decide)
  have s4 : ∀ y : Held (Below w.heap.size w), y.w.cell? ⟨rl, k * 5 + 4, none⟩ = some (.int .i64 (l k).depth) := fun y => (S0.out.bl y.ok).cells k KN.out 4 (by decide)
  refine drawn_bars (S := (Below w.heap.size w)) [([0, 1, 2, 3, 4, 5, 6, 7, 8, 9], 10), ([], 11)] [] (by kernel_rfl) (by kernel_rfl) (by kernel_rfl) rfl (Below.refl _ _).drew ?_
  refine Phased.go ?_
  simp only [pick, List.map_cons, List.map_nil, List.getElem?_cons_zero, List.getElem?_cons_succ, Option.getD_some]
  repeat (go_big_quiet_step (fail))
  refine wpQuiet_nil ?_
  have hbd : Below w.heap.size w w.drew := (Below.refl _ _).drew
  go_wp2_with fail
  refine behind_normal ⟨(Below w.heap.size w), fun W h => h, hbd.alloc (Nat.le_refl _) _, ?_⟩
  refine Phased.go ?_
  simp only [pick, List.map_cons, List.map_nil, List.getElem?_cons_zero, List.getElem?_cons_succ, Option.getD_some]
  repeat (go_big_quiet_step (fail))
  refine wpQuiet_nil ?_
  go_wp2_with fail
  have hn9 : Blk ((w.alloc (.cells #[.int .i64 (l k).owners, .int .i64 (l k).seq, .int .i64 (l k).first, .int .i64 (l k).words, .int .i64 (l k).depth] 95)).drew) w.heap.size 95 #[.int .i64 (l k).owners, .int .i64 (l k).seq, .int .i64 (l k).first, .int .i64 (l k).words, .int .i64 (l k).depth] := Blk.new w _ _
  obtain ⟨sb, hsb⟩ : ∃ sb, w.heap.size = sb := ⟨_, rfl⟩
  have hsb0 : base ≤ sb := hsb ▸ SZ.out
  have hb9 := hbd.alloc (Nat.le_refl _) (.cells #[.int .i64 (l k).owners, .int .i64 (l k).seq, .int .i64 (l k).first, .int .i64 (l k).words, .int .i64 (l k).depth] 95)
  refine behind_normal ⟨(Below w.heap.size w), fun W h => h, hb9, ?_⟩
  refine Phased.end_ ?_
  have hne5 : Nonempty (Held (fun W => W = ((w.alloc (.cells #[.int .i64 (l k).owners, .int .i64 (l k).seq, .int .i64 (l k).first, .int .i64 (l k).words, .int .i64 (l k).depth] 95)).drew))) := ⟨⟨_, rfl⟩⟩
  simp only [pick, List.map_cons, List.map_nil, List.getElem?_cons_zero, List.getElem?_cons_succ, Option.getD_some]
  repeat (go_big_quiet_step (fail))
  refine wpQuiet_nil ?_
  simp only [hsb] at hn9 ⊢
  have ORD1 := Lib.hid (show f ≠ hb ∧ hb < base ∧ f < base ∧ rl < base ∧ rl ≠ f ∧ base ≤ sb from by have o_ := ORD.out; omega)
  clear hb9 hne5 hbd hne p0 p3 s0 s1 s2 s3 s4
  have ee : Ex (fun _ => False) w ((w.alloc (.cells #[.int .i64 (l k).owners, .int .i64 (l k).seq, .int .i64 (l k).first, .int .i64 (l k).words, .int .i64 (l k).depth] 95)).drew) := ((Ex.refl _ w).alloc _).drew
  have B_2 := Lib.hid (B0.out.ex ee (fun h => h))
  have R_2 := Lib.hid (R0.out.ex ee (fun h => h))
  have S_2 := Lib.hid (S0.out.ex ee (fun h => h))
  have X_2 := Lib.hid (X0.out.ex ee (fun b_ h_ => h_.elim))
  have D_2 := Lib.hid (hn9)
  clear ee B0 R0 S0 X0 hn9 hsb0
  generalize ((w.alloc (.cells #[.int .i64 (l k).owners, .int .i64 (l k).seq, .int .i64 (l k).first, .int .i64 (l k).words, .int .i64 (l k).depth] 95)).drew) = w1 at *
  have Bq0 := (B_2.out).cell 0
  have Bq2 := (B_2.out).cell 2
  have Bq9 := (B_2.out).cell 9
  simp only [List.getElem?_toArray, List.getElem?_cons_succ, List.getElem?_cons_zero] at Bq0 Bq2 Bq9
  have Bf9 := (B_2.out).frozen 9
  have d1 := D_2.out.cell 1
  simp only [List.getElem?_toArray, List.getElem?_cons_succ, List.getElem?_cons_zero] at d1
  have hno : (l k).seq < 0 ∨ (ws.length : Int) ≤ (l k).seq := by
    have h9 := HIN.out
    unfold inW at h9
    omega
  rcases hno with hno | hno
  · skip
    have k1 : decide ((l k).seq < 0) = true := decide_eq_true hno
    go_wp2_with fail
    clear Bq0 Bq2 Bq9 Bf9 d1
    have bb := (B_2.out.set_ 9 (.int .i64 3))
    simp only [List.setIfInBounds_toArray, List.set_cons_succ, List.set_cons_zero] at bb
    have BB := Lib.hid bb
    clear bb
    have ee : Ex (fun k => k = f) w1 (w1.setCell ⟨f, 9, none⟩ (.int .i64 3)) := ((Ex.refl (fun k => k = f) w1).setCell (q := ⟨f, 9, none⟩) (.inl rfl) (.int .i64 3))
    have R_3 := Lib.hid (R_2.out.ex ee (by have o_ := ORD1.out; omega))
    have S_3 := Lib.hid (S_2.out.ex ee (by have o_ := ORD1.out; omega))
    have X_3 := Lib.hid (X_2.out.ex ee (fun b_ h_ => by have o_ := ORD1.out; have h_ : b_ = f := h_; first | omega | (show _ ∨ _; omega)))
    have D_3 := Lib.hid (D_2.out.ex ee (by have o_ := ORD1.out; omega))
    have B_3 := Lib.hid (BB.out)
    clear ee B_2 R_2 S_2 X_2 D_2 BB
    first | (refine bodyPost_ret (results_none rfl _ _ _) rfl ?_) | go_end0
    exact ⟨rfl, B_3.out, X_3.out⟩
  · skip
    have hlt0 : ¬ (l k).seq < 0 := by omega
    have k1 : decide ((l k).seq < 0) = false := decide_eq_false hlt0
    have k2 : decide ((l k).seq ≥ (ws.length : Int)) = true := decide_eq_true hno
    go_wp2_with fail
    clear Bq0 Bq2 Bq9 Bf9 d1
    have bb := (B_2.out.set_ 9 (.int .i64 3))
    simp only [List.setIfInBounds_toArray, List.set_cons_succ, List.set_cons_zero] at bb
    have BB := Lib.hid bb
    clear bb
    have ee : Ex (fun k => k = f) w1 (w1.setCell ⟨f, 9, none⟩ (.int .i64 3)) := ((Ex.refl (fun k => k = f) w1).setCell (q := ⟨f, 9, none⟩) (.inl rfl) (.int .i64 3))
    have R_3 := Lib.hid (R_2.out.ex ee (by have o_ := ORD1.out; omega))
    have S_3 := Lib.hid (S_2.out.ex ee (by have o_ := ORD1.out; omega))
    have X_3 := Lib.hid (X_2.out.ex ee (fun b_ h_ => by have o_ := ORD1.out; have h_ : b_ = f := h_; first | omega | (show _ ∨ _; omega)))
    have D_3 := Lib.hid (D_2.out.ex ee (by have o_ := ORD1.out; omega))
    have B_3 := Lib.hid (BB.out)
    clear ee B_2 R_2 S_2 X_2 D_2 BB
    first | (refine bodyPost_ret (results_none rfl _ _ _) rfl ?_) | go_end0
    exact ⟨rfl, B_3.out, X_3.out⟩
set_option maxRecDepth 100000 in
set_option maxHeartbeats 4000000 in
theorem RS_out3 (base f hb rl n cl : Nat) (ws : List Int) (l : Nat → Spot) (T N had begun steps : Int) (k : Nat) (vg vw : Value) (w : World) (ho : Blk w f 49 (rcs rl n cl T 3 (k : Int) N had vg vw begun 0 steps)) (hs : SpsIn w rl n l) (hr : URow w hb ws)
    (ne : f ≠ hb ∧ hb < base ∧ f < base ∧ rl < base ∧ rl ≠ f) (hz : base ≤ w.heap.size) (hn : 1 ≤ n ∧ n ≤ 64) (hR : allR l n = true) (hst : 0 ≤ steps ∧ steps ≤ 1099511627776) (hkn : k < n) (hin : ¬ inW ws (l k).seq) :
    Calls Try.prog 16 #[.pointer (some ⟨f, 0, none⟩), .slice (some ⟨hb, 0, none⟩) ws.length ws.length] w fun e w' => e = .returned (.tuple #[]) ∧ Blk w' f 49 (rcs rl n cl T 3 (k : Int) N had vg vw begun 3 steps) ∧ Ex (fun k => k = f ∨ base ≤ k) w w' := by
  have B0 := Lib.hid (show Blk w f 49 _ from ho)
  have R0 := Lib.hid hr
  have S0 := Lib.hid hs
  have X0 := Lib.hid (Ex.refl (fun k => k = f ∨ base ≤ k) w)
  have ORD := Lib.hid ne
  have SZ := Lib.hid hz
  have HNN := Lib.hid hn
  have HRR := Lib.hid hR
  have KN := Lib.hid hkn
  unfold rcs at B0
  have HIN := Lib.hid hin
  have HST := Lib.hid (show wrap64 (steps + 1) = steps + 1 from wrap64_in _ (by omega))
  have HN1 := Lib.hid (show wrap64 ((n : Int) - 1) = (n : Int) - 1 from wrap64_in _ (by omega))
  have HK1 := Lib.hid (show wrap64 ((k : Int) + 1) = (k : Int) + 1 from wrap64_in _ (by omega))
  have i0 : (0 : Int) ≤ (k : Int) := by omega
  have i1 : (k : Int) < (n : Int) := by omega
  clear ho hr hs ne hz hn hR hst hkn hin
  have Bq0 := (B0.out).cell 0
  have Bq9 := (B0.out).cell 9
  simp only [List.getElem?_toArray, List.getElem?_cons_succ, List.getElem?_cons_zero] at Bq0 Bq9
  go_enter Try.func16, Try.ntmps16
  go_upto_region 1 with fail
  clear Bq0 Bq9
  have hne : Nonempty (Held (Below w.heap.size w)) := ⟨⟨w, Below.refl _ _⟩⟩
  have p0 : ∀ y : Held (Below w.heap.size w), y.w.cell? ⟨f, 0, none⟩ = some (.slice (some ⟨rl, 0, none⟩) n cl) := fun y => (B0.out.bl y.ok).cell 0
  have p3 : ∀ y : Held (Below w.heap.size w), y.w.cell? ⟨f, 3, none⟩ = some (.int .i64 (k : Int)) := fun y => (B0.out.bl y.ok).cell 3
  have s0 : ∀ y : Held (Below w.heap.size w), y.w.cell? ⟨rl, k * 5, none⟩ = some (.int .i64 (l k).owners) := fun y => (S0.out.bl y.ok).cells k KN.out 0 (by decide)
  have s1 : ∀ y : Held (Below w.heap.size w), y.w.cell? ⟨rl, k * 5 + 1, none⟩ = some (.int .i64 (l k).seq) := fun y => (S0.out.bl y.ok).cells k KN.out 1 (by decide)
  have s2 : ∀ y : Held (Below w.heap.size w), y.w.cell? ⟨rl, k * 5 + 2, none⟩ = some (.int .i64 (l k).first) := fun y => (S0.out.bl y.ok).cells k KN.out 2 (by decide)
  have s3 : ∀ y : Held (Below w.heap.size w), y.w.cell? ⟨rl, k * 5 + 3, none⟩ = some (.int .i64 (l k).words) := fun y => (S0.out.bl y.ok).cells k KN.out 3 (by decide)
  have s4 : ∀ y : Held (Below w.heap.size w), y.w.cell? ⟨rl, k * 5 + 4, none⟩ = some (.int .i64 (l k).depth) := fun y => (S0.out.bl y.ok).cells k KN.out 4 (by decide)
  refine drawn_bars (S := (Below w.heap.size w)) [([0, 1, 2, 3, 4, 5, 6, 7, 8, 9], 10), ([], 11)] [] (by kernel_rfl) (by kernel_rfl) (by kernel_rfl) rfl (Below.refl _ _).drew ?_
  refine Phased.go ?_
  simp only [pick, List.map_cons, List.map_nil, List.getElem?_cons_zero, List.getElem?_cons_succ, Option.getD_some]
  repeat (go_big_quiet_step (fail))
  refine wpQuiet_nil ?_
  have hbd : Below w.heap.size w w.drew := (Below.refl _ _).drew
  go_wp2_with fail
  refine behind_normal ⟨(Below w.heap.size w), fun W h => h, hbd.alloc (Nat.le_refl _) _, ?_⟩
  refine Phased.go ?_
  simp only [pick, List.map_cons, List.map_nil, List.getElem?_cons_zero, List.getElem?_cons_succ, Option.getD_some]
  repeat (go_big_quiet_step (fail))
  refine wpQuiet_nil ?_
  go_wp2_with fail
  have hn9 : Blk ((w.alloc (.cells #[.int .i64 (l k).owners, .int .i64 (l k).seq, .int .i64 (l k).first, .int .i64 (l k).words, .int .i64 (l k).depth] 95)).drew) w.heap.size 95 #[.int .i64 (l k).owners, .int .i64 (l k).seq, .int .i64 (l k).first, .int .i64 (l k).words, .int .i64 (l k).depth] := Blk.new w _ _
  obtain ⟨sb, hsb⟩ : ∃ sb, w.heap.size = sb := ⟨_, rfl⟩
  have hsb0 : base ≤ sb := hsb ▸ SZ.out
  have hb9 := hbd.alloc (Nat.le_refl _) (.cells #[.int .i64 (l k).owners, .int .i64 (l k).seq, .int .i64 (l k).first, .int .i64 (l k).words, .int .i64 (l k).depth] 95)
  refine behind_normal ⟨(Below w.heap.size w), fun W h => h, hb9, ?_⟩
  refine Phased.end_ ?_
  have hne5 : Nonempty (Held (fun W => W = ((w.alloc (.cells #[.int .i64 (l k).owners, .int .i64 (l k).seq, .int .i64 (l k).first, .int .i64 (l k).words, .int .i64 (l k).depth] 95)).drew))) := ⟨⟨_, rfl⟩⟩
  simp only [pick, List.map_cons, List.map_nil, List.getElem?_cons_zero, List.getElem?_cons_succ, Option.getD_some]
  repeat (go_big_quiet_step (fail))
  refine wpQuiet_nil ?_
  simp only [hsb] at hn9 ⊢
  have ORD1 := Lib.hid (show f ≠ hb ∧ hb < base ∧ f < base ∧ rl < base ∧ rl ≠ f ∧ base ≤ sb from by have o_ := ORD.out; omega)
  clear hb9 hne5 hbd hne p0 p3 s0 s1 s2 s3 s4
  have ee : Ex (fun _ => False) w ((w.alloc (.cells #[.int .i64 (l k).owners, .int .i64 (l k).seq, .int .i64 (l k).first, .int .i64 (l k).words, .int .i64 (l k).depth] 95)).drew) := ((Ex.refl _ w).alloc _).drew
  have B_2 := Lib.hid (B0.out.ex ee (fun h => h))
  have R_2 := Lib.hid (R0.out.ex ee (fun h => h))
  have S_2 := Lib.hid (S0.out.ex ee (fun h => h))
  have X_2 := Lib.hid (X0.out.ex ee (fun b_ h_ => h_.elim))
  have D_2 := Lib.hid (hn9)
  clear ee B0 R0 S0 X0 hn9 hsb0
  generalize ((w.alloc (.cells #[.int .i64 (l k).owners, .int .i64 (l k).seq, .int .i64 (l k).first, .int .i64 (l k).words, .int .i64 (l k).depth] 95)).drew) = w1 at *
  have Bq0 := (B_2.out).cell 0
  have Bq2 := (B_2.out).cell 2
  have Bq9 := (B_2.out).cell 9
  simp only [List.getElem?_toArray, List.getElem?_cons_succ, List.getElem?_cons_zero] at Bq0 Bq2 Bq9
  have Bf9 := (B_2.out).frozen 9
  have d1 := D_2.out.cell 1
  simp only [List.getElem?_toArray, List.getElem?_cons_succ, List.getElem?_cons_zero] at d1
  have hno : (l k).seq < 0 ∨ (ws.length : Int) ≤ (l k).seq := by
    have h9 := HIN.out
    unfold inW at h9
    omega
  rcases hno with hno | hno
  · skip
    have k1 : decide ((l k).seq < 0) = true := decide_eq_true hno
    go_wp2_with fail
    clear Bq0 Bq2 Bq9 Bf9 d1
    have bb := (B_2.out.set_ 9 (.int .i64 3))
    simp only [List.setIfInBounds_toArray, List.set_cons_succ, List.set_cons_zero] at bb
    have BB := Lib.hid bb
    clear bb
    have ee : Ex (fun k => k = f) w1 (w1.setCell ⟨f, 9, none⟩ (.int .i64 3)) := ((Ex.refl (fun k => k = f) w1).setCell (q := ⟨f, 9, none⟩) (.inl rfl) (.int .i64 3))
    have R_3 := Lib.hid (R_2.out.ex ee (by have o_ := ORD1.out; omega))
    have S_3 := Lib.hid (S_2.out.ex ee (by have o_ := ORD1.out; omega))
    have X_3 := Lib.hid (X_2.out.ex ee (fun b_ h_ => by have o_ := ORD1.out; have h_ : b_ = f := h_; first | omega | (show _ ∨ _; omega)))
    have D_3 := Lib.hid (D_2.out.ex ee (by have o_ := ORD1.out; omega))
    have B_3 := Lib.hid (BB.out)
    clear ee B_2 R_2 S_2 X_2 D_2 BB
    first | (refine bodyPost_ret (results_none rfl _ _ _) rfl ?_) | go_end0
    exact ⟨rfl, B_3.out, X_3.out⟩
  · skip
    have hlt0 : ¬ (l k).seq < 0 := by omega
    have k1 : decide ((l k).seq < 0) = false := decide_eq_false hlt0
    have k2 : decide ((l k).seq ≥ (ws.length : Int)) = true := decide_eq_true hno
    go_wp2_with fail
    clear Bq0 Bq2 Bq9 Bf9 d1
    have bb := (B_2.out.set_ 9 (.int .i64 3))
    simp only [List.setIfInBounds_toArray, List.set_cons_succ, List.set_cons_zero] at bb
    have BB := Lib.hid bb
    clear bb
    have ee : Ex (fun k => k = f) w1 (w1.setCell ⟨f, 9, none⟩ (.int .i64 3)) := ((Ex.refl (fun k => k = f) w1).setCell (q := ⟨f, 9, none⟩) (.inl rfl) (.int .i64 3))
    have R_3 := Lib.hid (R_2.out.ex ee (by have o_ := ORD1.out; omega))
    have S_3 := Lib.hid (S_2.out.ex ee (by have o_ := ORD1.out; omega))
    have X_3 := Lib.hid (X_2.out.ex ee (fun b_ h_ => by have o_ := ORD1.out; have h_ : b_ = f := h_; first | omega | (show _ ∨ _; omega)))
    have D_3 := Lib.hid (D_2.out.ex ee (by have o_ := ORD1.out; omega))
    have B_3 := Lib.hid (BB.out)
    clear ee B_2 R_2 S_2 X_2 D_2 BB
    first | (refine bodyPost_ret (results_none rfl _ _ _) rfl ?_) | go_end0
    exact ⟨rfl, B_3.out, X_3.out⟩
set_option maxRecDepth 100000 in
set_option maxHeartbeats 4000000 in
theorem RS_1z (base f hb rl n cl : Nat) (ws : List Int) (l : Nat → Spot) (T N had begun steps : Int) (k : Nat) (vg vw : Value) (w : World) (ho : Blk w f 49 (rcs rl n cl T 1 (k : Int) N had vg vw begun 0 steps)) (hs : SpsIn w rl n l) (hr : URow w hb ws)
    (ne : f ≠ hb ∧ hb < base ∧ f < base ∧ rl < base ∧ rl ≠ f) (hz : base ≤ w.heap.size) (hn : 1 ≤ n ∧ n ≤ 64) (hR : allR l n = true) (hst : 0 ≤ steps ∧ steps ≤ 1099511627776) (hkn : k < n) (q : Nat) (hq : (l k).seq = (q : Int)) (hin : q < ws.length) (hl : ¬ (k : Int) = (n : Int) - 1) (hkz : (k : Int) = 0) (hfit : ∀ i, 0 ≤ nth ws i ∧ nth ws i ≤ 18446744073709551615) :
    Calls Try.prog 16 #[.pointer (some ⟨f, 0, none⟩), .slice (some ⟨hb, 0, none⟩) ws.length ws.length] w fun e w' => e = .returned (.tuple #[]) ∧ (∃ v', Blk w' f 49 (rcs rl n cl T 1 ((k : Int) + 1) N had v' (.slice none 0 0) begun 0 (steps + 1)) ∧ OwnR w' base v' (([] : List Int) ++ [nth ws q / 2])) ∧ Ex (fun k => k = f ∨ base ≤ k) w w' := by
  have HVG := Lib.hid (OwnR.nil w base)
  have B0 := Lib.hid (show Blk w f 49 _ from ho)
  have R0 := Lib.hid hr
  have S0 := Lib.hid hs
  have X0 := Lib.hid (Ex.refl (fun k => k = f ∨ base ≤ k) w)
  have ORD := Lib.hid ne
  have SZ := Lib.hid hz
  have HNN := Lib.hid hn
  have HRR := Lib.hid hR
  have KN := Lib.hid hkn
  unfold rcs at B0
  have HQ := Lib.hid hq
  have HIN := Lib.hid hin
  have HL := Lib.hid hl
  have HKZ := Lib.hid hkz
  have HFIT := Lib.hid hfit
  have HST := Lib.hid (show wrap64 (steps + 1) = steps + 1 from wrap64_in _ (by omega))
  have HN1 := Lib.hid (show wrap64 ((n : Int) - 1) = (n : Int) - 1 from wrap64_in _ (by omega))
  have HK1 := Lib.hid (show wrap64 ((k : Int) + 1) = (k : Int) + 1 from wrap64_in _ (by omega))
  have i0 : (0 : Int) ≤ (k : Int) := by omega
  have i1 : (k : Int) < (n : Int) := by omega
  clear ho hr hs ne hz hn hR hst hkn hq hin hl hkz hfit
  have Bq0 := (B0.out).cell 0
  have Bq9 := (B0.out).cell 9
  simp only [List.getElem?_toArray, List.getElem?_cons_succ, List.getElem?_cons_zero] at Bq0 Bq9
  go_enter Try.func16, Try.ntmps16
  go_upto_region 1 with fail
  clear Bq0 Bq9
  have hne : Nonempty (Held (Below w.heap.size w)) := ⟨⟨w, Below.refl _ _⟩⟩
  have p0 : ∀ y : Held (Below w.heap.size w), y.w.cell? ⟨f, 0, none⟩ = some (.slice (some ⟨rl, 0, none⟩) n cl) := fun y => (B0.out.bl y.ok).cell 0
  have p3 : ∀ y : Held (Below w.heap.size w), y.w.cell? ⟨f, 3, none⟩ = some (.int .i64 (k : Int)) := fun y => (B0.out.bl y.ok).cell 3
  have s0 : ∀ y : Held (Below w.heap.size w), y.w.cell? ⟨rl, k * 5, none⟩ = some (.int .i64 (l k).owners) := fun y => (S0.out.bl y.ok).cells k KN.out 0 (by decide)
  have s1 : ∀ y : Held (Below w.heap.size w), y.w.cell? ⟨rl, k * 5 + 1, none⟩ = some (.int .i64 (l k).seq) := fun y => (S0.out.bl y.ok).cells k KN.out 1 (by decide)
  have s2 : ∀ y : Held (Below w.heap.size w), y.w.cell? ⟨rl, k * 5 + 2, none⟩ = some (.int .i64 (l k).first) := fun y => (S0.out.bl y.ok).cells k KN.out 2 (by decide)
  have s3 : ∀ y : Held (Below w.heap.size w), y.w.cell? ⟨rl, k * 5 + 3, none⟩ = some (.int .i64 (l k).words) := fun y => (S0.out.bl y.ok).cells k KN.out 3 (by decide)
  have s4 : ∀ y : Held (Below w.heap.size w), y.w.cell? ⟨rl, k * 5 + 4, none⟩ = some (.int .i64 (l k).depth) := fun y => (S0.out.bl y.ok).cells k KN.out 4 (by decide)
  refine drawn_bars (S := (Below w.heap.size w)) [([0, 1, 2, 3, 4, 5, 6, 7, 8, 9], 10), ([], 11)] [] (by kernel_rfl) (by kernel_rfl) (by kernel_rfl) rfl (Below.refl _ _).drew ?_
  refine Phased.go ?_
  simp only [pick, List.map_cons, List.map_nil, List.getElem?_cons_zero, List.getElem?_cons_succ, Option.getD_some]
  repeat (go_big_quiet_step (fail))
  refine wpQuiet_nil ?_
  have hbd : Below w.heap.size w w.drew := (Below.refl _ _).drew
  go_wp2_with fail
  refine behind_normal ⟨(Below w.heap.size w), fun W h => h, hbd.alloc (Nat.le_refl _) _, ?_⟩
  refine Phased.go ?_
  simp only [pick, List.map_cons, List.map_nil, List.getElem?_cons_zero, List.getElem?_cons_succ, Option.getD_some]
  repeat (go_big_quiet_step (fail))
  refine wpQuiet_nil ?_
  go_wp2_with fail
  have hn9 : Blk ((w.alloc (.cells #[.int .i64 (l k).owners, .int .i64 (l k).seq, .int .i64 (l k).first, .int .i64 (l k).words, .int .i64 (l k).depth] 95)).drew) w.heap.size 95 #[.int .i64 (l k).owners, .int .i64 (l k).seq, .int .i64 (l k).first, .int .i64 (l k).words, .int .i64 (l k).depth] := Blk.new w _ _
  obtain ⟨sb, hsb⟩ : ∃ sb, w.heap.size = sb := ⟨_, rfl⟩
  have hsb0 : base ≤ sb := hsb ▸ SZ.out
  have hb9 := hbd.alloc (Nat.le_refl _) (.cells #[.int .i64 (l k).owners, .int .i64 (l k).seq, .int .i64 (l k).first, .int .i64 (l k).words, .int .i64 (l k).depth] 95)
  refine behind_normal ⟨(Below w.heap.size w), fun W h => h, hb9, ?_⟩
  refine Phased.end_ ?_
  have hne5 : Nonempty (Held (fun W => W = ((w.alloc (.cells #[.int .i64 (l k).owners, .int .i64 (l k).seq, .int .i64 (l k).first, .int .i64 (l k).words, .int .i64 (l k).depth] 95)).drew))) := ⟨⟨_, rfl⟩⟩
  simp only [pick, List.map_cons, List.map_nil, List.getElem?_cons_zero, List.getElem?_cons_succ, Option.getD_some]
  repeat (go_big_quiet_step (fail))
  refine wpQuiet_nil ?_
  simp only [hsb] at hn9 ⊢
  have ORD1 := Lib.hid (show f ≠ hb ∧ hb < base ∧ f < base ∧ rl < base ∧ rl ≠ f ∧ base ≤ sb from by have o_ := ORD.out; omega)
  clear hb9 hne5 hbd hne p0 p3 s0 s1 s2 s3 s4
  have ee : Ex (fun _ => False) w ((w.alloc (.cells #[.int .i64 (l k).owners, .int .i64 (l k).seq, .int .i64 (l k).first, .int .i64 (l k).words, .int .i64 (l k).depth] 95)).drew) := ((Ex.refl _ w).alloc _).drew
  have B_2 := Lib.hid (B0.out.ex ee (fun h => h))
  have R_2 := Lib.hid (R0.out.ex ee (fun h => h))
  have S_2 := Lib.hid (S0.out.ex ee (fun h => h))
  have X_2 := Lib.hid (X0.out.ex ee (fun b_ h_ => h_.elim))
  have D_2 := Lib.hid (hn9)
  clear ee B0 R0 S0 X0 hn9 hsb0
  generalize ((w.alloc (.cells #[.int .i64 (l k).owners, .int .i64 (l k).seq, .int .i64 (l k).first, .int .i64 (l k).words, .int .i64 (l k).depth] 95)).drew) = w1 at *
  have d1 : w1.cell? ⟨sb, 1, none⟩ = some (.int .i64 (q : Int)) := by rw [← HQ.out]; exact D_2.out.cell 1
  have kq0 : (0 : Int) ≤ (q : Int) := by omega
  have kq1 : (q : Int) < (ws.length : Int) := by have := HIN.out; omega
  have k1 : decide ((q : Int) < 0) = false := decide_eq_false (by omega)
  have k2 : decide ((q : Int) ≥ (ws.length : Int)) = false := decide_eq_false (by omega)
  have Bq0 := (B_2.out).cell 0
  have Bq2 := (B_2.out).cell 2
  have Bq10 := (B_2.out).cell 10
  simp only [List.getElem?_toArray, List.getElem?_cons_succ, List.getElem?_cons_zero] at Bq0 Bq2 Bq10
  have Bf10 := (B_2.out).frozen 10
  have hst := HST.out
  go_upto_region 8 with fail
  clear d1 Bq0 Bq2 Bq10 Bf10
  have bb := (B_2.out.set_ 10 (.int .i64 (steps + 1)))
  simp only [List.setIfInBounds_toArray, List.set_cons_succ, List.set_cons_zero] at bb
  have BB := Lib.hid bb
  clear bb
  have ee : Ex (fun k => k = f) w1 (w1.setCell ⟨f, 10, none⟩ (.int .i64 (steps + 1))) := ((Ex.refl (fun k => k = f) w1).setCell (q := ⟨f, 10, none⟩) (.inl rfl) (.int .i64 (steps + 1)))
  have R_3 := Lib.hid (R_2.out.ex ee (by have o_ := ORD1.out; omega))
  have S_3 := Lib.hid (S_2.out.ex ee (by have o_ := ORD1.out; omega))
  have X_3 := Lib.hid (X_2.out.ex ee (fun b_ h_ => by have o_ := ORD1.out; have h_ : b_ = f := h_; first | omega | (show _ ∨ _; omega)))
  have D_3 := Lib.hid (D_2.out.ex ee (by have o_ := ORD1.out; omega))
  have B_3 := Lib.hid (BB.out)
  clear ee B_2 R_2 S_2 X_2 D_2 BB
  generalize (w1.setCell ⟨f, 10, none⟩ (.int .i64 (steps + 1))) = w3 at *
  have hn1 := HN1.out
  have kl : ((k : Int) == (n : Int) - 1) = false := beq_eq_false_iff_ne.2 HL.out
  have hne : Nonempty (Held (fun W => W = w3.drew)) := ⟨⟨_, rfl⟩⟩
  have p0 : ∀ y : Held (fun W => W = w3.drew), y.w.cell? ⟨f, 0, none⟩ = some (.slice (some ⟨rl, 0, none⟩) n cl) := fun y => by rw [y.ok]; exact B_3.out.cell 0
  have p3 : ∀ y : Held (fun W => W = w3.drew), y.w.cell? ⟨f, 3, none⟩ = some (.int .i64 (k : Int)) := fun y => by rw [y.ok]; exact B_3.out.cell 3
  refine drawn_bars (S := fun _ => True) [] [0, 1, 2, 3, 4, 5, 6, 7, 8, 9, 10, 11] (by kernel_rfl) (by kernel_rfl) (by kernel_rfl) rfl trivial ?_
  refine Phased.end_ ?_
  simp only [pick, List.map_cons, List.map_nil, List.getElem?_cons_zero, List.getElem?_cons_succ, Option.getD_some]
  repeat (go_big_quiet_step (fail))
  refine wpQuiet_nil ?_
  clear hne p0 p3
  have ee : Ex (fun _ => False) w3 w3.drew := (Ex.refl _ w3).drew
  have B_4 := Lib.hid (B_3.out.ex ee (fun h => h))
  have R_4 := Lib.hid (R_3.out.ex ee (fun h => h))
  have S_4 := Lib.hid (S_3.out.ex ee (fun h => h))
  have X_4 := Lib.hid (X_3.out.ex ee (fun b_ h_ => h_.elim))
  have D_4 := Lib.hid (D_3.out.ex ee (fun h => h))
  clear ee B_3 R_3 S_3 X_3 D_3
  generalize w3.drew = w4 at *
  have kz : ((k : Int) == 0) = true := beq_iff_eq.2 HKZ.out
  have Bq0 := (B_4.out).cell 0
  have Bq2 := (B_4.out).cell 2
  have Bq3 := (B_4.out).cell 3
  have Bq6 := (B_4.out).cell 6
  have Bq7 := (B_4.out).cell 7
  simp only [List.getElem?_toArray, List.getElem?_cons_succ, List.getElem?_cons_zero] at Bq0 Bq2 Bq3 Bq6 Bq7
  have Bf6 := (B_4.out).frozen 6
  have Bf7 := (B_4.out).frozen 7
  go_upto_region 14 with fail
  clear Bq0 Bq2 Bq3 Bq6 Bq7 Bf6 Bf7
  have bb := ((B_4.out.set_ 6 (.slice none 0 0)).set_ 7 (.slice none 0 0))
  simp only [List.setIfInBounds_toArray, List.set_cons_succ, List.set_cons_zero] at bb
  have BB := Lib.hid bb
  clear bb
  have ee : Ex (fun k => k = f) w4 ((w4.setCell ⟨f, 6, none⟩ (.slice none 0 0)).setCell ⟨f, 7, none⟩ (.slice none 0 0)) := (((Ex.refl (fun k => k = f) w4).setCell (q := ⟨f, 6, none⟩) (.inl rfl) (.slice none 0 0)).setCell (q := ⟨f, 7, none⟩) (.inl rfl) (.slice none 0 0))
  have R_5 := Lib.hid (R_4.out.ex ee (by have o_ := ORD1.out; omega))
  have S_5 := Lib.hid (S_4.out.ex ee (by have o_ := ORD1.out; omega))
  have X_5 := Lib.hid (X_4.out.ex ee (fun b_ h_ => by have o_ := ORD1.out; have h_ : b_ = f := h_; first | omega | (show _ ∨ _; omega)))
  have D_5 := Lib.hid (D_4.out.ex ee (by have o_ := ORD1.out; omega))
  have B_5 := Lib.hid (BB.out)
  clear ee B_4 R_4 S_4 X_4 D_4 BB
  generalize ((w4.setCell ⟨f, 6, none⟩ (.slice none 0 0)).setCell ⟨f, 7, none⟩ (.slice none 0 0)) = w5 at *
  have O_z := Lib.hid (OwnR.nil w5 base)
  have HLEN := Lib.hid (show ([] : List Int).length ≤ 64 by decide)
  have HOWN := Lib.hid (fun b (h : Value.ownBlock (.slice none 0 0) = some b) => show b < sb by cases h)
  have HRG := Lib.hid (HFIT.out q)
  have HZ2 := Lib.hid (show IntKind.u64.wrap ((nth ws q).tdiv 2) = nth ws q / 2 by rw [Int.tdiv_eq_ediv_of_nonneg HRG.out.1]; exact u64_wrap_in (by have := HRG.out; omega))
  have hne : Nonempty (Held (Ex (fun k => base ≤ k) w5)) := ⟨⟨w5, Ex.refl _ _⟩⟩
  have p6 : ∀ y : Held (Ex (fun k => base ≤ k) w5), y.w.cell? ⟨f, 6, none⟩ = some (.slice none 0 0) := fun y => (B_5.out.ex y.ok (by have := ORD.out; omega)).cell 6
  have pw : ∀ y : Held (Ex (fun k => base ≤ k) w5), y.w.cell? ⟨hb, q, none⟩ = some (.int .u64 (nth ws q)) := fun y => (R_5.out.ex y.ok (by have := ORD.out; omega)).word HIN.out
  obtain ⟨i0_, hi0, hz0, hz1, hz2⟩ := info_parts wordU_info
  refine drawn_tail (S := (Ex (fun k => base ≤ k) w5)) [14] [([0, 1, 2, 3, 4, 5, 6, 7, 8, 9], 10), ([], 11), ([], 12), ([], 13), ([], 14)] (by kernel_rfl) (by kernel_rfl) (by kernel_rfl) rfl (Ex.refl _ _).drew ?_
  refine PhasedT.go ?_
  generalize hzz : nth ws q = z at *
  have HZZ := Lib.hid hzz
  clear hzz
  have kz2 := HZ2.out
  simp only [pick, List.map_cons, List.map_nil, List.getElem?_cons_zero, List.getElem?_cons_succ, Option.getD_some]
  repeat (go_big_quiet_step (fail))
  refine wpQuiet_nil ?_
  clear hne p6 pw
  have ee : Ex (fun _ => False) w5 w5.drew := (Ex.refl _ w5).drew
  have B_6 := Lib.hid (B_5.out.ex ee (fun h => h))
  have R_6 := Lib.hid (R_5.out.ex ee (fun h => h))
  have S_6 := Lib.hid (S_5.out.ex ee (fun h => h))
  have X_6 := Lib.hid (X_5.out.ex ee (fun b_ h_ => h_.elim))
  have D_6 := Lib.hid (D_5.out.ex ee (fun h => h))
  have O_6 := Lib.hid (O_z.out.ex ee (fun b_ h_ => h_.elim))
  clear ee B_5 R_5 S_5 X_5 D_5 O_z
  have EE0 := Lib.hid ((Ex.refl (fun k => base ≤ k) w5).drew)
  generalize w5.drew = wa at *
  have SZa := Lib.hid (Nat.le_trans SZ.out X_6.out.size)
  go_wp2_with fail
  refine behind_normal ⟨(Ex (fun k => base ≤ k) w5), fun W h => h, by first | exact EE0.out.alloc _ | exact fun _ => EE0.out.alloc _, ?_⟩
  refine PhasedT.go ?_
  simp only [pick, List.map_cons, List.map_nil, List.getElem?_cons_zero, List.getElem?_cons_succ, Option.getD_some]
  repeat (go_big_quiet_step (fail))
  refine wpQuiet_nil ?_
  go_wp2_with (at_builtin; refine wpList_append_own _ rfl _ _ 41 rfl base 42 i0_ (.int .u64 0) 1 8 Try.underlying41 hi0 hz0 hz1 hz2 rfl (by decide) _ _ _ rfl (World.ownsRow.alloc O_6.out _) ⟨wa.heap.size, 0, none⟩ 1 1 [.int .u64 (z / 2)] rfl rfl ?c1 ?c2 ?c3 ?c4 ?c5 ?_)
  case c1 =>
    have hbn := Blk.new wa 42 #[.int .u64 (z / 2)]
    intro j u hj
    match j, hj with
    | 0, hj => simp at hj; subst hj; exact hbn.cell 0
  case c2 =>
    intro u hu
    simp only [List.mem_cons, List.not_mem_nil, or_false] at hu
    subst hu; rfl
  case c3 => have h1 := HLEN.out; have h2 := SZa.out; first | omega | (unfold maxLen; omega) | (simp; omega)
  case c4 => have h1 := HLEN.out; have h2 := SZa.out; first | omega | (unfold maxLen; omega) | (simp; omega)
  case c5 => have h1 := HLEN.out; have h2 := SZa.out; first | omega | (unfold maxLen; omega) | (simp; omega)
  intro v' wb hown' hgrow _
  have hbel := ((Below.refl base wa).alloc SZa.out (.cells #[.int .u64 (z / 2)] 42)).grown hgrow (by have := SZa.out; simp; omega) (fun k hk => (World.ownsRow.lt O_6.out k hk).1)
  have hgr2 := ((Ex.refl _ wa).alloc (.cells #[.int .u64 (z / 2)] 42)).trans (Ex.of_grown hgrow)
  have hown2 : OwnR wb base v' ([] ++ [z / 2]) := by unfold OwnR; simpa using hown'
  obtain ⟨va2, vc2, rfl⟩ := hown2.form
  have hlw : ([] ++ [z / 2]).length = ([] : List Int).length + 1 := by simp
  have HO2 := Lib.hid (show OwnR wb base (.slice va2 (([] : List Int).length + 1) vc2) ([] ++ [z / 2]) by have := hown2; rw [hlw] at this; exact this)
  have he : Ex (fun k => base ≤ k) wa wb := ⟨hbel.os, hbel.tape, hbel.output, hbel.size, fun k hk hn => hbel.block k (by omega)⟩
  have B_9 := Lib.hid (B_6.out.ex he (by have := ORD.out; omega))
  have R_9 := Lib.hid (R_6.out.ex he (by have := ORD.out; omega))
  have S_9 := Lib.hid (S_6.out.ex he (by have := ORD.out; omega))
  have D_9 := Lib.hid (D_6.out.ex hgr2 (fun h => Nat.lt_irrefl _ (HOWN.out _ h)))
  have X_9 := Lib.hid (X_6.out.ex he (fun k hk => .inr hk))
  have EE1 := Lib.hid (EE0.out.trans he)
  clear hown' hgrow hbel hown2 he hgr2 B_6 R_6 O_6 X_6 S_6 D_6  EE0
  refine behind_normal ⟨(Ex (fun k => base ≤ k) w5), fun W h => h, by first | exact EE1.out | exact fun _ => EE1.out, ?_⟩
  refine PhasedT.go ?_
  simp only [pick, List.map_cons, List.map_nil, List.getElem?_cons_zero, List.getElem?_cons_succ, Option.getD_some]
  repeat (go_big_quiet_step (fail))
  refine wpQuiet_nil ?_
  have Bq0 := B_9.out.cell 0
  simp only [List.getElem?_toArray, List.getElem?_cons_succ, List.getElem?_cons_zero] at Bq0
  go_wp2_with fail
  refine behind_normal ⟨(Ex (fun k => base ≤ k) w5), fun W h => h, by first | exact EE1.out | exact fun _ => EE1.out, ?_⟩
  refine PhasedT.go ?_
  simp only [pick, List.map_cons, List.map_nil, List.getElem?_cons_zero, List.getElem?_cons_succ, Option.getD_some]
  repeat (go_big_quiet_step (fail))
  refine wpQuiet_nil ?_
  clear Bq0
  go_wp2_with fail
  have Bq0 := (B_9.out).cell 0
  have Bq6 := (B_9.out).cell 6
  simp only [List.getElem?_toArray, List.getElem?_cons_succ, List.getElem?_cons_zero] at Bq0 Bq6
  have Bf6 := (B_9.out).frozen 6
  refine behind_normal ⟨(Ex (fun k => base ≤ k) w5), fun W h => h, by first | exact EE1.out | exact fun _ => EE1.out, ?_⟩
  refine PhasedT.go ?_
  simp only [pick, List.map_cons, List.map_nil, List.getElem?_cons_zero, List.getElem?_cons_succ, Option.getD_some]
  repeat (go_big_quiet_step (fail))
  refine wpQuiet_nil ?_
  go_wp2_with fail
  refine behind_normal ⟨(Ex (fun k => base ≤ k) w5), fun W h => h, by first | exact fun h => absurd h (by decide) | trivial | simp, ?_⟩
  refine PhasedT.end_ ?_
  clear Bq0 Bq6 Bf6
  have bb := (B_9.out.set_ 6 (.slice va2 (([] : List Int).length + 1) vc2))
  simp only [List.setIfInBounds_toArray, List.set_cons_succ, List.set_cons_zero] at bb
  have BB := Lib.hid bb
  clear bb
  have ee : Ex (fun k => k = f) wb (wb.setCell ⟨f, 6, none⟩ (.slice va2 (([] : List Int).length + 1) vc2)) := ((Ex.refl (fun k => k = f) wb).setCell (q := ⟨f, 6, none⟩) (.inl rfl) (.slice va2 (([] : List Int).length + 1) vc2))
  have R_7 := Lib.hid (R_9.out.ex ee (by have o_ := ORD1.out; omega))
  have O_7 := Lib.hid (HO2.out.ex ee (fun b_ h_ => by have o_ := ORD1.out; have h_ : b_ = f := h_; omega))
  have X_7 := Lib.hid (X_9.out.ex ee (fun b_ h_ => by have o_ := ORD1.out; have h_ : b_ = f := h_; first | omega | (show _ ∨ _; omega)))
  have S_7 := Lib.hid (S_9.out.ex ee (by have o_ := ORD1.out; omega))
  have D_7 := Lib.hid (D_9.out.ex ee (by have o_ := ORD1.out; omega))
  have B_7 := Lib.hid (BB.out)
  clear ee B_9 R_9 HO2 X_9 S_9 D_9 BB
  generalize (wb.setCell ⟨f, 6, none⟩ (.slice va2 (([] : List Int).length + 1) vc2)) = w6 at *
  have hk1 := HK1.out
  have Bq0 := (B_7.out).cell 0
  have Bq3 := (B_7.out).cell 3
  simp only [List.getElem?_toArray, List.getElem?_cons_succ, List.getElem?_cons_zero] at Bq0 Bq3
  have Bf3 := (B_7.out).frozen 3
  go_wp2_with fail
  clear Bq0 Bq3 Bf3
  have bb := (B_7.out.set_ 3 (.int .i64 ((k : Int) + 1)))
  simp only [List.setIfInBounds_toArray, List.set_cons_succ, List.set_cons_zero] at bb
  have BB := Lib.hid bb
  clear bb
  have ee : Ex (fun k => k = f) w6 (w6.setCell ⟨f, 3, none⟩ (.int .i64 ((k : Int) + 1))) := ((Ex.refl (fun k => k = f) w6).setCell (q := ⟨f, 3, none⟩) (.inl rfl) (.int .i64 ((k : Int) + 1)))
  have R_8 := Lib.hid (R_7.out.ex ee (by have o_ := ORD1.out; omega))
  have O_8 := Lib.hid (O_7.out.ex ee (fun b_ h_ => by have o_ := ORD1.out; have h_ : b_ = f := h_; omega))
  have X_8 := Lib.hid (X_7.out.ex ee (fun b_ h_ => by have o_ := ORD1.out; have h_ : b_ = f := h_; first | omega | (show _ ∨ _; omega)))
  have S_8 := Lib.hid (S_7.out.ex ee (by have o_ := ORD1.out; omega))
  have D_8 := Lib.hid (D_7.out.ex ee (by have o_ := ORD1.out; omega))
  have B_8 := Lib.hid (BB.out)
  clear ee B_7 R_7 O_7 X_7 S_7 D_7 BB
  first | (refine bodyPost_ret (results_none rfl _ _ _) rfl ?_) | go_end0
  rw [HZZ.out]
  exact ⟨rfl, ⟨_, B_8.out, O_8.out⟩, X_8.out⟩
set_option maxRecDepth 100000 in
set_option maxHeartbeats 4000000 in
theorem RS_1zl (base f hb rl n cl : Nat) (ws : List Int) (l : Nat → Spot) (T N had begun steps : Int) (k : Nat) (vg vw : Value) (w : World) (ho : Blk w f 49 (rcs rl n cl T 1 (k : Int) N had vg vw begun 0 steps)) (hs : SpsIn w rl n l) (hr : URow w hb ws)
    (ne : f ≠ hb ∧ hb < base ∧ f < base ∧ rl < base ∧ rl ≠ f) (hz : base ≤ w.heap.size) (hn : 1 ≤ n ∧ n ≤ 64) (hR : allR l n = true) (hst : 0 ≤ steps ∧ steps ≤ 1099511627776) (hkn : k < n) (q : Nat) (hq : (l k).seq = (q : Int)) (hin : q < ws.length) (hl : (k : Int) = (n : Int) - 1) (hkz : (k : Int) = 0) (hfit : ∀ i, 0 ≤ nth ws i ∧ nth ws i ≤ 18446744073709551615) :
    Calls Try.prog 16 #[.pointer (some ⟨f, 0, none⟩), .slice (some ⟨hb, 0, none⟩) ws.length ws.length] w fun e w' => e = .returned (.tuple #[]) ∧ (∃ v', Blk w' f 49 (rcs rl n cl T 2 0 0 had v' (.slice none 0 0) (steps + 1) 0 (steps + 1)) ∧ OwnR w' base v' (([] : List Int) ++ [nth ws q / 2])) ∧ Ex (fun k => k = f ∨ base ≤ k) w w' := by
  have HVG := Lib.hid (OwnR.nil w base)
  have B0 := Lib.hid (show Blk w f 49 _ from ho)
  have R0 := Lib.hid hr
  have S0 := Lib.hid hs
  have X0 := Lib.hid (Ex.refl (fun k => k = f ∨ base ≤ k) w)
  have ORD := Lib.hid ne
  have SZ := Lib.hid hz
  have HNN := Lib.hid hn
  have HRR := Lib.hid hR
  have KN := Lib.hid hkn
  unfold rcs at B0
  have HQ := Lib.hid hq
  have HIN := Lib.hid hin
  have HL := Lib.hid hl
  have HKZ := Lib.hid hkz
  have HFIT := Lib.hid hfit
  have HST := Lib.hid (show wrap64 (steps + 1) = steps + 1 from wrap64_in _ (by omega))
  have HN1 := Lib.hid (show wrap64 ((n : Int) - 1) = (n : Int) - 1 from wrap64_in _ (by omega))
  have HK1 := Lib.hid (show wrap64 ((k : Int) + 1) = (k : Int) + 1 from wrap64_in _ (by omega))
  have i0 : (0 : Int) ≤ (k : Int) := by omega
  have i1 : (k : Int) < (n : Int) := by omega
  clear ho hr hs ne hz hn hR hst hkn hq hin hl hkz hfit
  have Bq0 := (B0.out).cell 0
  have Bq9 := (B0.out).cell 9
  simp only [List.getElem?_toArray, List.getElem?_cons_succ, List.getElem?_cons_zero] at Bq0 Bq9
  go_enter Try.func16, Try.ntmps16
  go_upto_region 1 with fail
  clear Bq0 Bq9
  have hne : Nonempty (Held (Below w.heap.size w)) := ⟨⟨w, Below.refl _ _⟩⟩
  have p0 : ∀ y : Held (Below w.heap.size w), y.w.cell? ⟨f, 0, none⟩ = some (.slice (some ⟨rl, 0, none⟩) n cl) := fun y => (B0.out.bl y.ok).cell 0
  have p3 : ∀ y : Held (Below w.heap.size w), y.w.cell? ⟨f, 3, none⟩ = some (.int .i64 (k : Int)) := fun y => (B0.out.bl y.ok).cell 3
  have s0 : ∀ y : Held (Below w.heap.size w), y.w.cell? ⟨rl, k * 5, none⟩ = some (.int .i64 (l k).owners) := fun y => (S0.out.bl y.ok).cells k KN.out 0 (by decide)
  have s1 : ∀ y : Held (Below w.heap.size w), y.w.cell? ⟨rl, k * 5 + 1, none⟩ = some (.int .i64 (l k).seq) := fun y => (S0.out.bl y.ok).cells k KN.out 1 (by decide)
  have s2 : ∀ y : Held (Below w.heap.size w), y.w.cell? ⟨rl, k * 5 + 2, none⟩ = some (.int .i64 (l k).first) := fun y => (S0.out.bl y.ok).cells k KN.out 2 (by decide)
  have s3 : ∀ y : Held (Below w.heap.size w), y.w.cell? ⟨rl, k * 5 + 3, none⟩ = some (.int .i64 (l k).words) := fun y => (S0.out.bl y.ok).cells k KN.out 3 (by decide)
  have s4 : ∀ y : Held (Below w.heap.size w), y.w.cell? ⟨rl, k * 5 + 4, none⟩ = some (.int .i64 (l k).depth) := fun y => (S0.out.bl y.ok).cells k KN.out 4 (by decide)
  refine drawn_bars (S := (Below w.heap.size w)) [([0, 1, 2, 3, 4, 5, 6, 7, 8, 9], 10), ([], 11)] [] (by kernel_rfl) (by kernel_rfl) (by kernel_rfl) rfl (Below.refl _ _).drew ?_
  refine Phased.go ?_
  simp only [pick, List.map_cons, List.map_nil, List.getElem?_cons_zero, List.getElem?_cons_succ, Option.getD_some]
  repeat (go_big_quiet_step (fail))
  refine wpQuiet_nil ?_
  have hbd : Below w.heap.size w w.drew := (Below.refl _ _).drew
  go_wp2_with fail
  refine behind_normal ⟨(Below w.heap.size w), fun W h => h, hbd.alloc (Nat.le_refl _) _, ?_⟩
  refine Phased.go ?_
  simp only [pick, List.map_cons, List.map_nil, List.getElem?_cons_zero, List.getElem?_cons_succ, Option.getD_some]
  repeat (go_big_quiet_step (fail))
  refine wpQuiet_nil ?_
  go_wp2_with fail
  have hn9 : Blk ((w.alloc (.cells #[.int .i64 (l k).owners, .int .i64 (l k).seq, .int .i64 (l k).first, .int .i64 (l k).words, .int .i64 (l k).depth] 95)).drew) w.heap.size 95 #[.int .i64 (l k).owners, .int .i64 (l k).seq, .int .i64 (l k).first, .int .i64 (l k).words, .int .i64 (l k).depth] := Blk.new w _ _
  obtain ⟨sb, hsb⟩ : ∃ sb, w.heap.size = sb := ⟨_, rfl⟩
  have hsb0 : base ≤ sb := hsb ▸ SZ.out
  have hb9 := hbd.alloc (Nat.le_refl _) (.cells #[.int .i64 (l k).owners, .int .i64 (l k).seq, .int .i64 (l k).first, .int .i64 (l k).words, .int .i64 (l k).depth] 95)
  refine behind_normal ⟨(Below w.heap.size w), fun W h => h, hb9, ?_⟩
  refine Phased.end_ ?_
  have hne5 : Nonempty (Held (fun W => W = ((w.alloc (.cells #[.int .i64 (l k).owners, .int .i64 (l k).seq, .int .i64 (l k).first, .int .i64 (l k).words, .int .i64 (l k).depth] 95)).drew))) := ⟨⟨_, rfl⟩⟩
  simp only [pick, List.map_cons, List.map_nil, List.getElem?_cons_zero, List.getElem?_cons_succ, Option.getD_some]
  repeat (go_big_quiet_step (fail))
  refine wpQuiet_nil ?_
  simp only [hsb] at hn9 ⊢
  have ORD1 := Lib.hid (show f ≠ hb ∧ hb < base ∧ f < base ∧ rl < base ∧ rl ≠ f ∧ base ≤ sb from by have o_ := ORD.out; omega)
  clear hb9 hne5 hbd hne p0 p3 s0 s1 s2 s3 s4
  have ee : Ex (fun _ => False) w ((w.alloc (.cells #[.int .i64 (l k).owners, .int .i64 (l k).seq, .int .i64 (l k).first, .int .i64 (l k).words, .int .i64 (l k).depth] 95)).drew) := ((Ex.refl _ w).alloc _).drew
  have B_2 := Lib.hid (B0.out.ex ee (fun h => h))
  have R_2 := Lib.hid (R0.out.ex ee (fun h => h))
  have S_2 := Lib.hid (S0.out.ex ee (fun h => h))
  have X_2 := Lib.hid (X0.out.ex ee (fun b_ h_ => h_.elim))
  have D_2 := Lib.hid (hn9)
  clear ee B0 R0 S0 X0 hn9 hsb0
  generalize ((w.alloc (.cells #[.int .i64 (l k).owners, .int .i64 (l k).seq, .int .i64 (l k).first, .int .i64 (l k).words, .int .i64 (l k).depth] 95)).drew) = w1 at *
  have d1 : w1.cell? ⟨sb, 1, none⟩ = some (.int .i64 (q : Int)) := by rw [← HQ.out]; exact D_2.out.cell 1
  have kq0 : (0 : Int) ≤ (q : Int) := by omega
  have kq1 : (q : Int) < (ws.length : Int) := by have := HIN.out; omega
  have k1 : decide ((q : Int) < 0) = false := decide_eq_false (by omega)
  have k2 : decide ((q : Int) ≥ (ws.length : Int)) = false := decide_eq_false (by omega)
  have Bq0 := (B_2.out).cell 0
  have Bq2 := (B_2.out).cell 2
  have Bq10 := (B_2.out).cell 10
  simp only [List.getElem?_toArray, List.getElem?_cons_succ, List.getElem?_cons_zero] at Bq0 Bq2 Bq10
  have Bf10 := (B_2.out).frozen 10
  have hst := HST.out
  go_upto_region 8 with fail
  clear d1 Bq0 Bq2 Bq10 Bf10
  have bb := (B_2.out.set_ 10 (.int .i64 (steps + 1)))
  simp only [List.setIfInBounds_toArray, List.set_cons_succ, List.set_cons_zero] at bb
  have BB := Lib.hid bb
  clear bb
  have ee : Ex (fun k => k = f) w1 (w1.setCell ⟨f, 10, none⟩ (.int .i64 (steps + 1))) := ((Ex.refl (fun k => k = f) w1).setCell (q := ⟨f, 10, none⟩) (.inl rfl) (.int .i64 (steps + 1)))
  have R_3 := Lib.hid (R_2.out.ex ee (by have o_ := ORD1.out; omega))
  have S_3 := Lib.hid (S_2.out.ex ee (by have o_ := ORD1.out; omega))
  have X_3 := Lib.hid (X_2.out.ex ee (fun b_ h_ => by have o_ := ORD1.out; have h_ : b_ = f := h_; first | omega | (show _ ∨ _; omega)))
  have D_3 := Lib.hid (D_2.out.ex ee (by have o_ := ORD1.out; omega))
  have B_3 := Lib.hid (BB.out)
  clear ee B_2 R_2 S_2 X_2 D_2 BB
  generalize (w1.setCell ⟨f, 10, none⟩ (.int .i64 (steps + 1))) = w3 at *
  have hn1 := HN1.out
  have kl : ((k : Int) == (n : Int) - 1) = true := beq_iff_eq.2 HL.out
  have hne : Nonempty (Held (fun W => W = w3.drew)) := ⟨⟨_, rfl⟩⟩
  have p0 : ∀ y : Held (fun W => W = w3.drew), y.w.cell? ⟨f, 0, none⟩ = some (.slice (some ⟨rl, 0, none⟩) n cl) := fun y => by rw [y.ok]; exact B_3.out.cell 0
  have p3 : ∀ y : Held (fun W => W = w3.drew), y.w.cell? ⟨f, 3, none⟩ = some (.int .i64 (k : Int)) := fun y => by rw [y.ok]; exact B_3.out.cell 3
  refine drawn_bars (S := fun _ => True) [] [0, 1, 2, 3, 4, 5, 6, 7, 8, 9, 10, 11] (by kernel_rfl) (by kernel_rfl) (by kernel_rfl) rfl trivial ?_
  refine Phased.end_ ?_
  simp only [pick, List.map_cons, List.map_nil, List.getElem?_cons_zero, List.getElem?_cons_succ, Option.getD_some]
  repeat (go_big_quiet_step (fail))
  refine wpQuiet_nil ?_
  clear hne p0 p3
  have ee : Ex (fun _ => False) w3 w3.drew := (Ex.refl _ w3).drew
  have B_4 := Lib.hid (B_3.out.ex ee (fun h => h))
  have R_4 := Lib.hid (R_3.out.ex ee (fun h => h))
  have S_4 := Lib.hid (S_3.out.ex ee (fun h => h))
  have X_4 := Lib.hid (X_3.out.ex ee (fun b_ h_ => h_.elim))
  have D_4 := Lib.hid (D_3.out.ex ee (fun h => h))
  clear ee B_3 R_3 S_3 X_3 D_3
  generalize w3.drew = w4 at *
  have kz : ((k : Int) == 0) = true := beq_iff_eq.2 HKZ.out
  have Bq0 := (B_4.out).cell 0
  have Bq2 := (B_4.out).cell 2
  have Bq3 := (B_4.out).cell 3
  have Bq6 := (B_4.out).cell 6
  have Bq7 := (B_4.out).cell 7
  simp only [List.getElem?_toArray, List.getElem?_cons_succ, List.getElem?_cons_zero] at Bq0 Bq2 Bq3 Bq6 Bq7
  have Bf6 := (B_4.out).frozen 6
  have Bf7 := (B_4.out).frozen 7
  go_upto_region 14 with fail
  clear Bq0 Bq2 Bq3 Bq6 Bq7 Bf6 Bf7
  have bb := ((B_4.out.set_ 6 (.slice none 0 0)).set_ 7 (.slice none 0 0))
  simp only [List.setIfInBounds_toArray, List.set_cons_succ, List.set_cons_zero] at bb
  have BB := Lib.hid bb
  clear bb
  have ee : Ex (fun k => k = f) w4 ((w4.setCell ⟨f, 6, none⟩ (.slice none 0 0)).setCell ⟨f, 7, none⟩ (.slice none 0 0)) := (((Ex.refl (fun k => k = f) w4).setCell (q := ⟨f, 6, none⟩) (.inl rfl) (.slice none 0 0)).setCell (q := ⟨f, 7, none⟩) (.inl rfl) (.slice none 0 0))
  have R_5 := Lib.hid (R_4.out.ex ee (by have o_ := ORD1.out; omega))
  have S_5 := Lib.hid (S_4.out.ex ee (by have o_ := ORD1.out; omega))
  have X_5 := Lib.hid (X_4.out.ex ee (fun b_ h_ => by have o_ := ORD1.out; have h_ : b_ = f := h_; first | omega | (show _ ∨ _; omega)))
  have D_5 := Lib.hid (D_4.out.ex ee (by have o_ := ORD1.out; omega))
  have B_5 := Lib.hid (BB.out)
  clear ee B_4 R_4 S_4 X_4 D_4 BB
  generalize ((w4.setCell ⟨f, 6, none⟩ (.slice none 0 0)).setCell ⟨f, 7, none⟩ (.slice none 0 0)) = w5 at *
  have O_z := Lib.hid (OwnR.nil w5 base)
  have HLEN := Lib.hid (show ([] : List Int).length ≤ 64 by decide)
  have HOWN := Lib.hid (fun b (h : Value.ownBlock (.slice none 0 0) = some b) => show b < sb by cases h)
  have HRG := Lib.hid (HFIT.out q)
  have HZ2 := Lib.hid (show IntKind.u64.wrap ((nth ws q).tdiv 2) = nth ws q / 2 by rw [Int.tdiv_eq_ediv_of_nonneg HRG.out.1]; exact u64_wrap_in (by have := HRG.out; omega))
  have hne : Nonempty (Held (Ex (fun k => base ≤ k) w5)) := ⟨⟨w5, Ex.refl _ _⟩⟩
  have p6 : ∀ y : Held (Ex (fun k => base ≤ k) w5), y.w.cell? ⟨f, 6, none⟩ = some (.slice none 0 0) := fun y => (B_5.out.ex y.ok (by have := ORD.out; omega)).cell 6
  have pw : ∀ y : Held (Ex (fun k => base ≤ k) w5), y.w.cell? ⟨hb, q, none⟩ = some (.int .u64 (nth ws q)) := fun y => (R_5.out.ex y.ok (by have := ORD.out; omega)).word HIN.out
  obtain ⟨i0_, hi0, hz0, hz1, hz2⟩ := info_parts wordU_info
  refine drawn_tail (S := (Ex (fun k => base ≤ k) w5)) [14] [([0, 1, 2, 3, 4, 5, 6, 7, 8, 9], 10), ([], 11), ([], 12), ([], 13), ([], 14)] (by kernel_rfl) (by kernel_rfl) (by kernel_rfl) rfl (Ex.refl _ _).drew ?_
  refine PhasedT.go ?_
  generalize hzz : nth ws q = z at *
  have HZZ := Lib.hid hzz
  clear hzz
  have kz2 := HZ2.out
  simp only [pick, List.map_cons, List.map_nil, List.getElem?_cons_zero, List.getElem?_cons_succ, Option.getD_some]
  repeat (go_big_quiet_step (fail))
  refine wpQuiet_nil ?_
  clear hne p6 pw
  have ee : Ex (fun _ => False) w5 w5.drew := (Ex.refl _ w5).drew
  have B_6 := Lib.hid (B_5.out.ex ee (fun h => h))
  have R_6 := Lib.hid (R_5.out.ex ee (fun h => h))
  have S_6 := Lib.hid (S_5.out.ex ee (fun h => h))
  have X_6 := Lib.hid (X_5.out.ex ee (fun b_ h_ => h_.elim))
  have D_6 := Lib.hid (D_5.out.ex ee (fun h => h))
  have O_6 := Lib.hid (O_z.out.ex ee (fun b_ h_ => h_.elim))
  clear ee B_5 R_5 S_5 X_5 D_5 O_z
  have EE0 := Lib.hid ((Ex.refl (fun k => base ≤ k) w5).drew)
  generalize w5.drew = wa at *
  have SZa := Lib.hid (Nat.le_trans SZ.out X_6.out.size)
  go_wp2_with fail
  refine behind_normal ⟨(Ex (fun k => base ≤ k) w5), fun W h => h, by first | exact EE0.out.alloc _ | exact fun _ => EE0.out.alloc _, ?_⟩
  refine PhasedT.go ?_
  simp only [pick, List.map_cons, List.map_nil, List.getElem?_cons_zero, List.getElem?_cons_succ, Option.getD_some]
  repeat (go_big_quiet_step (fail))
  refine wpQuiet_nil ?_
  go_wp2_with (at_builtin; refine wpList_append_own _ rfl _ _ 41 rfl base 42 i0_ (.int .u64 0) 1 8 Try.underlying41 hi0 hz0 hz1 hz2 rfl (by decide) _ _ _ rfl (World.ownsRow.alloc O_6.out _) ⟨wa.heap.size, 0, none⟩ 1 1 [.int .u64 (z / 2)] rfl rfl ?c1 ?c2 ?c3 ?c4 ?c5 ?_)
  case c1 =>
    have hbn := Blk.new wa 42 #[.int .u64 (z / 2)]
    intro j u hj
    match j, hj with
    | 0, hj => simp at hj; subst hj; exact hbn.cell 0
  case c2 =>
    intro u hu
    simp only [List.mem_cons, List.not_mem_nil, or_false] at hu
    subst hu; rfl
  case c3 => have h1 := HLEN.out; have h2 := SZa.out; first | omega | (unfold maxLen; omega) | (simp; omega)
  case c4 => have h1 := HLEN.out; have h2 := SZa.out; first | omega | (unfold maxLen; omega) | (simp; omega)
  case c5 => have h1 := HLEN.out; have h2 := SZa.out; first | omega | (unfold maxLen; omega) | (simp; omega)
  intro v' wb hown' hgrow _
  have hbel := ((Below.refl base wa).alloc SZa.out (.cells #[.int .u64 (z / 2)] 42)).grown hgrow (by have := SZa.out; simp; omega) (fun k hk => (World.ownsRow.lt O_6.out k hk).1)
  have hgr2 := ((Ex.refl _ wa).alloc (.cells #[.int .u64 (z / 2)] 42)).trans (Ex.of_grown hgrow)
  have hown2 : OwnR wb base v' ([] ++ [z / 2]) := by unfold OwnR; simpa using hown'
  obtain ⟨va2, vc2, rfl⟩ := hown2.form
  have hlw : ([] ++ [z / 2]).length = ([] : List Int).length + 1 := by simp
  have HO2 := Lib.hid (show OwnR wb base (.slice va2 (([] : List Int).length + 1) vc2) ([] ++ [z / 2]) by have := hown2; rw [hlw] at this; exact this)
  have he : Ex (fun k => base ≤ k) wa wb := ⟨hbel.os, hbel.tape, hbel.output, hbel.size, fun k hk hn => hbel.block k (by omega)⟩
  have B_9 := Lib.hid (B_6.out.ex he (by have := ORD.out; omega))
  have R_9 := Lib.hid (R_6.out.ex he (by have := ORD.out; omega))
  have S_9 := Lib.hid (S_6.out.ex he (by have := ORD.out; omega))
  have D_9 := Lib.hid (D_6.out.ex hgr2 (fun h => Nat.lt_irrefl _ (HOWN.out _ h)))
  have X_9 := Lib.hid (X_6.out.ex he (fun k hk => .inr hk))
  have EE1 := Lib.hid (EE0.out.trans he)
  clear hown' hgrow hbel hown2 he hgr2 B_6 R_6 O_6 X_6 S_6 D_6  EE0
  refine behind_normal ⟨(Ex (fun k => base ≤ k) w5), fun W h => h, by first | exact EE1.out | exact fun _ => EE1.out, ?_⟩
  refine PhasedT.go ?_
  simp only [pick, List.map_cons, List.map_nil, List.getElem?_cons_zero, List.getElem?_cons_succ, Option.getD_some]
  repeat (go_big_quiet_step (fail))
  refine wpQuiet_nil ?_
  have Bq0 := B_9.out.cell 0
  simp only [List.getElem?_toArray, List.getElem?_cons_succ, List.getElem?_cons_zero] at Bq0
  go_wp2_with fail
  refine behind_normal ⟨(Ex (fun k => base ≤ k) w5), fun W h => h, by first | exact EE1.out | exact fun _ => EE1.out, ?_⟩
  refine PhasedT.go ?_
  simp only [pick, List.map_cons, List.map_nil, List.getElem?_cons_zero, List.getElem?_cons_succ, Option.getD_some]
  repeat (go_big_quiet_step (fail))
  refine wpQuiet_nil ?_
  clear Bq0
  go_wp2_with fail
  have Bq0 := (B_9.out).cell 0
  have Bq6 := (B_9.out).cell 6
  simp only [List.getElem?_toArray, List.getElem?_cons_succ, List.getElem?_cons_zero] at Bq0 Bq6
  have Bf6 := (B_9.out).frozen 6
  refine behind_normal ⟨(Ex (fun k => base ≤ k) w5), fun W h => h, by first | exact EE1.out | exact fun _ => EE1.out, ?_⟩
  refine PhasedT.go ?_
  simp only [pick, List.map_cons, List.map_nil, List.getElem?_cons_zero, List.getElem?_cons_succ, Option.getD_some]
  repeat (go_big_quiet_step (fail))
  refine wpQuiet_nil ?_
  go_wp2_with fail
  refine behind_normal ⟨(Ex (fun k => base ≤ k) w5), fun W h => h, by first | exact fun h => absurd h (by decide) | trivial | simp, ?_⟩
  refine PhasedT.end_ ?_
  clear Bq0 Bq6 Bf6
  have bb := (B_9.out.set_ 6 (.slice va2 (([] : List Int).length + 1) vc2))
  simp only [List.setIfInBounds_toArray, List.set_cons_succ, List.set_cons_zero] at bb
  have BB := Lib.hid bb
  clear bb
  have ee : Ex (fun k => k = f) wb (wb.setCell ⟨f, 6, none⟩ (.slice va2 (([] : List Int).length + 1) vc2)) := ((Ex.refl (fun k => k = f) wb).setCell (q := ⟨f, 6, none⟩) (.inl rfl) (.slice va2 (([] : List Int).length + 1) vc2))
  have R_7 := Lib.hid (R_9.out.ex ee (by have o_ := ORD1.out; omega))
  have O_7 := Lib.hid (HO2.out.ex ee (fun b_ h_ => by have o_ := ORD1.out; have h_ : b_ = f := h_; omega))
  have X_7 := Lib.hid (X_9.out.ex ee (fun b_ h_ => by have o_ := ORD1.out; have h_ : b_ = f := h_; first | omega | (show _ ∨ _; omega)))
  have S_7 := Lib.hid (S_9.out.ex ee (by have o_ := ORD1.out; omega))
  have D_7 := Lib.hid (D_9.out.ex ee (by have o_ := ORD1.out; omega))
  have B_7 := Lib.hid (BB.out)
  clear ee B_9 R_9 HO2 X_9 S_9 D_9 BB
  generalize (wb.setCell ⟨f, 6, none⟩ (.slice va2 (([] : List Int).length + 1) vc2)) = w6 at *
  have hk1 := HK1.out
  have Bq0 := (B_7.out).cell 0
  have Bq2 := (B_7.out).cell 2
  have Bq3 := (B_7.out).cell 3
  have Bq4 := (B_7.out).cell 4
  have Bq8 := (B_7.out).cell 8
  have Bq10 := (B_7.out).cell 10
  simp only [List.getElem?_toArray, List.getElem?_cons_succ, List.getElem?_cons_zero] at Bq0 Bq2 Bq3 Bq4 Bq8 Bq10
  have Bf2 := (B_7.out).frozen 2
  have Bf3 := (B_7.out).frozen 3
  have Bf4 := (B_7.out).frozen 4
  have Bf8 := (B_7.out).frozen 8
  go_wp2_with fail
  clear Bq0 Bq2 Bq3 Bq4 Bq8 Bq10 Bf2 Bf3 Bf4 Bf8
  have bb := (((((B_7.out.set_ 3 (.int .i64 ((k : Int) + 1))).set_ 8 (.int .i64 (steps + 1))).set_ 2 (.int .i64 2)).set_ 3 (.int .i64 0)).set_ 4 (.int .i64 0))
  simp only [List.setIfInBounds_toArray, List.set_cons_succ, List.set_cons_zero] at bb
  have BB := Lib.hid bb
  clear bb
  have ee : Ex (fun k => k = f) w6 (((((w6.setCell ⟨f, 3, none⟩ (.int .i64 ((k : Int) + 1))).setCell ⟨f, 8, none⟩ (.int .i64 (steps + 1))).setCell ⟨f, 2, none⟩ (.int .i64 2)).setCell ⟨f, 3, none⟩ (.int .i64 0)).setCell ⟨f, 4, none⟩ (.int .i64 0)) := ((((((Ex.refl (fun k => k = f) w6).setCell (q := ⟨f, 3, none⟩) (.inl rfl) (.int .i64 ((k : Int) + 1))).setCell (q := ⟨f, 8, none⟩) (.inl rfl) (.int .i64 (steps + 1))).setCell (q := ⟨f, 2, none⟩) (.inl rfl) (.int .i64 2)).setCell (q := ⟨f, 3, none⟩) (.inl rfl) (.int .i64 0)).setCell (q := ⟨f, 4, none⟩) (.inl rfl) (.int .i64 0))
  have R_8 := Lib.hid (R_7.out.ex ee (by have o_ := ORD1.out; omega))
  have O_8 := Lib.hid (O_7.out.ex ee (fun b_ h_ => by have o_ := ORD1.out; have h_ : b_ = f := h_; omega))
  have X_8 := Lib.hid (X_7.out.ex ee (fun b_ h_ => by have o_ := ORD1.out; have h_ : b_ = f := h_; first | omega | (show _ ∨ _; omega)))
  have S_8 := Lib.hid (S_7.out.ex ee (by have o_ := ORD1.out; omega))
  have D_8 := Lib.hid (D_7.out.ex ee (by have o_ := ORD1.out; omega))
  have B_8 := Lib.hid (BB.out)
  clear ee B_7 R_7 O_7 X_7 S_7 D_7 BB
  first | (refine bodyPost_ret (results_none rfl _ _ _) rfl ?_) | go_end0
  rw [HZZ.out]
  exact ⟨rfl, ⟨_, B_8.out, O_8.out⟩, X_8.out⟩
set_option maxRecDepth 100000 in
set_option maxHeartbeats 4000000 in
theorem RS_1m (base f hb rl n cl : Nat) (ws : List Int) (l : Nat → Spot) (T N had begun steps : Int) (k : Nat) (vg vw : Value) (w : World) (ho : Blk w f 49 (rcs rl n cl T 1 (k : Int) N had vg (.slice none 0 0) begun 0 steps)) (hs : SpsIn w rl n l) (hr : URow w hb ws)
    (ne : f ≠ hb ∧ hb < base ∧ f < base ∧ rl < base ∧ rl ≠ f) (hz : base ≤ w.heap.size) (hn : 1 ≤ n ∧ n ≤ 64) (hR : allR l n = true) (hst : 0 ≤ steps ∧ steps ≤ 1099511627776) (hkn : k < n) (G : List Int) (ho2 : OwnR w base vg G) (hG : G.length = k) (q : Nat) (hq : (l k).seq = (q : Int)) (hin : q < ws.length) (hl : ¬ (k : Int) = (n : Int) - 1) (hkz : ¬ (k : Int) = 0) (hfit : ∀ i, 0 ≤ nth ws i ∧ nth ws i ≤ 18446744073709551615) :
    Calls Try.prog 16 #[.pointer (some ⟨f, 0, none⟩), .slice (some ⟨hb, 0, none⟩) ws.length ws.length] w fun e w' => e = .returned (.tuple #[]) ∧ (∃ v', Blk w' f 49 (rcs rl n cl T 1 ((k : Int) + 1) N had v' (.slice none 0 0) begun 0 (steps + 1)) ∧ OwnR w' base v' (G ++ [nth ws q / 2])) ∧ Ex (fun k => k = f ∨ base ≤ k) w w' := by
  obtain ⟨va, vc, rfl⟩ := OwnR.form ho2
  have O0 := Lib.hid ho2
  have HLEN := Lib.hid (show G.length ≤ 64 by omega)
  clear ho2 hG
  have B0 := Lib.hid (show Blk w f 49 _ from ho)
  have R0 := Lib.hid hr
  have S0 := Lib.hid hs
  have X0 := Lib.hid (Ex.refl (fun k => k = f ∨ base ≤ k) w)
  have ORD := Lib.hid ne
  have SZ := Lib.hid hz
  have HNN := Lib.hid hn
  have HRR := Lib.hid hR
  have KN := Lib.hid hkn
  unfold rcs at B0
  have HQ := Lib.hid hq
  have HIN := Lib.hid hin
  have HL := Lib.hid hl
  have HKZ := Lib.hid hkz
  have HFIT := Lib.hid hfit
  have HST := Lib.hid (show wrap64 (steps + 1) = steps + 1 from wrap64_in _ (by omega))
  have HN1 := Lib.hid (show wrap64 ((n : Int) - 1) = (n : Int) - 1 from wrap64_in _ (by omega))
  have HK1 := Lib.hid (show wrap64 ((k : Int) + 1) = (k : Int) + 1 from wrap64_in _ (by omega))
  have i0 : (0 : Int) ≤ (k : Int) := by omega
  have i1 : (k : Int) < (n : Int) := by omega
  clear ho hr hs ne hz hn hR hst hkn hq hin hl hkz hfit
  have Bq0 := (B0.out).cell 0
  have Bq9 := (B0.out).cell 9
  simp only [List.getElem?_toArray, List.getElem?_cons_succ, List.getElem?_cons_zero] at Bq0 Bq9
  go_enter Try.func16, Try.ntmps16
  go_upto_region 1 with fail
  clear Bq0 Bq9
  have hne : Nonempty (Held (Below w.heap.size w)) := ⟨⟨w, Below.refl _ _⟩⟩
  have p0 : ∀ y : Held (Below w.heap.size w), y.w.cell? ⟨f, 0, none⟩ = some (.slice (some ⟨rl, 0, none⟩) n cl) := fun y => (B0.out.bl y.ok).cell 0
  have p3 : ∀ y : Held (Below w.heap.size w), y.w.cell? ⟨f, 3, none⟩ = some (.int .i64 (k : Int)) := fun y => (B0.out.bl y.ok).cell 3
  have s0 : ∀ y : Held (Below w.heap.size w), y.w.cell? ⟨rl, k * 5, none⟩ = some (.int .i64 (l k).owners) := fun y => (S0.out.bl y.ok).cells k KN.out 0 (by decide)
  have s1 : ∀ y : Held (Below w.heap.size w), y.w.cell? ⟨rl, k * 5 + 1, none⟩ = some (.int .i64 (l k).seq) := fun y => (S0.out.bl y.ok).cells k KN.out 1 (by decide)
  have s2 : ∀ y : Held (Below w.heap.size w), y.w.cell? ⟨rl, k * 5 + 2, none⟩ = some (.int .i64 (l k).first) := fun y => (S0.out.bl y.ok).cells k KN.out 2 (by decide)
  have s3 : ∀ y : Held (Below w.heap.size w), y.w.cell? ⟨rl, k * 5 + 3, none⟩ = some (.int .i64 (l k).words) := fun y => (S0.out.bl y.ok).cells k KN.out 3 (by decide)
  have s4 : ∀ y : Held (Below w.heap.size w), y.w.cell? ⟨rl, k * 5 + 4, none⟩ = some (.int .i64 (l k).depth) := fun y => (S0.out.bl y.ok).cells k KN.out 4 (by decide)
  refine drawn_bars (S := (Below w.heap.size w)) [([0, 1, 2, 3, 4, 5, 6, 7, 8, 9], 10), ([], 11)] [] (by kernel_rfl) (by kernel_rfl) (by kernel_rfl) rfl (Below.refl _ _).drew ?_
  refine Phased.go ?_
  simp only [pick, List.map_cons, List.map_nil, List.getElem?_cons_zero, List.getElem?_cons_succ, Option.getD_some]
  repeat (go_big_quiet_step (fail))
  refine wpQuiet_nil ?_
  have hbd : Below w.heap.size w w.drew := (Below.refl _ _).drew
  go_wp2_with fail
  refine behind_normal ⟨(Below w.heap.size w), fun W h => h, hbd.alloc (Nat.le_refl _) _, ?_⟩
  refine Phased.go ?_
  simp only [pick, List.map_cons, List.map_nil, List.getElem?_cons_zero, List.getElem?_cons_succ, Option.getD_some]
  repeat (go_big_quiet_step (fail))
  refine wpQuiet_nil ?_
  go_wp2_with fail
  have hn9 : Blk ((w.alloc (.cells #[.int .i64 (l k).owners, .int .i64 (l k).seq, .int .i64 (l k).first, .int .i64 (l k).words, .int .i64 (l k).depth] 95)).drew) w.heap.size 95 #[.int .i64 (l k).owners, .int .i64 (l k).seq, .int .i64 (l k).first, .int .i64 (l k).words, .int .i64 (l k).depth] := Blk.new w _ _
  obtain ⟨sb, hsb⟩ : ∃ sb, w.heap.size = sb := ⟨_, rfl⟩
  have hsb0 : base ≤ sb := hsb ▸ SZ.out
  have HOWN := Lib.hid (fun b h => show b < sb from hsb ▸ (World.ownsRow.lt O0.out b h).2)
  have hb9 := hbd.alloc (Nat.le_refl _) (.cells #[.int .i64 (l k).owners, .int .i64 (l k).seq, .int .i64 (l k).first, .int .i64 (l k).words, .int .i64 (l k).depth] 95)
  refine behind_normal ⟨(Below w.heap.size w), fun W h => h, hb9, ?_⟩
  refine Phased.end_ ?_
  have hne5 : Nonempty (Held (fun W => W = ((w.alloc (.cells #[.int .i64 (l k).owners, .int .i64 (l k).seq, .int .i64 (l k).first, .int .i64 (l k).words, .int .i64 (l k).depth] 95)).drew))) := ⟨⟨_, rfl⟩⟩
  simp only [pick, List.map_cons, List.map_nil, List.getElem?_cons_zero, List.getElem?_cons_succ, Option.getD_some]
  repeat (go_big_quiet_step (fail))
  refine wpQuiet_nil ?_
  simp only [hsb] at hn9 ⊢
  have ORD1 := Lib.hid (show f ≠ hb ∧ hb < base ∧ f < base ∧ rl < base ∧ rl ≠ f ∧ base ≤ sb from by have o_ := ORD.out; omega)
  clear hb9 hne5 hbd hne p0 p3 s0 s1 s2 s3 s4
  have ee : Ex (fun _ => False) w ((w.alloc (.cells #[.int .i64 (l k).owners, .int .i64 (l k).seq, .int .i64 (l k).first, .int .i64 (l k).words, .int .i64 (l k).depth] 95)).drew) := ((Ex.refl _ w).alloc _).drew
  have B_2 := Lib.hid (B0.out.ex ee (fun h => h))
  have R_2 := Lib.hid (R0.out.ex ee (fun h => h))
  have S_2 := Lib.hid (S0.out.ex ee (fun h => h))
  have X_2 := Lib.hid (X0.out.ex ee (fun b_ h_ => h_.elim))
  have O_2 := Lib.hid (O0.out.ex ee (fun b_ h_ => h_.elim))
  have D_2 := Lib.hid (hn9)
  clear ee B0 R0 S0 X0 O0 hn9 hsb0
  generalize ((w.alloc (.cells #[.int .i64 (l k).owners, .int .i64 (l k).seq, .int .i64 (l k).first, .int .i64 (l k).words, .int .i64 (l k).depth] 95)).drew) = w1 at *
  have d1 : w1.cell? ⟨sb, 1, none⟩ = some (.int .i64 (q : Int)) := by rw [← HQ.out]; exact D_2.out.cell 1
  have kq0 : (0 : Int) ≤ (q : Int) := by omega
  have kq1 : (q : Int) < (ws.length : Int) := by have := HIN.out; omega
  have k1 : decide ((q : Int) < 0) = false := decide_eq_false (by omega)
  have k2 : decide ((q : Int) ≥ (ws.length : Int)) = false := decide_eq_false (by omega)
  have Bq0 := (B_2.out).cell 0
  have Bq2 := (B_2.out).cell 2
  have Bq10 := (B_2.out).cell 10
  simp only [List.getElem?_toArray, List.getElem?_cons_succ, List.getElem?_cons_zero] at Bq0 Bq2 Bq10
  have Bf10 := (B_2.out).frozen 10
  have hst := HST.out
  go_upto_region 8 with fail
  clear d1 Bq0 Bq2 Bq10 Bf10
  have bb := (B_2.out.set_ 10 (.int .i64 (steps + 1)))
  simp only [List.setIfInBounds_toArray, List.set_cons_succ, List.set_cons_zero] at bb
  have BB := Lib.hid bb
  clear bb
  have ee : Ex (fun k => k = f) w1 (w1.setCell ⟨f, 10, none⟩ (.int .i64 (steps + 1))) := ((Ex.refl (fun k => k = f) w1).setCell (q := ⟨f, 10, none⟩) (.inl rfl) (.int .i64 (steps + 1)))
  have R_3 := Lib.hid (R_2.out.ex ee (by have o_ := ORD1.out; omega))
  have S_3 := Lib.hid (S_2.out.ex ee (by have o_ := ORD1.out; omega))
  have X_3 := Lib.hid (X_2.out.ex ee (fun b_ h_ => by have o_ := ORD1.out; have h_ : b_ = f := h_; first | omega | (show _ ∨ _; omega)))
  have O_3 := Lib.hid (O_2.out.ex ee (fun b_ h_ => by have o_ := ORD1.out; have h_ : b_ = f := h_; omega))
  have D_3 := Lib.hid (D_2.out.ex ee (by have o_ := ORD1.out; omega))
  have B_3 := Lib.hid (BB.out)
  clear ee B_2 R_2 S_2 X_2 O_2 D_2 BB
  generalize (w1.setCell ⟨f, 10, none⟩ (.int .i64 (steps + 1))) = w3 at *
  have hn1 := HN1.out
  have kl : ((k : Int) == (n : Int) - 1) = false := beq_eq_false_iff_ne.2 HL.out
  have hne : Nonempty (Held (fun W => W = w3.drew)) := ⟨⟨_, rfl⟩⟩
  have p0 : ∀ y : Held (fun W => W = w3.drew), y.w.cell? ⟨f, 0, none⟩ = some (.slice (some ⟨rl, 0, none⟩) n cl) := fun y => by rw [y.ok]; exact B_3.out.cell 0
  have p3 : ∀ y : Held (fun W => W = w3.drew), y.w.cell? ⟨f, 3, none⟩ = some (.int .i64 (k : Int)) := fun y => by rw [y.ok]; exact B_3.out.cell 3
  refine drawn_bars (S := fun _ => True) [] [0, 1, 2, 3, 4, 5, 6, 7, 8, 9, 10, 11] (by kernel_rfl) (by kernel_rfl) (by kernel_rfl) rfl trivial ?_
  refine Phased.end_ ?_
  simp only [pick, List.map_cons, List.map_nil, List.getElem?_cons_zero, List.getElem?_cons_succ, Option.getD_some]
  repeat (go_big_quiet_step (fail))
  refine wpQuiet_nil ?_
  clear hne p0 p3
  have ee : Ex (fun _ => False) w3 w3.drew := (Ex.refl _ w3).drew
  have B_4 := Lib.hid (B_3.out.ex ee (fun h => h))
  have R_4 := Lib.hid (R_3.out.ex ee (fun h => h))
  have S_4 := Lib.hid (S_3.out.ex ee (fun h => h))
  have X_4 := Lib.hid (X_3.out.ex ee (fun b_ h_ => h_.elim))
  have O_4 := Lib.hid (O_3.out.ex ee (fun b_ h_ => h_.elim))
  have D_4 := Lib.hid (D_3.out.ex ee (fun h => h))
  clear ee B_3 R_3 S_3 X_3 O_3 D_3
  generalize w3.drew = w4 at *
  have kz : ((k : Int) == 0) = false := beq_eq_false_iff_ne.2 HKZ.out
  have Bq0 := (B_4.out).cell 0
  have Bq2 := (B_4.out).cell 2
  have Bq3 := (B_4.out).cell 3
  simp only [List.getElem?_toArray, List.getElem?_cons_succ, List.getElem?_cons_zero] at Bq0 Bq2 Bq3
  go_upto_region 14 with fail
  have HRG := Lib.hid (HFIT.out q)
  have HZ2 := Lib.hid (show IntKind.u64.wrap ((nth ws q).tdiv 2) = nth ws q / 2 by rw [Int.tdiv_eq_ediv_of_nonneg HRG.out.1]; exact u64_wrap_in (by have := HRG.out; omega))
  clear Bq0 Bq2 Bq3
  have hne : Nonempty (Held (Ex (fun k => base ≤ k) w4)) := ⟨⟨w4, Ex.refl _ _⟩⟩
  have p6 : ∀ y : Held (Ex (fun k => base ≤ k) w4), y.w.cell? ⟨f, 6, none⟩ = some (.slice va G.length vc) := fun y => (B_4.out.ex y.ok (by have := ORD.out; omega)).cell 6
  have pw : ∀ y : Held (Ex (fun k => base ≤ k) w4), y.w.cell? ⟨hb, q, none⟩ = some (.int .u64 (nth ws q)) := fun y => (R_4.out.ex y.ok (by have := ORD.out; omega)).word HIN.out
  obtain ⟨i0_, hi0, hz0, hz1, hz2⟩ := info_parts wordU_info
  refine drawn_tail (S := (Ex (fun k => base ≤ k) w4)) [14] [([0, 1, 2, 3, 4, 5, 6, 7, 8, 9], 10), ([], 11), ([], 12), ([], 13), ([], 14)] (by kernel_rfl) (by kernel_rfl) (by kernel_rfl) rfl (Ex.refl _ _).drew ?_
  refine PhasedT.go ?_
  generalize hzz : nth ws q = z at *
  have HZZ := Lib.hid hzz
  clear hzz
  have kz2 := HZ2.out
  simp only [pick, List.map_cons, List.map_nil, List.getElem?_cons_zero, List.getElem?_cons_succ, Option.getD_some]
  repeat (go_big_quiet_step (fail))
  refine wpQuiet_nil ?_
  clear hne p6 pw
  have ee : Ex (fun _ => False) w4 w4.drew := (Ex.refl _ w4).drew
  have B_5 := Lib.hid (B_4.out.ex ee (fun h => h))
  have R_5 := Lib.hid (R_4.out.ex ee (fun h => h))
  have S_5 := Lib.hid (S_4.out.ex ee (fun h => h))
  have X_5 := Lib.hid (X_4.out.ex ee (fun b_ h_ => h_.elim))
  have O_5 := Lib.hid (O_4.out.ex ee (fun b_ h_ => h_.elim))
  have D_5 := Lib.hid (D_4.out.ex ee (fun h => h))
  clear ee B_4 R_4 S_4 X_4 O_4 D_4
  have EE0 := Lib.hid ((Ex.refl (fun k => base ≤ k) w4).drew)
  generalize w4.drew = wa at *
  have SZa := Lib.hid (Nat.le_trans SZ.out X_5.out.size)
  go_wp2_with fail
  refine behind_normal ⟨(Ex (fun k => base ≤ k) w4), fun W h => h, by first | exact EE0.out.alloc _ | exact fun _ => EE0.out.alloc _, ?_⟩
  refine PhasedT.go ?_
  simp only [pick, List.map_cons, List.map_nil, List.getElem?_cons_zero, List.getElem?_cons_succ, Option.getD_some]
  repeat (go_big_quiet_step (fail))
  refine wpQuiet_nil ?_
  go_wp2_with (at_builtin; refine wpList_append_own _ rfl _ _ 41 rfl base 42 i0_ (.int .u64 0) 1 8 Try.underlying41 hi0 hz0 hz1 hz2 rfl (by decide) _ _ _ rfl (World.ownsRow.alloc O_5.out _) ⟨wa.heap.size, 0, none⟩ 1 1 [.int .u64 (z / 2)] rfl rfl ?c1 ?c2 ?c3 ?c4 ?c5 ?_)
  case c1 =>
    have hbn := Blk.new wa 42 #[.int .u64 (z / 2)]
    intro j u hj
    match j, hj with
    | 0, hj => simp at hj; subst hj; exact hbn.cell 0
  case c2 =>
    intro u hu
    simp only [List.mem_cons, List.not_mem_nil, or_false] at hu
    subst hu; rfl
  case c3 => have h1 := HLEN.out; have h2 := SZa.out; first | omega | (unfold maxLen; omega) | (simp; omega)
  case c4 => have h1 := HLEN.out; have h2 := SZa.out; first | omega | (unfold maxLen; omega) | (simp; omega)
  case c5 => have h1 := HLEN.out; have h2 := SZa.out; first | omega | (unfold maxLen; omega) | (simp; omega)
  intro v' wb hown' hgrow _
  have hbel := ((Below.refl base wa).alloc SZa.out (.cells #[.int .u64 (z / 2)] 42)).grown hgrow (by have := SZa.out; simp; omega) (fun k hk => (World.ownsRow.lt O_5.out k hk).1)
  have hgr2 := ((Ex.refl _ wa).alloc (.cells #[.int .u64 (z / 2)] 42)).trans (Ex.of_grown hgrow)
  have hown2 : OwnR wb base v' (G ++ [z / 2]) := by unfold OwnR; simpa using hown'
  obtain ⟨va2, vc2, rfl⟩ := hown2.form
  have hlw : (G ++ [z / 2]).length = G.length + 1 := by simp
  have HO2 := Lib.hid (show OwnR wb base (.slice va2 (G.length + 1) vc2) (G ++ [z / 2]) by have := hown2; rw [hlw] at this; exact this)
  have he : Ex (fun k => base ≤ k) wa wb := ⟨hbel.os, hbel.tape, hbel.output, hbel.size, fun k hk hn => hbel.block k (by omega)⟩
  have B_9 := Lib.hid (B_5.out.ex he (by have := ORD.out; omega))
  have R_9 := Lib.hid (R_5.out.ex he (by have := ORD.out; omega))
  have S_9 := Lib.hid (S_5.out.ex he (by have := ORD.out; omega))
  have D_9 := Lib.hid (D_5.out.ex hgr2 (fun h => Nat.lt_irrefl _ (HOWN.out _ h)))
  have X_9 := Lib.hid (X_5.out.ex he (fun k hk => .inr hk))
  have EE1 := Lib.hid (EE0.out.trans he)
  clear hown' hgrow hbel hown2 he hgr2 B_5 R_5 O_5 X_5 S_5 D_5  EE0
  refine behind_normal ⟨(Ex (fun k => base ≤ k) w4), fun W h => h, by first | exact EE1.out | exact fun _ => EE1.out, ?_⟩
  refine PhasedT.go ?_
  simp only [pick, List.map_cons, List.map_nil, List.getElem?_cons_zero, List.getElem?_cons_succ, Option.getD_some]
  repeat (go_big_quiet_step (fail))
  refine wpQuiet_nil ?_
  have Bq0 := B_9.out.cell 0
  simp only [List.getElem?_toArray, List.getElem?_cons_succ, List.getElem?_cons_zero] at Bq0
  go_wp2_with fail
  refine behind_normal ⟨(Ex (fun k => base ≤ k) w4), fun W h => h, by first | exact EE1.out | exact fun _ => EE1.out, ?_⟩
  refine PhasedT.go ?_
  simp only [pick, List.map_cons, List.map_nil, List.getElem?_cons_zero, List.getElem?_cons_succ, Option.getD_some]
  repeat (go_big_quiet_step (fail))
  refine wpQuiet_nil ?_
  clear Bq0
  go_wp2_with fail
  have Bq0 := (B_9.out).cell 0
  have Bq6 := (B_9.out).cell 6
  simp only [List.getElem?_toArray, List.getElem?_cons_succ, List.getElem?_cons_zero] at Bq0 Bq6
  have Bf6 := (B_9.out).frozen 6
  refine behind_normal ⟨(Ex (fun k => base ≤ k) w4), fun W h => h, by first | exact EE1.out | exact fun _ => EE1.out, ?_⟩
  refine PhasedT.go ?_
  simp only [pick, List.map_cons, List.map_nil, List.getElem?_cons_zero, List.getElem?_cons_succ, Option.getD_some]
  repeat (go_big_quiet_step (fail))
  refine wpQuiet_nil ?_
  go_wp2_with fail
  refine behind_normal ⟨(Ex (fun k => base ≤ k) w4), fun W h => h, by first | exact fun h => absurd h (by decide) | trivial | simp, ?_⟩
  refine PhasedT.end_ ?_
  clear Bq0 Bq6 Bf6
  have bb := (B_9.out.set_ 6 (.slice va2 (G.length + 1) vc2))
  simp only [List.setIfInBounds_toArray, List.set_cons_succ, List.set_cons_zero] at bb
  have BB := Lib.hid bb
  clear bb
  have ee : Ex (fun k => k = f) wb (wb.setCell ⟨f, 6, none⟩ (.slice va2 (G.length + 1) vc2)) := ((Ex.refl (fun k => k = f) wb).setCell (q := ⟨f, 6, none⟩) (.inl rfl) (.slice va2 (G.length + 1) vc2))
  have R_6 := Lib.hid (R_9.out.ex ee (by have o_ := ORD1.out; omega))
  have O_6 := Lib.hid (HO2.out.ex ee (fun b_ h_ => by have o_ := ORD1.out; have h_ : b_ = f := h_; omega))
  have X_6 := Lib.hid (X_9.out.ex ee (fun b_ h_ => by have o_ := ORD1.out; have h_ : b_ = f := h_; first | omega | (show _ ∨ _; omega)))
  have S_6 := Lib.hid (S_9.out.ex ee (by have o_ := ORD1.out; omega))
  have D_6 := Lib.hid (D_9.out.ex ee (by have o_ := ORD1.out; omega))
  have B_6 := Lib.hid (BB.out)
  clear ee B_9 R_9 HO2 X_9 S_9 D_9 BB
  generalize (wb.setCell ⟨f, 6, none⟩ (.slice va2 (G.length + 1) vc2)) = w6 at *
  have hk1 := HK1.out
  have Bq0 := (B_6.out).cell 0
  have Bq3 := (B_6.out).cell 3
  simp only [List.getElem?_toArray, List.getElem?_cons_succ, List.getElem?_cons_zero] at Bq0 Bq3
  have Bf3 := (B_6.out).frozen 3
  go_wp2_with fail
  clear Bq0 Bq3 Bf3
  have bb := (B_6.out.set_ 3 (.int .i64 ((k : Int) + 1)))
  simp only [List.setIfInBounds_toArray, List.set_cons_succ, List.set_cons_zero] at bb
  have BB := Lib.hid bb
  clear bb
  have ee : Ex (fun k => k = f) w6 (w6.setCell ⟨f, 3, none⟩ (.int .i64 ((k : Int) + 1))) := ((Ex.refl (fun k => k = f) w6).setCell (q := ⟨f, 3, none⟩) (.inl rfl) (.int .i64 ((k : Int) + 1)))
  have R_7 := Lib.hid (R_6.out.ex ee (by have o_ := ORD1.out; omega))
  have O_7 := Lib.hid (O_6.out.ex ee (fun b_ h_ => by have o_ := ORD1.out; have h_ : b_ = f := h_; omega))
  have X_7 := Lib.hid (X_6.out.ex ee (fun b_ h_ => by have o_ := ORD1.out; have h_ : b_ = f := h_; first | omega | (show _ ∨ _; omega)))
  have S_7 := Lib.hid (S_6.out.ex ee (by have o_ := ORD1.out; omega))
  have D_7 := Lib.hid (D_6.out.ex ee (by have o_ := ORD1.out; omega))
  have B_7 := Lib.hid (BB.out)
  clear ee B_6 R_6 O_6 X_6 S_6 D_6 BB
  first | (refine bodyPost_ret (results_none rfl _ _ _) rfl ?_) | go_end0
  rw [HZZ.out]
  exact ⟨rfl, ⟨_, B_7.out, O_7.out⟩, X_7.out⟩
set_option maxRecDepth 100000 in
set_option maxHeartbeats 4000000 in
theorem RS_1ml (base f hb rl n cl : Nat) (ws : List Int) (l : Nat → Spot) (T N had begun steps : Int) (k : Nat) (vg vw : Value) (w : World) (ho : Blk w f 49 (rcs rl n cl T 1 (k : Int) N had vg (.slice none 0 0) begun 0 steps)) (hs : SpsIn w rl n l) (hr : URow w hb ws)
    (ne : f ≠ hb ∧ hb < base ∧ f < base ∧ rl < base ∧ rl ≠ f) (hz : base ≤ w.heap.size) (hn : 1 ≤ n ∧ n ≤ 64) (hR : allR l n = true) (hst : 0 ≤ steps ∧ steps ≤ 1099511627776) (hkn : k < n) (G : List Int) (ho2 : OwnR w base vg G) (hG : G.length = k) (q : Nat) (hq : (l k).seq = (q : Int)) (hin : q < ws.length) (hl : (k : Int) = (n : Int) - 1) (hkz : ¬ (k : Int) = 0) (hfit : ∀ i, 0 ≤ nth ws i ∧ nth ws i ≤ 18446744073709551615) :
    Calls Try.prog 16 #[.pointer (some ⟨f, 0, none⟩), .slice (some ⟨hb, 0, none⟩) ws.length ws.length] w fun e w' => e = .returned (.tuple #[]) ∧ (∃ v', Blk w' f 49 (rcs rl n cl T 2 0 0 had v' (.slice none 0 0) (steps + 1) 0 (steps + 1)) ∧ OwnR w' base v' (G ++ [nth ws q / 2])) ∧ Ex (fun k => k = f ∨ base ≤ k) w w' := by
  obtain ⟨va, vc, rfl⟩ := OwnR.form ho2
  have O0 := Lib.hid ho2
  have HLEN := Lib.hid (show G.length ≤ 64 by omega)
  clear ho2 hG
  have B0 := Lib.hid (show Blk w f 49 _ from ho)
  have R0 := Lib.hid hr
  have S0 := Lib.hid hs
  have X0 := Lib.hid (Ex.refl (fun k => k = f ∨ base ≤ k) w)
  have ORD := Lib.hid ne
  have SZ := Lib.hid hz
  have HNN := Lib.hid hn
  have HRR := Lib.hid hR
  have KN := Lib.hid hkn
  unfold rcs at B0
  have HQ := Lib.hid hq
  have HIN := Lib.hid hin
  have HL := Lib.hid hl
  have HKZ := Lib.hid hkz
  have HFIT := Lib.hid hfit
  have HST := Lib.hid (show wrap64 (steps + 1) = steps + 1 from wrap64_in _ (by omega))
  have HN1 := Lib.hid (show wrap64 ((n : Int) - 1) = (n : Int) - 1 from wrap64_in _ (by omega))
  have HK1 := Lib.hid (show wrap64 ((k : Int) + 1) = (k : Int) + 1 from wrap64_in _ (by omega))
  have i0 : (0 : Int) ≤ (k : Int) := by omega
  have i1 : (k : Int) < (n : Int) := by omega
  clear ho hr hs ne hz hn hR hst hkn hq hin hl hkz hfit
  have Bq0 := (B0.out).cell 0
  have Bq9 := (B0.out).cell 9
  simp only [List.getElem?_toArray, List.getElem?_cons_succ, List.getElem?_cons_zero] at Bq0 Bq9
  go_enter Try.func16, Try.ntmps16
  go_upto_region 1 with fail
  clear Bq0 Bq9
  have hne : Nonempty (Held (Below w.heap.size w)) := ⟨⟨w, Below.refl _ _⟩⟩
  have p0 : ∀ y : Held (Below w.heap.size w), y.w.cell? ⟨f, 0, none⟩ = some (.slice (some ⟨rl, 0, none⟩) n cl) := fun y => (B0.out.bl y.ok).cell 0
  have p3 : ∀ y : Held (Below w.heap.size w), y.w.cell? ⟨f, 3, none⟩ = some (.int .i64 (k : Int)) := fun y => (B0.out.bl y.ok).cell 3
  have s0 : ∀ y : Held (Below w.heap.size w), y.w.cell? ⟨rl, k * 5, none⟩ = some (.int .i64 (l k).owners) := fun y => (S0.out.bl y.ok).cells k KN.out 0 (by decide)
  have s1 : ∀ y : Held (Below w.heap.size w), y.w.cell? ⟨rl, k * 5 + 1, none⟩ = some (.int .i64 (l k).seq) := fun y => (S0.out.bl y.ok).cells k KN.out 1 (by decide)
  have s2 : ∀ y : Held (Below w.heap.size w), y.w.cell? ⟨rl, k * 5 + 2, none⟩ = some (.int .i64 (l k).first) := fun y => (S0.out.bl y.ok).cells k KN.out 2 (by decide)
  have s3 : ∀ y : Held (Below w.heap.size w), y.w.cell? ⟨rl, k * 5 + 3, none⟩ = some (.int .i64 (l k).words) := fun y => (S0.out.bl y.ok).cells k KN.out 3 (by decide)
  have s4 : ∀ y : Held (Below w.heap.size w), y.w.cell? ⟨rl, k * 5 + 4, none⟩ = some (.int .i64 (l k).depth) := fun y => (S0.out.bl y.ok).cells k KN.out 4 (by decide)
  refine drawn_bars (S := (Below w.heap.size w)) [([0, 1, 2, 3, 4, 5, 6, 7, 8, 9], 10), ([], 11)] [] (by kernel_rfl) (by kernel_rfl) (by kernel_rfl) rfl (Below.refl _ _).drew ?_
  refine Phased.go ?_
  simp only [pick, List.map_cons, List.map_nil, List.getElem?_cons_zero, List.getElem?_cons_succ, Option.getD_some]
  repeat (go_big_quiet_step (fail))
  refine wpQuiet_nil ?_
  have hbd : Below w.heap.size w w.drew := (Below.refl _ _).drew
  go_wp2_with fail
  refine behind_normal ⟨(Below w.heap.size w), fun W h => h, hbd.alloc (Nat.le_refl _) _, ?_⟩
  refine Phased.go ?_
  simp only [pick, List.map_cons, List.map_nil, List.getElem?_cons_zero, List.getElem?_cons_succ, Option.getD_some]
  repeat (go_big_quiet_step (fail))
  refine wpQuiet_nil ?_
  go_wp2_with fail
  have hn9 : Blk ((w.alloc (.cells #[.int .i64 (l k).owners, .int .i64 (l k).seq, .int .i64 (l k).first, .int .i64 (l k).words, .int .i64 (l k).depth] 95)).drew) w.heap.size 95 #[.int .i64 (l k).owners, .int .i64 (l k).seq, .int .i64 (l k).first, .int .i64 (l k).words, .int .i64 (l k).depth] := Blk.new w _ _
  obtain ⟨sb, hsb⟩ : ∃ sb, w.heap.size = sb := ⟨_, rfl⟩
  have hsb0 : base ≤ sb := hsb ▸ SZ.out
  have HOWN := Lib.hid (fun b h => show b < sb from hsb ▸ (World.ownsRow.lt O0.out b h).2)
  have hb9 := hbd.alloc (Nat.le_refl _) (.cells #[.int .i64 (l k).owners, .int .i64 (l k).seq, .int .i64 (l k).first, .int .i64 (l k).words, .int .i64 (l k).depth] 95)
  refine behind_normal ⟨(Below w.heap.size w), fun W h => h, hb9, ?_⟩
  refine Phased.end_ ?_
  have hne5 : Nonempty (Held (fun W => W = ((w.alloc (.cells #[.int .i64 (l k).owners, .int .i64 (l k).seq, .int .i64 (l k).first, .int .i64 (l k).words, .int .i64 (l k).depth] 95)).drew))) := ⟨⟨_, rfl⟩⟩
  simp only [pick, List.map_cons, List.map_nil, List.getElem?_cons_zero, List.getElem?_cons_succ, Option.getD_some]
  repeat (go_big_quiet_step (fail))
  refine wpQuiet_nil ?_
  simp only [hsb] at hn9 ⊢
  have ORD1 := Lib.hid (show f ≠ hb ∧ hb < base ∧ f < base ∧ rl < base ∧ rl ≠ f ∧ base ≤ sb from by have o_ := ORD.out; omega)
  clear hb9 hne5 hbd hne p0 p3 s0 s1 s2 s3 s4
  have ee : Ex (fun _ => False) w ((w.alloc (.cells #[.int .i64 (l k).owners, .int .i64 (l k).seq, .int .i64 (l k).first, .int .i64 (l k).words, .int .i64 (l k).depth] 95)).drew) := ((Ex.refl _ w).alloc _).drew
  have B_2 := Lib.hid (B0.out.ex ee (fun h => h))
  have R_2 := Lib.hid (R0.out.ex ee (fun h => h))
  have S_2 := Lib.hid (S0.out.ex ee (fun h => h))
  have X_2 := Lib.hid (X0.out.ex ee (fun b_ h_ => h_.elim))
  have O_2 := Lib.hid (O0.out.ex ee (fun b_ h_ => h_.elim))
  have D_2 := Lib.hid (hn9)
  clear ee B0 R0 S0 X0 O0 hn9 hsb0
  generalize ((w.alloc (.cells #[.int .i64 (l k).owners, .int .i64 (l k).seq, .int .i64 (l k).first, .int .i64 (l k).words, .int .i64 (l k).depth] 95)).drew) = w1 at *
  have d1 : w1.cell? ⟨sb, 1, none⟩ = some (.int .i64 (q : Int)) := by rw [← HQ.out]; exact D_2.out.cell 1
  have kq0 : (0 : Int) ≤ (q : Int) := by omega
  have kq1 : (q : Int) < (ws.length : Int) := by have := HIN.out; omega
  have k1 : decide ((q : Int) < 0) = false := decide_eq_false (by omega)
  have k2 : decide ((q : Int) ≥ (ws.length : Int)) = false := decide_eq_false (by omega)
  have Bq0 := (B_2.out).cell 0
  have Bq2 := (B_2.out).cell 2
  have Bq10 := (B_2.out).cell 10
  simp only [List.getElem?_toArray, List.getElem?_cons_succ, List.getElem?_cons_zero] at Bq0 Bq2 Bq10
  have Bf10 := (B_2.out).frozen 10
  have hst := HST.out
  go_upto_region 8 with fail
  clear d1 Bq0 Bq2 Bq10 Bf10
  have bb := (B_2.out.set_ 10 (.int .i64 (steps + 1)))
  simp only [List.setIfInBounds_toArray, List.set_cons_succ, List.set_cons_zero] at bb
  have BB := Lib.hid bb
  clear bb
  have ee : Ex (fun k => k = f) w1 (w1.setCell ⟨f, 10, none⟩ (.int .i64 (steps + 1))) := ((Ex.refl (fun k => k = f) w1).setCell (q := ⟨f, 10, none⟩) (.inl rfl) (.int .i64 (steps + 1)))
  have R_3 := Lib.hid (R_2.out.ex ee (by have o_ := ORD1.out; omega))
  have S_3 := Lib.hid (S_2.out.ex ee (by have o_ := ORD1.out; omega))
  have X_3 := Lib.hid (X_2.out.ex ee (fun b_ h_ => by have o_ := ORD1.out; have h_ : b_ = f := h_; first | omega | (show _ ∨ _; omega)))
  have O_3 := Lib.hid (O_2.out.ex ee (fun b_ h_ => by have o_ := ORD1.out; have h_ : b_ = f := h_; omega))
  have D_3 := Lib.hid (D_2.out.ex ee (by have o_ := ORD1.out; omega))
  have B_3 := Lib.hid (BB.out)
  clear ee B_2 R_2 S_2 X_2 O_2 D_2 BB
  generalize (w1.setCell ⟨f, 10, none⟩ (.int .i64 (steps + 1))) = w3 at *
  have hn1 := HN1.out
  have kl : ((k : Int) == (n : Int) - 1) = true := beq_iff_eq.2 HL.out
  have hne : Nonempty (Held (fun W => W = w3.drew)) := ⟨⟨_, rfl⟩⟩
  have p0 : ∀ y : Held (fun W => W = w3.drew), y.w.cell? ⟨f, 0, none⟩ = some (.slice (some ⟨rl, 0, none⟩) n cl) := fun y => by rw [y.ok]; exact B_3.out.cell 0
  have p3 : ∀ y : Held (fun W => W = w3.drew), y.w.cell? ⟨f, 3, none⟩ = some (.int .i64 (k : Int)) := fun y => by rw [y.ok]; exact B_3.out.cell 3
  refine drawn_bars (S := fun _ => True) [] [0, 1, 2, 3, 4, 5, 6, 7, 8, 9, 10, 11] (by kernel_rfl) (by kernel_rfl) (by kernel_rfl) rfl trivial ?_
  refine Phased.end_ ?_
  simp only [pick, List.map_cons, List.map_nil, List.getElem?_cons_zero, List.getElem?_cons_succ, Option.getD_some]
  repeat (go_big_quiet_step (fail))
  refine wpQuiet_nil ?_
  clear hne p0 p3
  have ee : Ex (fun _ => False) w3 w3.drew := (Ex.refl _ w3).drew
  have B_4 := Lib.hid (B_3.out.ex ee (fun h => h))
  have R_4 := Lib.hid (R_3.out.ex ee (fun h => h))
  have S_4 := Lib.hid (S_3.out.ex ee (fun h => h))
  have X_4 := Lib.hid (X_3.out.ex ee (fun b_ h_ => h_.elim))
  have O_4 := Lib.hid (O_3.out.ex ee (fun b_ h_ => h_.elim))
  have D_4 := Lib.hid (D_3.out.ex ee (fun h => h))
  clear ee B_3 R_3 S_3 X_3 O_3 D_3
  generalize w3.drew = w4 at *
  have kz : ((k : Int) == 0) = false := beq_eq_false_iff_ne.2 HKZ.out
  have Bq0 := (B_4.out).cell 0
  have Bq2 := (B_4.out).cell 2
  have Bq3 := (B_4.out).cell 3
  simp only [List.getElem?_toArray, List.getElem?_cons_succ, List.getElem?_cons_zero] at Bq0 Bq2 Bq3
  go_upto_region 14 with fail
  have HRG := Lib.hid (HFIT.out q)
  have HZ2 := Lib.hid (show IntKind.u64.wrap ((nth ws q).tdiv 2) = nth ws q / 2 by rw [Int.tdiv_eq_ediv_of_nonneg HRG.out.1]; exact u64_wrap_in (by have := HRG.out; omega))
  clear Bq0 Bq2 Bq3
  have hne : Nonempty (Held (Ex (fun k => base ≤ k) w4)) := ⟨⟨w4, Ex.refl _ _⟩⟩
  have p6 : ∀ y : Held (Ex (fun k => base ≤ k) w4), y.w.cell? ⟨f, 6, none⟩ = some (.slice va G.length vc) := fun y => (B_4.out.ex y.ok (by have := ORD.out; omega)).cell 6
  have pw : ∀ y : Held (Ex (fun k => base ≤ k) w4), y.w.cell? ⟨hb, q, none⟩ = some (.int .u64 (nth ws q)) := fun y => (R_4.out.ex y.ok (by have := ORD.out; omega)).word HIN.out
  obtain ⟨i0_, hi0, hz0, hz1, hz2⟩ := info_parts wordU_info
  refine drawn_tail (S := (Ex (fun k => base ≤ k) w4)) [14] [([0, 1, 2, 3, 4, 5, 6, 7, 8, 9], 10), ([], 11), ([], 12), ([], 13), ([], 14)] (by kernel_rfl) (by kernel_rfl) (by kernel_rfl) rfl (Ex.refl _ _).drew ?_
  refine PhasedT.go ?_
  generalize hzz : nth ws q = z at *
  have HZZ := Lib.hid hzz
  clear hzz
  have kz2 := HZ2.out
  simp only [pick, List.map_cons, List.map_nil, List.getElem?_cons_zero, List.getElem?_cons_succ, Option.getD_some]
  repeat (go_big_quiet_step (fail))
  refine wpQuiet_nil ?_
  clear hne p6 pw
  have ee : Ex (fun _ => False) w4 w4.drew := (Ex.refl _ w4).drew
  have B_5 := Lib.hid (B_4.out.ex ee (fun h => h))
  have R_5 := Lib.hid (R_4.out.ex ee (fun h => h))
  have S_5 := Lib.hid (S_4.out.ex ee (fun h => h))
  have X_5 := Lib.hid (X_4.out.ex ee (fun b_ h_ => h_.elim))
  have O_5 := Lib.hid (O_4.out.ex ee (fun b_ h_ => h_.elim))
  have D_5 := Lib.hid (D_4.out.ex ee (fun h => h))
  clear ee B_4 R_4 S_4 X_4 O_4 D_4
  have EE0 := Lib.hid ((Ex.refl (fun k => base ≤ k) w4).drew)
  generalize w4.drew = wa at *
  have SZa := Lib.hid (Nat.le_trans SZ.out X_5.out.size)
  go_wp2_with fail
  refine behind_normal ⟨(Ex (fun k => base ≤ k) w4), fun W h => h, by first | exact EE0.out.alloc _ | exact fun _ => EE0.out.alloc _, ?_⟩
  refine PhasedT.go ?_
  simp only [pick, List.map_cons, List.map_nil, List.getElem?_cons_zero, List.getElem?_cons_succ, Option.getD_some]
  repeat (go_big_quiet_step (fail))
  refine wpQuiet_nil ?_
  go_wp2_with (at_builtin; refine wpList_append_own _ rfl _ _ 41 rfl base 42 i0_ (.int .u64 0) 1 8 Try.underlying41 hi0 hz0 hz1 hz2 rfl (by decide) _ _ _ rfl (World.ownsRow.alloc O_5.out _) ⟨wa.heap.size, 0, none⟩ 1 1 [.int .u64 (z / 2)] rfl rfl ?c1 ?c2 ?c3 ?c4 ?c5 ?_)
  case c1 =>
    have hbn := Blk.new wa 42 #[.int .u64 (z / 2)]
    intro j u hj
    match j, hj with
    | 0, hj => simp at hj; subst hj; exact hbn.cell 0
  case c2 =>
    intro u hu
    simp only [List.mem_cons, List.not_mem_nil, or_false] at hu
    subst hu; rfl
  case c3 => have h1 := HLEN.out; have h2 := SZa.out; first | omega | (unfold maxLen; omega) | (simp; omega)
  case c4 => have h1 := HLEN.out; have h2 := SZa.out; first | omega | (unfold maxLen; omega) | (simp; omega)
  case c5 => have h1 := HLEN.out; have h2 := SZa.out; first | omega | (unfold maxLen; omega) | (simp; omega)
  intro v' wb hown' hgrow _
  have hbel := ((Below.refl base wa).alloc SZa.out (.cells #[.int .u64 (z / 2)] 42)).grown hgrow (by have := SZa.out; simp; omega) (fun k hk => (World.ownsRow.lt O_5.out k hk).1)
  have hgr2 := ((Ex.refl _ wa).alloc (.cells #[.int .u64 (z / 2)] 42)).trans (Ex.of_grown hgrow)
  have hown2 : OwnR wb base v' (G ++ [z / 2]) := by unfold OwnR; simpa using hown'
  obtain ⟨va2, vc2, rfl⟩ := hown2.form
  have hlw : (G ++ [z / 2]).length = G.length + 1 := by simp
  have HO2 := Lib.hid (show OwnR wb base (.slice va2 (G.length + 1) vc2) (G ++ [z / 2]) by have := hown2; rw [hlw] at this; exact this)
  have he : Ex (fun k => base ≤ k) wa wb := ⟨hbel.os, hbel.tape, hbel.output, hbel.size, fun k hk hn => hbel.block k (by omega)⟩
  have B_9 := Lib.hid (B_5.out.ex he (by have := ORD.out; omega))
  have R_9 := Lib.hid (R_5.out.ex he (by have := ORD.out; omega))
  have S_9 := Lib.hid (S_5.out.ex he (by have := ORD.out; omega))
  have D_9 := Lib.hid (D_5.out.ex hgr2 (fun h => Nat.lt_irrefl _ (HOWN.out _ h)))
  have X_9 := Lib.hid (X_5.out.ex he (fun k hk => .inr hk))
  have EE1 := Lib.hid (EE0.out.trans he)
  clear hown' hgrow hbel hown2 he hgr2 B_5 R_5 O_5 X_5 S_5 D_5  EE0
  refine behind_normal ⟨(Ex (fun k => base ≤ k) w4), fun W h => h, by first | exact EE1.out | exact fun _ => EE1.out, ?_⟩
  refine PhasedT.go ?_
  simp only [pick, List.map_cons, List.map_nil, List.getElem?_cons_zero, List.getElem?_cons_succ, Option.getD_some]
  repeat (go_big_quiet_step (fail))
  refine wpQuiet_nil ?_
  have Bq0 := B_9.out.cell 0
  simp only [List.getElem?_toArray, List.getElem?_cons_succ, List.getElem?_cons_zero] at Bq0
  go_wp2_with fail
  refine behind_normal ⟨(Ex (fun k => base ≤ k) w4), fun W h => h, by first | exact EE1.out | exact fun _ => EE1.out, ?_⟩
  refine PhasedT.go ?_
  simp only [pick, List.map_cons, List.map_nil, List.getElem?_cons_zero, List.getElem?_cons_succ, Option.getD_some]
  repeat (go_big_quiet_step (fail))
  refine wpQuiet_nil ?_
  clear Bq0
  go_wp2_with fail
  have Bq0 := (B_9.out).cell 0
  have Bq6 := (B_9.out).cell 6
  simp only [List.getElem?_toArray, List.getElem?_cons_succ, List.getElem?_cons_zero] at Bq0 Bq6
  have Bf6 := (B_9.out).frozen 6
  refine behind_normal ⟨(Ex (fun k => base ≤ k) w4), fun W h => h, by first | exact EE1.out | exact fun _ => EE1.out, ?_⟩
  refine PhasedT.go ?_
  simp only [pick, List.map_cons, List.map_nil, List.getElem?_cons_zero, List.getElem?_cons_succ, Option.getD_some]
  repeat (go_big_quiet_step (fail))
  refine wpQuiet_nil ?_
  go_wp2_with fail
  refine behind_normal ⟨(Ex (fun k => base ≤ k) w4), fun W h => h, by first | exact fun h => absurd h (by decide) | trivial | simp, ?_⟩
  refine PhasedT.end_ ?_
  clear Bq0 Bq6 Bf6
  have bb := (B_9.out.set_ 6 (.slice va2 (G.length + 1) vc2))
  simp only [List.setIfInBounds_toArray, List.set_cons_succ, List.set_cons_zero] at bb
  have BB := Lib.hid bb
  clear bb
  have ee : Ex (fun k => k = f) wb (wb.setCell ⟨f, 6, none⟩ (.slice va2 (G.length + 1) vc2)) := ((Ex.refl (fun k => k = f) wb).setCell (q := ⟨f, 6, none⟩) (.inl rfl) (.slice va2 (G.length + 1) vc2))
  have R_6 := Lib.hid (R_9.out.ex ee (by have o_ := ORD1.out; omega))
  have O_6 := Lib.hid (HO2.out.ex ee (fun b_ h_ => by have o_ := ORD1.out; have h_ : b_ = f := h_; omega))
  have X_6 := Lib.hid (X_9.out.ex ee (fun b_ h_ => by have o_ := ORD1.out; have h_ : b_ = f := h_; first | omega | (show _ ∨ _; omega)))
  have S_6 := Lib.hid (S_9.out.ex ee (by have o_ := ORD1.out; omega))
  have D_6 := Lib.hid (D_9.out.ex ee (by have o_ := ORD1.out; omega))
  have B_6 := Lib.hid (BB.out)
  clear ee B_9 R_9 HO2 X_9 S_9 D_9 BB
  generalize (wb.setCell ⟨f, 6, none⟩ (.slice va2 (G.length + 1) vc2)) = w6 at *
  have hk1 := HK1.out
  have Bq0 := (B_6.out).cell 0
  have Bq2 := (B_6.out).cell 2
  have Bq3 := (B_6.out).cell 3
  have Bq4 := (B_6.out).cell 4
  have Bq8 := (B_6.out).cell 8
  have Bq10 := (B_6.out).cell 10
  simp only [List.getElem?_toArray, List.getElem?_cons_succ, List.getElem?_cons_zero] at Bq0 Bq2 Bq3 Bq4 Bq8 Bq10
  have Bf2 := (B_6.out).frozen 2
  have Bf3 := (B_6.out).frozen 3
  have Bf4 := (B_6.out).frozen 4
  have Bf8 := (B_6.out).frozen 8
  go_wp2_with fail
  clear Bq0 Bq2 Bq3 Bq4 Bq8 Bq10 Bf2 Bf3 Bf4 Bf8
  have bb := (((((B_6.out.set_ 3 (.int .i64 ((k : Int) + 1))).set_ 8 (.int .i64 (steps + 1))).set_ 2 (.int .i64 2)).set_ 3 (.int .i64 0)).set_ 4 (.int .i64 0))
  simp only [List.setIfInBounds_toArray, List.set_cons_succ, List.set_cons_zero] at bb
  have BB := Lib.hid bb
  clear bb
  have ee : Ex (fun k => k = f) w6 (((((w6.setCell ⟨f, 3, none⟩ (.int .i64 ((k : Int) + 1))).setCell ⟨f, 8, none⟩ (.int .i64 (steps + 1))).setCell ⟨f, 2, none⟩ (.int .i64 2)).setCell ⟨f, 3, none⟩ (.int .i64 0)).setCell ⟨f, 4, none⟩ (.int .i64 0)) := ((((((Ex.refl (fun k => k = f) w6).setCell (q := ⟨f, 3, none⟩) (.inl rfl) (.int .i64 ((k : Int) + 1))).setCell (q := ⟨f, 8, none⟩) (.inl rfl) (.int .i64 (steps + 1))).setCell (q := ⟨f, 2, none⟩) (.inl rfl) (.int .i64 2)).setCell (q := ⟨f, 3, none⟩) (.inl rfl) (.int .i64 0)).setCell (q := ⟨f, 4, none⟩) (.inl rfl) (.int .i64 0))
  have R_7 := Lib.hid (R_6.out.ex ee (by have o_ := ORD1.out; omega))
  have O_7 := Lib.hid (O_6.out.ex ee (fun b_ h_ => by have o_ := ORD1.out; have h_ : b_ = f := h_; omega))
  have X_7 := Lib.hid (X_6.out.ex ee (fun b_ h_ => by have o_ := ORD1.out; have h_ : b_ = f := h_; first | omega | (show _ ∨ _; omega)))
  have S_7 := Lib.hid (S_6.out.ex ee (by have o_ := ORD1.out; omega))
  have D_7 := Lib.hid (D_6.out.ex ee (by have o_ := ORD1.out; omega))
  have B_7 := Lib.hid (BB.out)
  clear ee B_6 R_6 O_6 X_6 S_6 D_6 BB
  first | (refine bodyPost_ret (results_none rfl _ _ _) rfl ?_) | go_end0
  rw [HZZ.out]
  exact ⟨rfl, ⟨_, B_7.out, O_7.out⟩, X_7.out⟩
end Go.Proofs.Ytjdalllfnlpmnaa.Bank
