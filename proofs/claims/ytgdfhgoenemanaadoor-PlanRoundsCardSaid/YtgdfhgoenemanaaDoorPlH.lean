/-
  Law 6: plan.Of, for every config. Conditions stand at each. By an AI agent; by mkplh.py.
-/
import Derived.Test.YtgdfhgoenemanaaDoorPlG
namespace Go.Proofs.YtgdfhgoenemanaaDoor.Plan
set_option linter.unusedVariables false
set_option linter.unusedSimpArgs false
open Go Go.RowKit Go.Proofs.YtgdfhgoenemanaaDoor.Base
/-- the plan's spots in memory -/
def SpAt (w : World) (b : Nat) (c : Cf) : Prop := b < w.heap.size ∧ ∀ i, i < c.n → ∀ j, j < 5 → w.cell? ⟨b, i * 5 + j, none⟩ = (spL (spF c i))[j]?
theorem SpAt.bl {w w' : World} {b : Nat} {c : Cf} (h : SpAt w b c) (p : Below w.heap.size w w') : SpAt w' b c := ⟨Nat.lt_of_lt_of_le h.1 p.size, fun i hi j hj => (p.cell (p := ⟨b, i * 5 + j, none⟩) h.1).trans (h.2 i hi j hj)⟩
theorem SpAt.ex {T : Nat → Prop} {w w' : World} {b : Nat} {c : Cf} (h : SpAt w b c) (p : Ex T w w') (hT : ¬ T b) : SpAt w' b c := ⟨Nat.lt_of_lt_of_le h.1 p.size, fun i hi j hj => by
  have h9 := h.2 i hi j hj
  have : ∃ u, (spL (spF c i))[j]? = some u := by
    rcases j with _ | _ | _ | _ | _ | j <;> first | exact ⟨_, rfl⟩ | omega
  obtain ⟨u, hu⟩ := this
  rw [hu] at h9 ⊢
  exact p.cell h9 hT⟩
theorem SpAt.five {w : World} {b : Nat} {c : Cf} (h : SpAt w b c) {i : Nat} (hi : i < c.n) : w.cell? ⟨b, i * 5, none⟩ = some (.int .i64 (spF c i).owners) ∧ w.cell? ⟨b, i * 5 + 1, none⟩ = some (.int .i64 (spF c i).seq) ∧ w.cell? ⟨b, i * 5 + 2, none⟩ = some (.int .i64 (spF c i).first) ∧ w.cell? ⟨b, i * 5 + 3, none⟩ = some (.int .i64 (spF c i).words) ∧ w.cell? ⟨b, i * 5 + 4, none⟩ = some (.int .i64 (spF c i).depth) :=
  ⟨h.2 i hi 0 (by omega), h.2 i hi 1 (by omega), h.2 i hi 2 (by omega), h.2 i hi 3 (by omega), h.2 i hi 4 (by omega)⟩
theorem spot_info : (Tryd.prog.info? 43).map (fun i => (i.zero, i.size, i.bytes)) = some (some (.agg #[.int .i64 0, .int .i64 0, .int .i64 0, .int .i64 0, .int .i64 0]), 5, 40) := by kernel_rfl
theorem ownsRow_ex {T : Nat → Prop} {w w' : World} {base e size n : Nat} {v : Value} {xs : List Value} (h : w.ownsRow base e size v n xs) (p : Ex T w w') (hT : ∀ k, v.ownBlock = some k → ¬ T k) : w'.ownsRow base e size v n xs := by
  have hlt := h.lt
  obtain ⟨h1, h2⟩ := h
  refine ⟨h1, ?_⟩
  rcases h2 with h2 | ⟨g, cap, cur, e1, h3, h4, h5⟩
  · exact .inl h2
  · refine .inr ⟨g, cap, cur, e1, h3, ?_, h5⟩
    subst e1
    exact (p.block g (hlt g rfl).2 (hT g rfl)).trans h4
theorem own_form {w : World} {base : Nat} {e : TypeId} {size : Nat} {v : Value} {n : Nat} {xs : List Value} (h : w.ownsRow base e size v n xs) : ∃ A c, v = .slice A n c := by
  rcases h.2 with ⟨rfl, rfl⟩ | ⟨g, cap, cur, rfl, _⟩
  · exact ⟨none, 0, rfl⟩
  · exact ⟨_, _, rfl⟩
theorem sp_of_own {w : World} {base : Nat} {v : Value} {c : Cf} (h : w.ownsRow base 43 5 v c.n (spsL c c.n)) (hn : 1 ≤ c.n) : ∃ b cp, v = .slice (some ⟨b, 0, none⟩) c.n cp ∧ base ≤ b ∧ SpAt w b c := by
  rcases h.2 with ⟨_, h0⟩ | ⟨g, cap, cur, e, hb, hh, _⟩
  · omega
  · subst e
    refine ⟨g, cap, rfl, hb, (h.lt g rfl).2, fun i hi j hj => ?_⟩
    have h9 := spsL_at c c.n i hi j hj
    have : ∃ u, (spL (spF c i))[j]? = some u := by
      rcases j with _ | _ | _ | _ | _ | j <;> first | exact ⟨_, rfl⟩ | omega
    obtain ⟨u, hu⟩ := this
    rw [hu] at h9 ⊢
    have := h.cells (g := g) rfl (i * 5 + j) u h9
    have e2 : (⟨g, 0, none⟩ : Addr).add (i * 5 + j) = ⟨g, i * 5 + j, none⟩ := by unfold Addr.add; split <;> simp_all
    rwa [e2] at this
/-- topics in memory, at a place -/
def TcC (w : World) (tb tof n : Nat) (l : Nat → Tc) : Prop := ∀ i : Nat, i < n →
    w.cell? ⟨tb, tof + i * 3, none⟩ = some (.string (l i).nm) ∧ w.cell? ⟨tb, tof + i * 3 + 1, none⟩ = some (.int .i64 (l i).words) ∧ w.cell? ⟨tb, tof + i * 3 + 2, none⟩ = some (.int .i64 (l i).depth)
theorem TcC.ex {T : Nat → Prop} {w w' : World} {tb tof n : Nat} {l : Nat → Tc} (h : TcC w tb tof n l) (p : Ex T w w') (hT : ¬ T tb) : TcC w' tb tof n l := fun i hi => by
  obtain ⟨c0, c1, c2⟩ := h i hi
  exact ⟨p.cell c0 hT, p.cell c1 hT, p.cell c2 hT⟩
theorem set5_blk {w : World} {b : Nat} {t : TypeId} {y0 y1 y2 y3 y4 x0 x1 x2 x3 x4 : Value} (h : Blk w b t #[y0, y1, y2, y3, y4]) :
    Blk (((((w.setCell ⟨b, 0, none⟩ x0).setCell ⟨b, 1, none⟩ x1).setCell ⟨b, 2, none⟩ x2).setCell ⟨b, 3, none⟩ x3).setCell ⟨b, 4, none⟩ x4) b t #[x0, x1, x2, x3, x4] := ((((h.set_ 0 x0).set_ 1 x1).set_ 2 x2).set_ 3 x3).set_ 4 x4
theorem set5_ex {T : Nat → Prop} {a w : World} {b : Nat} {x0 x1 x2 x3 x4 : Value} (h : Ex T a w) (hb : T b ∨ a.heap.size ≤ b) :
    Ex T a (((((w.setCell ⟨b, 0, none⟩ x0).setCell ⟨b, 1, none⟩ x1).setCell ⟨b, 2, none⟩ x2).setCell ⟨b, 3, none⟩ x3).setCell ⟨b, 4, none⟩ x4) :=
  ((((h.setCell (q := ⟨b, 0, none⟩) hb x0).setCell (q := ⟨b, 1, none⟩) hb x1).setCell (q := ⟨b, 2, none⟩) hb x2).setCell (q := ⟨b, 3, none⟩) hb x3).setCell (q := ⟨b, 4, none⟩) hb x4
set_option maxRecDepth 100000 in
set_option maxHeartbeats 8000000 in
theorem Of_any (c : Cf) (A : Option Addr) (k : Nat) (w : World) (ht : Tcs w A c.n c.l) (hn : c.n ≤ 1000) (hs : ∀ q, (c.l q).nm.size ≤ maxLen) :
    Calls Tryd.prog 11 #[cfV c A k] w fun e w' => Below w.heap.size w w' ∧
      (((faultF c).2 ≠ 0 ∧ e = .returned (.tuple #[.agg #[.int .i64 0, .int .i64 0, .int .i64 0, .slice none 0 0, .int .i64 0], .int .i64 (faultF c).2])) ∨
       ((faultF c).2 = 0 ∧ ∃ b cp, e = .returned (.tuple #[.agg #[.int .i64 0, .int .i64 1, .int .i64 c.log, .slice (some ⟨b, 0, none⟩) c.n cp, .int .i64 (offP c c.n)], .int .i64 0]) ∧ w.heap.size ≤ b ∧ SpAt w' b c)) := by
  have HT := Lib.hid ht
  have HN := Lib.hid hn
  have HS := Lib.hid hs
  clear ht hn hs
  obtain ⟨fa, hfa⟩ : ∃ z, (faultF c).1 = z := ⟨_, rfl⟩
  obtain ⟨fb, hfb⟩ : ∃ z, (faultF c).2 = z := ⟨_, rfl⟩
  rw [hfb]
  have HFA := Lib.hid hfa
  have HFB := Lib.hid hfb
  clear hfa hfb
  have HC := Lib.hid (fun W hW => Check_any c A k W hW HN.out HS.out)
  unfold cfV at HC ⊢
  rw [HFA.out, HFB.out] at HC
  go_enter Tryd.func11, Tryd.ntmps11
  go_upto_region 1 with fail
  obtain ⟨B, hB⟩ : ∃ B, w.heap.size = B := ⟨_, rfl⟩
  have z1 : (w.alloc (.cells #[.int .i64 c.tasks, .slice A c.n k, .int .i64 c.tries, .int .i64 c.log] 24)).heap.size = B + 1 := by simp [hB]
  have hcb : Blk ((w.alloc (.cells #[.int .i64 c.tasks, .slice A c.n k, .int .i64 c.tries, .int .i64 c.log] 24)).alloc (.cells #[.int .i64 0, .int .i64 0, .int .i64 0, .slice none 0 0, .int .i64 0] 29)) B 24 #[.int .i64 c.tasks, .slice A c.n k, .int .i64 c.tries, .int .i64 c.log] := hB ▸ (Blk.new w 24 #[.int .i64 c.tasks, .slice A c.n k, .int .i64 c.tries, .int .i64 c.log]).alloc _
  have hpb : Blk ((w.alloc (.cells #[.int .i64 c.tasks, .slice A c.n k, .int .i64 c.tries, .int .i64 c.log] 24)).alloc (.cells #[.int .i64 0, .int .i64 0, .int .i64 0, .slice none 0 0, .int .i64 0] 29)) (B + 1) 29 #[.int .i64 0, .int .i64 0, .int .i64 0, .slice none 0 0, .int .i64 0] := z1 ▸ Blk.new (w.alloc (.cells #[.int .i64 c.tasks, .slice A c.n k, .int .i64 c.tries, .int .i64 c.log] 24)) 29 #[.int .i64 0, .int .i64 0, .int .i64 0, .slice none 0 0, .int .i64 0]
  have hl : Below w.heap.size w ((w.alloc (.cells #[.int .i64 c.tasks, .slice A c.n k, .int .i64 c.tries, .int .i64 c.log] 24)).alloc (.cells #[.int .i64 0, .int .i64 0, .int .i64 0, .slice none 0 0, .int .i64 0] 29)) := ((Below.refl w.heap.size w).alloc (Nat.le_refl _) _).alloc (by rw [z1, hB]; omega) _
  simp only [hB] at ⊢
  have CB := Lib.hid hcb
  have PB := Lib.hid hpb
  have L0 := Lib.hid hl
  have HB := Lib.hid hB
  clear hcb hpb hl z1
  generalize ((w.alloc (.cells #[.int .i64 c.tasks, .slice A c.n k, .int .i64 c.tries, .int .i64 c.log] 24)).alloc (.cells #[.int .i64 0, .int .i64 0, .int .i64 0, .slice none 0 0, .int .i64 0] 29)) = w0 at *
  have TB := Lib.hid (show TcsB B w0 A c.n c.l by rw [← hB]; exact HT.out.to_b L0.out)
  clear hB
  have g0 := CB.out.cell 0
  have g1 := CB.out.cell 1
  have g2 := CB.out.cell 2
  have g3 := CB.out.cell 3
  simp only [List.getElem?_toArray, List.getElem?_cons_succ, List.getElem?_cons_zero] at g0 g1 g2 g3
  go_wp2_with fail
  refine (HC.out w0 (TB.out.tcs (by have := PB.out.lt; omega))).mono ?_; rintro e w1 ⟨rfl, hl1⟩
  have CB1 := Lib.hid (CB.out.bl hl1)
  have PB1 := Lib.hid (PB.out.bl hl1)
  have TB1 := Lib.hid (TB.out.ex (T := fun _ => False) (Ex.of_below hl1) (fun b hb => hb.elim))
  have L1 := Lib.hid (bl L0.out hl1)
  have Z1 := Lib.hid (show B + 1 < w1.heap.size from PB1.out.lt)
  clear hl1 g0 g1 g2 g3 CB PB TB L0 HC
  by_cases hb0 : fb = 0
  case neg =>
    have kb : (fb == 0) = false := beq_eq_false_iff_ne.2 hb0
    have kbn : (fb != 0) = true := by simp [hb0]
    have HB0 := Lib.hid hb0
    clear hb0
    by_cases ha0 : fa = 0
    · have ka : (fa == 0) = true := by rw [ha0]; rfl
      have kan : (fa != 0) = false := by rw [ha0]; rfl
      clear ha0
      go_upto_region 3 with fail
      have FV := Lib.hid (Blk.new w1 61 #[.int .i64 fa, .int .i64 fb])
      have PB2 := Lib.hid (PB1.out.alloc (.cells #[.int .i64 fa, .int .i64 fb] 61))
      have L2 := Lib.hid (L1.out.alloc L1.out.size (.cells #[.int .i64 fa, .int .i64 fb] 61))
      have NE := Lib.hid (show w1.heap.size ≠ B + 1 by have := Z1.out; omega)
      generalize hw2 : (w1.alloc (.cells #[.int .i64 fa, .int .i64 fb] 61)) = w2 at *
      generalize w1.heap.size = fv at *
      clear hw2 ka kan kb kbn
      have hne : Nonempty (Held (Ex (fun b => b = B + 1) w2)) := ⟨⟨w2, Ex.refl _ _⟩⟩
      have p1 : ∀ y : Held (Ex (fun b => b = B + 1) w2), y.w.cell? ⟨fv, 1, none⟩ = some (.int .i64 fb) := fun y => by rw [(FV.out.ex y.ok (by have := NE.out; omega)).cell]; rfl
      refine drawn_bars (S := Ex (fun b => b = B + 1) w2) [([0, 1, 2], 3)] [4] (by kernel_rfl) (by kernel_rfl) (by kernel_rfl) rfl (Ex.refl _ _).drew ?_
      refine Phased.go ?_
      simp only [pick, List.map_cons, List.map_nil, List.getElem?_cons_zero, List.getElem?_cons_succ, Option.getD_some]
      repeat (go_big_quiet_step (fail))
      refine wpQuiet_nil ?_
      have PB3 := Lib.hid PB2.out.drew
      have h0 := PB2.out.cell 0
      have h1 := PB2.out.cell 1
      have h2 := PB2.out.cell 2
      have h3 := PB2.out.cell 3
      have h4 := PB2.out.cell 4
      have r0 := PB2.out.frozen 0
      have r1 := PB2.out.frozen 1
      have r2 := PB2.out.frozen 2
      have r3 := PB2.out.frozen 3
      have r4 := PB2.out.frozen 4
      simp only [List.getElem?_toArray, List.getElem?_cons_succ, List.getElem?_cons_zero] at h0 h1 h2 h3 h4
      go_wp2_with fail
      have hz := (set5_blk (x0 := .int .i64 0) (x1 := .int .i64 0) (x2 := .int .i64 0) (x3 := .slice none 0 0) (x4 := .int .i64 0) PB2.out).drew
      have HZ := Lib.hid hz
      have HX := Lib.hid ((set5_ex (x0 := .int .i64 0) (x1 := .int .i64 0) (x2 := .int .i64 0) (x3 := .slice none 0 0) (x4 := .int .i64 0) ((Ex.refl (fun b => b = B + 1) w2)) (.inl rfl : (B + 1 = B + 1) ∨ w2.heap.size ≤ B + 1)).drew)
      clear hz h0 h1 h2 h3 h4 r0 r1 r2 r3 r4
      generalize (((((w2.setCell ⟨B + 1, 0, none⟩ (.int .i64 0)).setCell ⟨B + 1, 1, none⟩ (.int .i64 0)).setCell ⟨B + 1, 2, none⟩ (.int .i64 0)).setCell ⟨B + 1, 3, none⟩ (.slice none 0 0)).setCell ⟨B + 1, 4, none⟩ (.int .i64 0)).drew = w4 at *
      refine behind_normal ⟨Ex (fun b => b = B + 1) w2, fun W h => h, HX.out, ?_⟩
      refine Phased.end_ ?_
      have hne5 : Nonempty (Held (fun W => W = w4)) := ⟨⟨_, rfl⟩⟩
      simp only [pick, List.map_cons, List.map_nil, List.getElem?_cons_zero, List.getElem?_cons_succ, Option.getD_some]
      repeat (go_big_quiet_step (fail))
      refine wpQuiet_nil ?_
      clear hne hne5 p1
      go_wp2_with fail
      exact bodyPost_ret (res_cell_tmp (fn := Tryd.f11) rfl _ _ (B + 1) _ _ _ _ rfl HZ.out Tryd.underlying29 rfl (by kernel_rfl)) rfl ⟨Ex.below L2.out HX.out (fun b hb => by have := HB.out; omega), .inl ⟨HB0.out, rfl⟩⟩
    · have ka : (fa == 0) = false := beq_eq_false_iff_ne.2 ha0
      have kan : (fa != 0) = true := by simp [ha0]
      clear ha0
      go_upto_region 3 with fail
      have FV := Lib.hid (Blk.new w1 61 #[.int .i64 fa, .int .i64 fb])
      have PB2 := Lib.hid (PB1.out.alloc (.cells #[.int .i64 fa, .int .i64 fb] 61))
      have L2 := Lib.hid (L1.out.alloc L1.out.size (.cells #[.int .i64 fa, .int .i64 fb] 61))
      have NE := Lib.hid (show w1.heap.size ≠ B + 1 by have := Z1.out; omega)
      generalize hw2 : (w1.alloc (.cells #[.int .i64 fa, .int .i64 fb] 61)) = w2 at *
      generalize w1.heap.size = fv at *
      clear hw2 ka kan kb kbn
      have hne : Nonempty (Held (Ex (fun b => b = B + 1) w2)) := ⟨⟨w2, Ex.refl _ _⟩⟩
      have p1 : ∀ y : Held (Ex (fun b => b = B + 1) w2), y.w.cell? ⟨fv, 1, none⟩ = some (.int .i64 fb) := fun y => by rw [(FV.out.ex y.ok (by have := NE.out; omega)).cell]; rfl
      refine drawn_bars (S := Ex (fun b => b = B + 1) w2) [([0, 1, 2], 3)] [4] (by kernel_rfl) (by kernel_rfl) (by kernel_rfl) rfl (Ex.refl _ _).drew ?_
      refine Phased.go ?_
      simp only [pick, List.map_cons, List.map_nil, List.getElem?_cons_zero, List.getElem?_cons_succ, Option.getD_some]
      repeat (go_big_quiet_step (fail))
      refine wpQuiet_nil ?_
      have PB3 := Lib.hid PB2.out.drew
      have h0 := PB2.out.cell 0
      have h1 := PB2.out.cell 1
      have h2 := PB2.out.cell 2
      have h3 := PB2.out.cell 3
      have h4 := PB2.out.cell 4
      have r0 := PB2.out.frozen 0
      have r1 := PB2.out.frozen 1
      have r2 := PB2.out.frozen 2
      have r3 := PB2.out.frozen 3
      have r4 := PB2.out.frozen 4
      simp only [List.getElem?_toArray, List.getElem?_cons_succ, List.getElem?_cons_zero] at h0 h1 h2 h3 h4
      go_wp2_with fail
      have hz := (set5_blk (x0 := .int .i64 0) (x1 := .int .i64 0) (x2 := .int .i64 0) (x3 := .slice none 0 0) (x4 := .int .i64 0) PB2.out).drew
      have HZ := Lib.hid hz
      have HX := Lib.hid ((set5_ex (x0 := .int .i64 0) (x1 := .int .i64 0) (x2 := .int .i64 0) (x3 := .slice none 0 0) (x4 := .int .i64 0) ((Ex.refl (fun b => b = B + 1) w2)) (.inl rfl : (B + 1 = B + 1) ∨ w2.heap.size ≤ B + 1)).drew)
      clear hz h0 h1 h2 h3 h4 r0 r1 r2 r3 r4
      generalize (((((w2.setCell ⟨B + 1, 0, none⟩ (.int .i64 0)).setCell ⟨B + 1, 1, none⟩ (.int .i64 0)).setCell ⟨B + 1, 2, none⟩ (.int .i64 0)).setCell ⟨B + 1, 3, none⟩ (.slice none 0 0)).setCell ⟨B + 1, 4, none⟩ (.int .i64 0)).drew = w4 at *
      refine behind_normal ⟨Ex (fun b => b = B + 1) w2, fun W h => h, HX.out, ?_⟩
      refine Phased.end_ ?_
      have hne5 : Nonempty (Held (fun W => W = w4)) := ⟨⟨_, rfl⟩⟩
      simp only [pick, List.map_cons, List.map_nil, List.getElem?_cons_zero, List.getElem?_cons_succ, Option.getD_some]
      repeat (go_big_quiet_step (fail))
      refine wpQuiet_nil ?_
      clear hne hne5 p1
      go_wp2_with fail
      exact bodyPost_ret (res_cell_tmp (fn := Tryd.f11) rfl _ _ (B + 1) _ _ _ _ rfl HZ.out Tryd.underlying29 rfl (by kernel_rfl)) rfl ⟨Ex.below L2.out HX.out (fun b hb => by have := HB.out; omega), .inl ⟨HB0.out, rfl⟩⟩
  case pos =>
    subst hb0
    have hok := fault_ok (c := c) HFB.out
    have OK := Lib.hid hok.2
    have hfa := HFA.out
    rw [hok.1] at hfa
    simp only at hfa
    subst hfa
    clear hok
    go_upto_region 6 with fail
    obtain ⟨nb, hnb⟩ : ∃ z, w1.heap.size + 1 = z := ⟨_, rfl⟩
    have z2 : (w1.alloc (.cells #[.int .i64 0, .int .i64 0] 61)).heap.size = nb := by rw [← hnb]; simp
    have hn : Blk ((w1.alloc (.cells #[.int .i64 0, .int .i64 0] 61)).alloc (.cells #[.int .i64 0] 3)) nb 3 #[.int .i64 0] := z2 ▸ Blk.new (w1.alloc (.cells #[.int .i64 0, .int .i64 0] 61)) 3 #[.int .i64 0]
    have hl2 : Below w1.heap.size w1 ((w1.alloc (.cells #[.int .i64 0, .int .i64 0] 61)).alloc (.cells #[.int .i64 0] 3)) := ((Below.refl w1.heap.size w1).alloc (Nat.le_refl _) _).alloc (by simp) _
    have NB := Lib.hid hn
    have CB2 := Lib.hid (CB1.out.bl hl2)
    have PB2 := Lib.hid (PB1.out.bl hl2)
    have TB2 := Lib.hid (TB1.out.ex (T := fun _ => False) (Ex.of_below hl2) (fun b hb => hb.elim))
    have L2 := Lib.hid (bl L1.out hl2)
    have ORD := Lib.hid (show B + 1 < nb ∧ w.heap.size = B from ⟨by have := Z1.out; omega, HB.out⟩)
    simp only [hnb]
    clear hn hl2 z2 CB1 PB1 TB1 L1 Z1 hnb
    generalize ((w1.alloc (.cells #[.int .i64 0, .int .i64 0] 61)).alloc (.cells #[.int .i64 0] 3)) = w5 at *
    have Z5 := Lib.hid NB.out.lt
    go_cut [7] from 20 to 28 (fun s7 wx => ∃ pb, s7 = .pointer (some ⟨pb, 0, none⟩) ∧ w5.heap.size ≤ pb ∧ Blk wx pb 29 #[.int .i64 0, .int .i64 1, .int .i64 c.log, .slice none 0 0, .int .i64 0] ∧ Blk wx nb 3 #[.int .i64 (1 + c.log)] ∧ Ex (fun b => b = nb) w5 wx)
    case first =>
      have g3 : ∀ y : Held (Ex (fun b => b = nb) w5), y.w.cell? ⟨B, 3, none⟩ = some (.int .i64 c.log) := fun y => by rw [(CB2.out.ex y.ok (by have := ORD.out; omega)).cell]; rfl
      have hne : Nonempty (Held (Ex (fun b => b = nb) w5)) := ⟨⟨w5, Ex.refl _ _⟩⟩
      have HL := Lib.hid OK.out.log
      refine drawn_sch (S := Ex (fun b => b = nb) w5) [] (.two [0, 2, 3, 4, 6, 7] 1 (.two [] 5 (.bar [8] 9 (.bar [] 10 (.fin []))) 9 (.bar [] 5 (.bar [8] 10 (.fin [])))) 9 (.bar [] 1 (.bar [] 5 (.bar [8] 10 (.fin []))))) (by kernel_rfl) (by kernel_rfl) (by kernel_rfl) rfl (Ex.refl _ _).drew ?_
      refine PhasedC.two_ ?_
      simp only [pick, List.map_cons, List.map_nil, List.getElem?_cons_zero, List.getElem?_cons_succ, Option.getD_some]
      repeat (go_big_quiet_step (fail))
      refine wpQuiet_nil ?_
      have NB0 := Lib.hid NB.out.drew
      have EX0 := Lib.hid ((Ex.refl (fun b => b = nb) w5).drew)
      generalize w5.drew = v0 at *
      refine ⟨?_, ?_⟩
      · skip
        go_wp2_with fail
        refine (lay_any nb 0 1 v0 NB0.out (by omega) (by have := HL.out; omega)).mono ?_; rintro e v1 ⟨rfl, hw_⟩
        have NB_v1 := Lib.hid (show Blk v1 nb 3 #[.int .i64 1] by rw [hw_]; exact NB0.out.set_ 0 _)
        have EX_v1 := Lib.hid (show Ex (fun b => b = nb) w5 v1 by rw [hw_]; exact EX0.out.setCell (q := ⟨nb, 0, none⟩) (.inl rfl) _)
        clear hw_
        go_wp2_with fail
        refine behind_normal ⟨Ex (fun b => b = nb) w5, fun W h => h, by first | exact EX_v1.out | exact fun _ => EX_v1.out, ?_⟩
        refine PhasedC.two_ ?_
        simp only [pick, List.map_cons, List.map_nil, List.getElem?_cons_zero, List.getElem?_cons_succ, Option.getD_some]
        repeat (go_big_quiet_step (fail))
        refine wpQuiet_nil ?_
        refine ⟨?_, ?_⟩
        · skip
          go_wp2_with fail
          refine (lay_any nb 1 c.log v1 NB_v1.out (by omega) (by have := HL.out; omega)).mono ?_; rintro e v2 ⟨rfl, hw_⟩
          have NB_v2 := Lib.hid (show Blk v2 nb 3 #[.int .i64 (1 + c.log)] by rw [hw_]; exact NB_v1.out.set_ 0 _)
          have EX_v2 := Lib.hid (show Ex (fun b => b = nb) w5 v2 by rw [hw_]; exact EX_v1.out.setCell (q := ⟨nb, 0, none⟩) (.inl rfl) _)
          clear hw_
          go_wp2_with fail
          refine behind_normal ⟨Ex (fun b => b = nb) w5, fun W h => h, by first | exact EX_v2.out | exact fun _ => EX_v2.out, ?_⟩
          refine PhasedC.bar_ ?_
          simp only [pick, List.map_cons, List.map_nil, List.getElem?_cons_zero, List.getElem?_cons_succ, Option.getD_some]
          repeat (go_big_quiet_step (fail))
          refine wpQuiet_nil ?_
          go_wp2_with fail
          have NB_v3 := Lib.hid (NB_v2.out.alloc (.cells #[.int .i64 0, .int .i64 0, .int .i64 0, .slice none 0 0, .int .i64 0] 29))
          have EX_v3 := Lib.hid (EX_v2.out.alloc (.cells #[.int .i64 0, .int .i64 0, .int .i64 0, .slice none 0 0, .int .i64 0] 29))
          have PB_v3 := Lib.hid (Blk.new v2 29 #[.int .i64 0, .int .i64 0, .int .i64 0, .slice none 0 0, .int .i64 0])
          have PL_v3 := Lib.hid EX_v2.out.size
          refine behind_normal ⟨Ex (fun b => b = nb) w5, fun W h => h, by first | exact EX_v3.out | exact fun _ => EX_v3.out, ?_⟩
          generalize (v2.alloc (.cells #[.int .i64 0, .int .i64 0, .int .i64 0, .slice none 0 0, .int .i64 0] 29)) = v3 at *
          generalize v2.heap.size = pb at *
          refine PhasedC.bar_ ?_
          simp only [pick, List.map_cons, List.map_nil, List.getElem?_cons_zero, List.getElem?_cons_succ, Option.getD_some]
          repeat (go_big_quiet_step (fail))
          refine wpQuiet_nil ?_
          have h0 := PB_v3.out.cell 0
          have r0 := PB_v3.out.frozen 0
          have h1 := PB_v3.out.cell 1
          have r1 := PB_v3.out.frozen 1
          have h2 := PB_v3.out.cell 2
          have r2 := PB_v3.out.frozen 2
          have h3 := PB_v3.out.cell 3
          have r3 := PB_v3.out.frozen 3
          have h4 := PB_v3.out.cell 4
          have r4 := PB_v3.out.frozen 4
          simp only [List.getElem?_toArray, List.getElem?_cons_succ, List.getElem?_cons_zero] at h0 h1 h2 h3 h4
          go_wp2_with fail
          have hz := set5_blk (x0 := .int .i64 0) (x1 := .int .i64 1) (x2 := .int .i64 c.log) (x3 := .slice none 0 0) (x4 := .int .i64 0) PB_v3.out
          have HZ := Lib.hid hz
          have HNE := Lib.hid (show nb ≠ pb by have := PL_v3.out; have := Z5.out; omega)
          have HN9 := Lib.hid (((((NB_v3.out.far (p := ⟨pb, 0, none⟩) HNE.out (.int .i64 0)).far (p := ⟨pb, 1, none⟩) HNE.out (.int .i64 1)).far (p := ⟨pb, 2, none⟩) HNE.out (.int .i64 c.log)).far (p := ⟨pb, 3, none⟩) HNE.out (.slice none 0 0)).far (p := ⟨pb, 4, none⟩) HNE.out (.int .i64 0))
          have HX := Lib.hid (set5_ex (x0 := .int .i64 0) (x1 := .int .i64 1) (x2 := .int .i64 c.log) (x3 := .slice none 0 0) (x4 := .int .i64 0) EX_v3.out (.inr PL_v3.out : (pb = nb) ∨ w5.heap.size ≤ pb))
          refine behind_normal ⟨Ex (fun b => b = nb) w5, fun W h => h, by first | exact HX.out | exact fun _ => HX.out, ?_⟩
          refine PhasedC.fin_ ?_
          clear h0 h1 h2 h3 h4 r0 r1 r2 r3 r4
          simp only [pick, List.map_cons, List.map_nil, List.getElem?_cons_zero, List.getElem?_cons_succ, Option.getD_some]
          repeat (go_big_quiet_step (fail))
          refine wpQuiet_nil ?_
          go_wp2_with fail
          go_meet
          exact ⟨pb, rfl, PL_v3.out, HZ.out, HN9.out, HX.out⟩
        · skip
          go_wp2_with fail
          have NB_v4 := Lib.hid (NB_v1.out.alloc (.cells #[.int .i64 0, .int .i64 0, .int .i64 0, .slice none 0 0, .int .i64 0] 29))
          have EX_v4 := Lib.hid (EX_v1.out.alloc (.cells #[.int .i64 0, .int .i64 0, .int .i64 0, .slice none 0 0, .int .i64 0] 29))
          have PB_v4 := Lib.hid (Blk.new v1 29 #[.int .i64 0, .int .i64 0, .int .i64 0, .slice none 0 0, .int .i64 0])
          have PL_v4 := Lib.hid EX_v1.out.size
          refine behind_normal ⟨Ex (fun b => b = nb) w5, fun W h => h, by first | exact EX_v4.out | exact fun _ => EX_v4.out, ?_⟩
          generalize (v1.alloc (.cells #[.int .i64 0, .int .i64 0, .int .i64 0, .slice none 0 0, .int .i64 0] 29)) = v4 at *
          generalize v1.heap.size = pb at *
          refine PhasedC.bar_ ?_
          simp only [pick, List.map_cons, List.map_nil, List.getElem?_cons_zero, List.getElem?_cons_succ, Option.getD_some]
          repeat (go_big_quiet_step (fail))
          refine wpQuiet_nil ?_
          go_wp2_with fail
          refine (lay_any nb 1 c.log v4 NB_v4.out (by omega) (by have := HL.out; omega)).mono ?_; rintro e v5 ⟨rfl, hw_⟩
          have NB_v5 := Lib.hid (show Blk v5 nb 3 #[.int .i64 (1 + c.log)] by rw [hw_]; exact NB_v4.out.set_ 0 _)
          have EX_v5 := Lib.hid (show Ex (fun b => b = nb) w5 v5 by rw [hw_]; exact EX_v4.out.setCell (q := ⟨nb, 0, none⟩) (.inl rfl) _)
          have PB_v5 := Lib.hid (show Blk v5 pb 29 #[.int .i64 0, .int .i64 0, .int .i64 0, .slice none 0 0, .int .i64 0] by rw [hw_]; exact PB_v4.out.far (by have := PL_v4.out; have := Z5.out; show pb ≠ nb; omega) _)
          clear hw_
          go_wp2_with fail
          refine behind_normal ⟨Ex (fun b => b = nb) w5, fun W h => h, by first | exact EX_v5.out | exact fun _ => EX_v5.out, ?_⟩
          refine PhasedC.bar_ ?_
          simp only [pick, List.map_cons, List.map_nil, List.getElem?_cons_zero, List.getElem?_cons_succ, Option.getD_some]
          repeat (go_big_quiet_step (fail))
          refine wpQuiet_nil ?_
          have h0 := PB_v5.out.cell 0
          have r0 := PB_v5.out.frozen 0
          have h1 := PB_v5.out.cell 1
          have r1 := PB_v5.out.frozen 1
          have h2 := PB_v5.out.cell 2
          have r2 := PB_v5.out.frozen 2
          have h3 := PB_v5.out.cell 3
          have r3 := PB_v5.out.frozen 3
          have h4 := PB_v5.out.cell 4
          have r4 := PB_v5.out.frozen 4
          simp only [List.getElem?_toArray, List.getElem?_cons_succ, List.getElem?_cons_zero] at h0 h1 h2 h3 h4
          go_wp2_with fail
          have hz := set5_blk (x0 := .int .i64 0) (x1 := .int .i64 1) (x2 := .int .i64 c.log) (x3 := .slice none 0 0) (x4 := .int .i64 0) PB_v5.out
          have HZ := Lib.hid hz
          have HNE := Lib.hid (show nb ≠ pb by have := PL_v4.out; have := Z5.out; omega)
          have HN9 := Lib.hid (((((NB_v5.out.far (p := ⟨pb, 0, none⟩) HNE.out (.int .i64 0)).far (p := ⟨pb, 1, none⟩) HNE.out (.int .i64 1)).far (p := ⟨pb, 2, none⟩) HNE.out (.int .i64 c.log)).far (p := ⟨pb, 3, none⟩) HNE.out (.slice none 0 0)).far (p := ⟨pb, 4, none⟩) HNE.out (.int .i64 0))
          have HX := Lib.hid (set5_ex (x0 := .int .i64 0) (x1 := .int .i64 1) (x2 := .int .i64 c.log) (x3 := .slice none 0 0) (x4 := .int .i64 0) EX_v5.out (.inr PL_v4.out : (pb = nb) ∨ w5.heap.size ≤ pb))
          refine behind_normal ⟨Ex (fun b => b = nb) w5, fun W h => h, by first | exact HX.out | exact fun _ => HX.out, ?_⟩
          refine PhasedC.fin_ ?_
          clear h0 h1 h2 h3 h4 r0 r1 r2 r3 r4
          simp only [pick, List.map_cons, List.map_nil, List.getElem?_cons_zero, List.getElem?_cons_succ, Option.getD_some]
          repeat (go_big_quiet_step (fail))
          refine wpQuiet_nil ?_
          go_wp2_with fail
          go_meet
          exact ⟨pb, rfl, PL_v4.out, HZ.out, HN9.out, HX.out⟩
      · skip
        go_wp2_with fail
        have NB_v6 := Lib.hid (NB0.out.alloc (.cells #[.int .i64 0, .int .i64 0, .int .i64 0, .slice none 0 0, .int .i64 0] 29))
        have EX_v6 := Lib.hid (EX0.out.alloc (.cells #[.int .i64 0, .int .i64 0, .int .i64 0, .slice none 0 0, .int .i64 0] 29))
        have PB_v6 := Lib.hid (Blk.new v0 29 #[.int .i64 0, .int .i64 0, .int .i64 0, .slice none 0 0, .int .i64 0])
        have PL_v6 := Lib.hid EX0.out.size
        refine behind_normal ⟨Ex (fun b => b = nb) w5, fun W h => h, by first | exact EX_v6.out | exact fun _ => EX_v6.out, ?_⟩
        generalize (v0.alloc (.cells #[.int .i64 0, .int .i64 0, .int .i64 0, .slice none 0 0, .int .i64 0] 29)) = v6 at *
        generalize v0.heap.size = pb at *
        refine PhasedC.bar_ ?_
        simp only [pick, List.map_cons, List.map_nil, List.getElem?_cons_zero, List.getElem?_cons_succ, Option.getD_some]
        repeat (go_big_quiet_step (fail))
        refine wpQuiet_nil ?_
        go_wp2_with fail
        refine (lay_any nb 0 1 v6 NB_v6.out (by omega) (by have := HL.out; omega)).mono ?_; rintro e v7 ⟨rfl, hw_⟩
        have NB_v7 := Lib.hid (show Blk v7 nb 3 #[.int .i64 1] by rw [hw_]; exact NB_v6.out.set_ 0 _)
        have EX_v7 := Lib.hid (show Ex (fun b => b = nb) w5 v7 by rw [hw_]; exact EX_v6.out.setCell (q := ⟨nb, 0, none⟩) (.inl rfl) _)
        have PB_v7 := Lib.hid (show Blk v7 pb 29 #[.int .i64 0, .int .i64 0, .int .i64 0, .slice none 0 0, .int .i64 0] by rw [hw_]; exact PB_v6.out.far (by have := PL_v6.out; have := Z5.out; show pb ≠ nb; omega) _)
        clear hw_
        go_wp2_with fail
        refine behind_normal ⟨Ex (fun b => b = nb) w5, fun W h => h, by first | exact EX_v7.out | exact fun _ => EX_v7.out, ?_⟩
        refine PhasedC.bar_ ?_
        simp only [pick, List.map_cons, List.map_nil, List.getElem?_cons_zero, List.getElem?_cons_succ, Option.getD_some]
        repeat (go_big_quiet_step (fail))
        refine wpQuiet_nil ?_
        go_wp2_with fail
        refine (lay_any nb 1 c.log v7 NB_v7.out (by omega) (by have := HL.out; omega)).mono ?_; rintro e v8 ⟨rfl, hw_⟩
        have NB_v8 := Lib.hid (show Blk v8 nb 3 #[.int .i64 (1 + c.log)] by rw [hw_]; exact NB_v7.out.set_ 0 _)
        have EX_v8 := Lib.hid (show Ex (fun b => b = nb) w5 v8 by rw [hw_]; exact EX_v7.out.setCell (q := ⟨nb, 0, none⟩) (.inl rfl) _)
        have PB_v8 := Lib.hid (show Blk v8 pb 29 #[.int .i64 0, .int .i64 0, .int .i64 0, .slice none 0 0, .int .i64 0] by rw [hw_]; exact PB_v7.out.far (by have := PL_v6.out; have := Z5.out; show pb ≠ nb; omega) _)
        clear hw_
        go_wp2_with fail
        refine behind_normal ⟨Ex (fun b => b = nb) w5, fun W h => h, by first | exact EX_v8.out | exact fun _ => EX_v8.out, ?_⟩
        refine PhasedC.bar_ ?_
        simp only [pick, List.map_cons, List.map_nil, List.getElem?_cons_zero, List.getElem?_cons_succ, Option.getD_some]
        repeat (go_big_quiet_step (fail))
        refine wpQuiet_nil ?_
        have h0 := PB_v8.out.cell 0
        have r0 := PB_v8.out.frozen 0
        have h1 := PB_v8.out.cell 1
        have r1 := PB_v8.out.frozen 1
        have h2 := PB_v8.out.cell 2
        have r2 := PB_v8.out.frozen 2
        have h3 := PB_v8.out.cell 3
        have r3 := PB_v8.out.frozen 3
        have h4 := PB_v8.out.cell 4
        have r4 := PB_v8.out.frozen 4
        simp only [List.getElem?_toArray, List.getElem?_cons_succ, List.getElem?_cons_zero] at h0 h1 h2 h3 h4
        go_wp2_with fail
        have hz := set5_blk (x0 := .int .i64 0) (x1 := .int .i64 1) (x2 := .int .i64 c.log) (x3 := .slice none 0 0) (x4 := .int .i64 0) PB_v8.out
        have HZ := Lib.hid hz
        have HNE := Lib.hid (show nb ≠ pb by have := PL_v6.out; have := Z5.out; omega)
        have HN9 := Lib.hid (((((NB_v8.out.far (p := ⟨pb, 0, none⟩) HNE.out (.int .i64 0)).far (p := ⟨pb, 1, none⟩) HNE.out (.int .i64 1)).far (p := ⟨pb, 2, none⟩) HNE.out (.int .i64 c.log)).far (p := ⟨pb, 3, none⟩) HNE.out (.slice none 0 0)).far (p := ⟨pb, 4, none⟩) HNE.out (.int .i64 0))
        have HX := Lib.hid (set5_ex (x0 := .int .i64 0) (x1 := .int .i64 1) (x2 := .int .i64 c.log) (x3 := .slice none 0 0) (x4 := .int .i64 0) EX_v8.out (.inr PL_v6.out : (pb = nb) ∨ w5.heap.size ≤ pb))
        refine behind_normal ⟨Ex (fun b => b = nb) w5, fun W h => h, by first | exact HX.out | exact fun _ => HX.out, ?_⟩
        refine PhasedC.fin_ ?_
        clear h0 h1 h2 h3 h4 r0 r1 r2 r3 r4
        simp only [pick, List.map_cons, List.map_nil, List.getElem?_cons_zero, List.getElem?_cons_succ, Option.getD_some]
        repeat (go_big_quiet_step (fail))
        refine wpQuiet_nil ?_
        go_wp2_with fail
        go_meet
        exact ⟨pb, rfl, PL_v6.out, HZ.out, HN9.out, HX.out⟩
    obtain ⟨pb, rfl, hpl, hpb, hnb, hex⟩ := hcut
    have CB6 := Lib.hid (CB2.out.ex hex (by have := ORD.out; omega))
    have PB6 := Lib.hid (PB2.out.ex hex (by have := ORD.out; omega))
    have TB6 := Lib.hid (TB2.out.ex hex (fun b hb => by have := ORD.out; omega))
    have L6 := Lib.hid (Ex.below L2.out hex (fun b hb => by have := ORD.out; omega))
    have NB6 := Lib.hid hnb
    have QB6 := Lib.hid hpb
    have ORD2 := Lib.hid (show B + 1 < nb ∧ w.heap.size = B ∧ nb < pb ∧ pb < wc.heap.size from ⟨ORD.out.1, ORD.out.2, by have := Z5.out; omega, hpb.lt⟩)
    clear hpl hpb hnb hex CB2 PB2 TB2 L2 NB Z5 ORD
    obtain ⟨Bs, hBs⟩ : ∃ z, wc.heap.size = z := ⟨_, rfl⟩
    rw [hBs] at ORD2
    have hBs2 : Bs ≤ wc.heap.size := by omega
    have HBS := Lib.hid hBs2
    clear hBs hBs2
    have HN64 := Lib.hid OK.out.n
    obtain ⟨tb, tof, hA, htb, htc⟩ := TB6.out (by have := HN64.out; omega)
    subst hA
    have TC6 := Lib.hid (show TcC wc tb tof c.n c.l from htc)
    have HTB := Lib.hid htb
    clear htb htc TB6
    have g1 := CB6.out.cell 1
    simp only [List.getElem?_toArray, List.getElem?_cons_succ, List.getElem?_cons_zero] at g1
    go_upto_region 8 with fail
    clear g1
    obtain ⟨i0_, hi0, hz0, hz1, hz2⟩ := info_parts spot_info
    go_loopw [9, 10, 32] (fun s9 s10 s32 wr => ∃ (i : Nat) (v : Value), i ≤ c.n ∧ s32 = .int .i64 i ∧ TcC wr tb tof c.n c.l ∧ Blk wr nb 3 #[.int .i64 (offP c i)] ∧ Blk wr pb 29 #[.int .i64 0, .int .i64 1, .int .i64 c.log, v, .int .i64 0] ∧ wr.ownsRow Bs 43 5 v i (spsL c i) ∧ Blk wr (B + 1) 29 #[.int .i64 0, .int .i64 0, .int .i64 0, .slice none 0 0, .int .i64 0] ∧ Bs ≤ wr.heap.size ∧ Below w.heap.size w wr) (fun s9 s10 s32 _ => c.n + 1 - (intOf s32).toNat)
    case atStart => exact ⟨0, .slice none 0 0, by omega, rfl, TC6.out, NB6.out, QB6.out, World.ownsRow_nil _ _ _ _, PB6.out, HBS.out, L6.out⟩
    case round =>
      clear TC6 NB6 QB6 PB6 HBS L6 CB6
      obtain ⟨i, v, hi, rfl, htc, hnb, hqb, how, hpb, hbs, hl⟩ := hrel
      have TC := Lib.hid htc
      have NB := Lib.hid hnb
      have QB := Lib.hid hqb
      have OW := Lib.hid how
      have PB := Lib.hid hpb
      have HBS := Lib.hid hbs
      have L0 := Lib.hid hl
      clear htc hnb hqb how hpb hbs hl
      by_cases hlt : i < c.n
      · have kd : decide ((i : Int) < (c.n : Int)) = true := decide_eq_true (by omega)
        have kdn : decide (i < c.n) = true := decide_eq_true hlt
        have kdm : i < c.n := hlt
        have ki0 : (0 : Int) ≤ (i : Int) := by omega
        have ki1 : (i : Int) < (c.n : Int) := by omega
        have ki5 : (i : Int) ≤ 1000 := by have := HN64.out; omega
        obtain ⟨t0, t1, t2⟩ := TC.out i hlt
        obtain ⟨nm, hnm⟩ : ∃ z, (c.l i).nm = z := ⟨_, rfl⟩
        obtain ⟨wo, hwo⟩ : ∃ z, (c.l i).words = z := ⟨_, rfl⟩
        obtain ⟨de, hde⟩ : ∃ z, (c.l i).depth = z := ⟨_, rfl⟩
        have hb := OK.out.l i hlt
        rw [hwo, hde] at hb
        obtain ⟨m, hm⟩ : ∃ z, wo * de = z := ⟨_, rfl⟩
        have hpr := prod_bounds hb
        rw [hm] at hpr
        have hkm : wrap64 (wo * de) = m := by rw [hm]; unfold wrap64; omega
        have hof := offP_bounds OK.out i (by omega)
        have hos : offP c (i + 1) = offP c i + 2 + m := by rw [← hm, ← hwo, ← hde]; rfl
        have hsp : spL (spF c i) = [.int .i64 (offP c i), .int .i64 (offP c i + 1), .int .i64 (offP c i + 2), .int .i64 wo, .int .i64 de] := by rw [← hwo, ← hde]; rfl
        obtain ⟨f, hf⟩ : ∃ z, offP c i = z := ⟨_, rfl⟩
        rw [hf] at hof hos hsp NB
        have HF := Lib.hid (show 0 ≤ f ∧ f ≤ 70000 by have := HN64.out; have := OK.out.log; omega)
        have HPR := Lib.hid hpr
        have HOS := Lib.hid hos
        have HSP := Lib.hid hsp
        have HI := Lib.hid hlt
        rw [hnm] at t0
        rw [hwo] at t1
        rw [hde] at t2
        clear hnm hwo hde hb hpr hof hos hsp hf hlt hi hm
        go_upto_region 11 with fail
        have TV := Lib.hid ((Blk.new wr 59 #[.string nm, .int .i64 wo, .int .i64 de]).alloc (.cells #[.int .i64 0, .int .i64 0, .int .i64 0, .int .i64 wo, .int .i64 de] 43))
        have SV := Lib.hid (show Blk ((wr.alloc (.cells #[.string nm, .int .i64 wo, .int .i64 de] 59)).alloc (.cells #[.int .i64 0, .int .i64 0, .int .i64 0, .int .i64 wo, .int .i64 de] 43)) (wr.heap.size + 1) 43 #[.int .i64 0, .int .i64 0, .int .i64 0, .int .i64 wo, .int .i64 de] by have h9 := Blk.new (wr.alloc (.cells #[.string nm, .int .i64 wo, .int .i64 de] 59)) 43 #[.int .i64 0, .int .i64 0, .int .i64 0, .int .i64 wo, .int .i64 de]; simpa using h9)
        have hl2 : Below wr.heap.size wr ((wr.alloc (.cells #[.string nm, .int .i64 wo, .int .i64 de] 59)).alloc (.cells #[.int .i64 0, .int .i64 0, .int .i64 0, .int .i64 wo, .int .i64 de] 43)) := ((Below.refl wr.heap.size wr).alloc (Nat.le_refl _) _).alloc (by simp) _
        have he2 : Ex (fun _ => False) wr ((wr.alloc (.cells #[.string nm, .int .i64 wo, .int .i64 de] 59)).alloc (.cells #[.int .i64 0, .int .i64 0, .int .i64 0, .int .i64 wo, .int .i64 de] 43)) := Ex.of_below hl2
        obtain ⟨tv, htv⟩ : ∃ z, wr.heap.size = z := ⟨_, rfl⟩
        have NB2 := Lib.hid (NB.out.bl hl2)
        have QB2 := Lib.hid (QB.out.bl hl2)
        have OW2 := Lib.hid (ownsRow_ex OW.out he2 (fun _ _ h => h))
        have PB2 := Lib.hid (PB.out.bl hl2)
        have TC2 := Lib.hid (TC.out.ex he2 (fun h => h))
        have L2 := Lib.hid (bl L0.out hl2)
        have HBS2 := Lib.hid (Nat.le_trans HBS.out hl2.size)
        have ORD3 := Lib.hid (show Bs ≤ tv ∧ ∀ b, v.ownBlock = some b → Bs ≤ b ∧ b < tv from ⟨by rw [← htv]; exact HBS.out, fun b hb => by rw [← htv]; exact OW.out.lt b hb⟩)
        rw [htv] at TV SV
        simp only [htv]
        clear hl2 he2 htv NB QB OW PB TC L0 HBS t0 t1 t2
        generalize ((wr.alloc (.cells #[.string nm, .int .i64 wo, .int .i64 de] 59)).alloc (.cells #[.int .i64 0, .int .i64 0, .int .i64 0, .int .i64 wo, .int .i64 de] 43)) = w7 at *
        have p1 : ∀ y : Held (Ex (fun b => b = nb ∨ b = tv + 1) w7), y.w.cell? ⟨tv, 1, none⟩ = some (.int .i64 wo) := fun y => by rw [(TV.out.ex y.ok (by have := ORD3.out.1; have := ORD2.out; omega)).cell]; rfl
        have p2 : ∀ y : Held (Ex (fun b => b = nb ∨ b = tv + 1) w7), y.w.cell? ⟨tv, 2, none⟩ = some (.int .i64 de) := fun y => by rw [(TV.out.ex y.ok (by have := ORD3.out.1; have := ORD2.out; omega)).cell]; rfl
        have hne : Nonempty (Held (Ex (fun b => b = nb ∨ b = tv + 1) w7)) := ⟨⟨w7, Ex.refl _ _⟩⟩
        refine drawn_bars (S := Ex (fun b => b = nb ∨ b = tv + 1) w7) [([0, 2, 4, 5, 6, 7, 8, 9], 1), ([11], 3), ([], 10), ([], 12), ([13], 14), ([15], 16)] [] (by kernel_rfl) (by kernel_rfl) (by kernel_rfl) rfl (Ex.refl _ _).drew ?_
        refine Phased.go ?_
        simp only [pick, List.map_cons, List.map_nil, List.getElem?_cons_zero, List.getElem?_cons_succ, Option.getD_some]
        repeat (go_big_quiet_step (fail))
        refine wpQuiet_nil ?_
        have NB_0 := Lib.hid NB2.out.drew
        have SV_0 := Lib.hid SV.out.drew
        have EX_0 := Lib.hid ((Ex.refl (fun b => b = nb ∨ b = tv + 1) w7).drew)
        have HNT := Lib.hid (show nb ≠ tv + 1 by have := ORD3.out.1; have := ORD2.out; omega)
        generalize w7.drew = x0 at *
        go_wp2_with fail
        refine (lay_any nb (f) 1 x0 NB_0.out (by have := HF.out; omega) (by have := HPR.out; omega)).mono ?_; rintro e x1 ⟨rfl, hw_⟩
        have NB_1 := Lib.hid (show Blk x1 nb 3 #[.int .i64 (f + 1)] by rw [hw_]; exact NB_0.out.set_ 0 _)
        have EX_1 := Lib.hid (show Ex (fun b => b = nb ∨ b = tv + 1) w7 x1 by rw [hw_]; exact EX_0.out.setCell (q := ⟨nb, 0, none⟩) (.inl (.inl rfl)) _)
        have SV_1 := Lib.hid (show Blk x1 (tv + 1) 43 #[.int .i64 0, .int .i64 0, .int .i64 0, .int .i64 wo, .int .i64 de] by rw [hw_]; exact SV_0.out.far (by have := HNT.out; show tv + 1 ≠ nb; omega) _)
        clear hw_
        go_wp2_with fail
        refine behind_normal ⟨Ex (fun b => b = nb ∨ b = tv + 1) w7, fun W h => h, EX_1.out, ?_⟩
        refine Phased.go ?_
        simp only [pick, List.map_cons, List.map_nil, List.getElem?_cons_zero, List.getElem?_cons_succ, Option.getD_some]
        repeat (go_big_quiet_step (fail))
        refine wpQuiet_nil ?_
        go_wp2_with fail
        refine (lay_any nb (f + 1) 1 x1 NB_1.out (by have := HF.out; omega) (by have := HPR.out; omega)).mono ?_; rintro e x2 ⟨rfl, hw_⟩
        have NB_2 := Lib.hid (show Blk x2 nb 3 #[.int .i64 (f + 1 + 1)] by rw [hw_]; exact NB_1.out.set_ 0 _)
        have EX_2 := Lib.hid (show Ex (fun b => b = nb ∨ b = tv + 1) w7 x2 by rw [hw_]; exact EX_1.out.setCell (q := ⟨nb, 0, none⟩) (.inl (.inl rfl)) _)
        have SV_2 := Lib.hid (show Blk x2 (tv + 1) 43 #[.int .i64 0, .int .i64 0, .int .i64 0, .int .i64 wo, .int .i64 de] by rw [hw_]; exact SV_1.out.far (by have := HNT.out; show tv + 1 ≠ nb; omega) _)
        clear hw_
        go_wp2_with fail
        refine behind_normal ⟨Ex (fun b => b = nb ∨ b = tv + 1) w7, fun W h => h, EX_2.out, ?_⟩
        refine Phased.go ?_
        simp only [pick, List.map_cons, List.map_nil, List.getElem?_cons_zero, List.getElem?_cons_succ, Option.getD_some]
        repeat (go_big_quiet_step (fail))
        refine wpQuiet_nil ?_
        go_wp2_with fail
        refine (lay_any nb (f + 1 + 1) m x2 NB_2.out (by have := HF.out; omega) (by have := HPR.out; omega)).mono ?_; rintro e x3 ⟨rfl, hw_⟩
        have NB_3 := Lib.hid (show Blk x3 nb 3 #[.int .i64 (f + 1 + 1 + m)] by rw [hw_]; exact NB_2.out.set_ 0 _)
        have EX_3 := Lib.hid (show Ex (fun b => b = nb ∨ b = tv + 1) w7 x3 by rw [hw_]; exact EX_2.out.setCell (q := ⟨nb, 0, none⟩) (.inl (.inl rfl)) _)
        have SV_3 := Lib.hid (show Blk x3 (tv + 1) 43 #[.int .i64 0, .int .i64 0, .int .i64 0, .int .i64 wo, .int .i64 de] by rw [hw_]; exact SV_2.out.far (by have := HNT.out; show tv + 1 ≠ nb; omega) _)
        clear hw_
        go_wp2_with fail
        refine behind_normal ⟨Ex (fun b => b = nb ∨ b = tv + 1) w7, fun W h => h, EX_3.out, ?_⟩
        refine Phased.go ?_
        simp only [pick, List.map_cons, List.map_nil, List.getElem?_cons_zero, List.getElem?_cons_succ, Option.getD_some]
        repeat (go_big_quiet_step (fail))
        refine wpQuiet_nil ?_
        have h0 := SV_3.out.cell 0
        have r0 := SV_3.out.frozen 0
        simp only [List.getElem?_toArray, List.getElem?_cons_succ, List.getElem?_cons_zero] at h0
        go_wp2_with fail
        have SV_s0 := Lib.hid (show Blk (x3.setCell ⟨tv + 1, 0, none⟩ (.int .i64 f)) (tv + 1) 43 #[.int .i64 f, .int .i64 0, .int .i64 0, .int .i64 wo, .int .i64 de] from SV_3.out.set_ 0 _)
        have EX_s0 := Lib.hid (EX_3.out.setCell (q := ⟨tv + 1, 0, none⟩) (.inl (.inr rfl)) (.int .i64 f))
        have NB_s0 := Lib.hid (NB_3.out.far (p := ⟨tv + 1, 0, none⟩) HNT.out (.int .i64 f))
        clear h0 r0
        generalize (x3.setCell ⟨tv + 1, 0, none⟩ (.int .i64 f)) = y1 at *
        refine behind_normal ⟨Ex (fun b => b = nb ∨ b = tv + 1) w7, fun W h => h, EX_s0.out, ?_⟩
        refine Phased.go ?_
        simp only [pick, List.map_cons, List.map_nil, List.getElem?_cons_zero, List.getElem?_cons_succ, Option.getD_some]
        repeat (go_big_quiet_step (fail))
        refine wpQuiet_nil ?_
        have h1 := SV_s0.out.cell 1
        have r1 := SV_s0.out.frozen 1
        simp only [List.getElem?_toArray, List.getElem?_cons_succ, List.getElem?_cons_zero] at h1
        go_wp2_with fail
        have SV_s1 := Lib.hid (show Blk (y1.setCell ⟨tv + 1, 1, none⟩ (.int .i64 (f + 1))) (tv + 1) 43 #[.int .i64 f, .int .i64 (f + 1), .int .i64 0, .int .i64 wo, .int .i64 de] from SV_s0.out.set_ 1 _)
        have EX_s1 := Lib.hid (EX_s0.out.setCell (q := ⟨tv + 1, 1, none⟩) (.inl (.inr rfl)) (.int .i64 (f + 1)))
        have NB_s1 := Lib.hid (NB_s0.out.far (p := ⟨tv + 1, 1, none⟩) HNT.out (.int .i64 (f + 1)))
        clear h1 r1
        generalize (y1.setCell ⟨tv + 1, 1, none⟩ (.int .i64 (f + 1))) = y2 at *
        refine behind_normal ⟨Ex (fun b => b = nb ∨ b = tv + 1) w7, fun W h => h, EX_s1.out, ?_⟩
        refine Phased.go ?_
        simp only [pick, List.map_cons, List.map_nil, List.getElem?_cons_zero, List.getElem?_cons_succ, Option.getD_some]
        repeat (go_big_quiet_step (fail))
        refine wpQuiet_nil ?_
        have h2 := SV_s1.out.cell 2
        have r2 := SV_s1.out.frozen 2
        simp only [List.getElem?_toArray, List.getElem?_cons_succ, List.getElem?_cons_zero] at h2
        go_wp2_with fail
        have SV_s2 := Lib.hid (show Blk (y2.setCell ⟨tv + 1, 2, none⟩ (.int .i64 (f + 1 + 1))) (tv + 1) 43 #[.int .i64 f, .int .i64 (f + 1), .int .i64 (f + 1 + 1), .int .i64 wo, .int .i64 de] from SV_s1.out.set_ 2 _)
        have EX_s2 := Lib.hid (EX_s1.out.setCell (q := ⟨tv + 1, 2, none⟩) (.inl (.inr rfl)) (.int .i64 (f + 1 + 1)))
        have NB_s2 := Lib.hid (NB_s1.out.far (p := ⟨tv + 1, 2, none⟩) HNT.out (.int .i64 (f + 1 + 1)))
        clear h2 r2
        generalize (y2.setCell ⟨tv + 1, 2, none⟩ (.int .i64 (f + 1 + 1))) = y3 at *
        refine behind_normal ⟨Ex (fun b => b = nb ∨ b = tv + 1) w7, fun W h => h, EX_s2.out, ?_⟩
        refine Phased.end_ ?_
        have hne5 : Nonempty (Held (fun W => W = y3)) := ⟨⟨_, rfl⟩⟩
        simp only [pick, List.map_cons, List.map_nil, List.getElem?_cons_zero, List.getElem?_cons_succ, Option.getD_some]
        repeat (go_big_quiet_step (fail))
        refine wpQuiet_nil ?_
        clear hne hne5 p1 p2
        have hX := EX_s2.out
        have hT : ∀ b, (b = nb ∨ b = tv + 1) → b = nb ∨ tv < b := fun b hb => by omega
        have QB3 := Lib.hid (QB2.out.ex hX (by have := ORD3.out.1; have := ORD2.out; omega))
        have PB3 := Lib.hid (PB2.out.ex hX (by have := ORD3.out.1; have := ORD2.out; omega))
        have TC3 := Lib.hid (TC2.out.ex hX (by have := ORD3.out.1; have := ORD2.out; have := HTB.out; omega))
        have OW3 := Lib.hid (ownsRow_ex OW2.out hX (fun b hb => by have h1 := ORD3.out.2 b hb; have := ORD2.out; omega))
        have L3 := Lib.hid (Ex.below L2.out hX (fun b hb => by have := ORD3.out.1; have := ORD2.out; omega))
        have HBS3 := Lib.hid (Nat.le_trans HBS2.out hX.size)
        have NB3 := Lib.hid (show Blk y3 nb 3 #[.int .i64 (offP c (i + 1))] by rw [HOS.out, show f + 2 + m = f + 1 + 1 + m by omega]; exact NB_s2.out)
        have SV3 := Lib.hid (show Blk y3 (tv + 1) 43 (spL (spF c i)).toArray by rw [HSP.out, show f + 2 = f + 1 + 1 by omega]; exact SV_s2.out)
        have s0 := SV_s2.out.cell 0
        have s1 := SV_s2.out.cell 1
        have s2 := SV_s2.out.cell 2
        have s3 := SV_s2.out.cell 3
        have s4 := SV_s2.out.cell 4
        have u3 := QB3.out.cell 3
        simp only [List.getElem?_toArray, List.getElem?_cons_succ, List.getElem?_cons_zero] at s0 s1 s2 s3 s4 u3
        have HNE := Lib.hid (show [Value.int .i64 f, .int .i64 (f + 1), .int .i64 (f + 1 + 1), .int .i64 wo, .int .i64 de] = spL (spF c i) by rw [HSP.out, show f + 2 = f + 1 + 1 by omega])
        clear hX hT NB_0 NB_1 NB_2 NB_3 NB_s0 NB_s1 NB_s2 SV_0 SV_1 SV_2 SV_3 SV_s0 SV_s1 SV_s2 EX_0 EX_1 EX_2 EX_3 EX_s0 EX_s1 EX_s2 QB2 PB2 TC2 OW2 L2 HBS2 NB2 SV TV
        go_wp2_with (at_builtin; refine wpList_append_own_at _ rfl _ _ 27 rfl Bs 43 i0_ (.agg #[.int .i64 0, .int .i64 0, .int .i64 0, .int .i64 0, .int .i64 0]) 5 40 Tryd.underlying27 hi0 hz0 hz1 hz2 rfl (by decide) _ _ _ rfl (OW3.out.alloc _) ⟨y3.heap.size, 0, none⟩ 1 1 [Value.int .i64 f, .int .i64 (f + 1), .int .i64 (f + 1 + 1), .int .i64 wo, .int .i64 de] rfl rfl ?c1 ?c2 ?c3 ?c4 ?c5 ?_)
        case c1 =>
          have hbn := Blk.new y3 43 #[.int .i64 f, .int .i64 (f + 1), .int .i64 (f + 1 + 1), .int .i64 wo, .int .i64 de]
          intro j u hj
          match j, hj with
          | 0, hj => simp at hj; subst hj; exact hbn.cell 0
          | 1, hj => simp at hj; subst hj; exact hbn.cell 1
          | 2, hj => simp at hj; subst hj; exact hbn.cell 2
          | 3, hj => simp at hj; subst hj; exact hbn.cell 3
          | 4, hj => simp at hj; subst hj; exact hbn.cell 4
        case c2 =>
          intro u hu
          simp only [List.mem_cons, List.not_mem_nil, or_false] at hu
          rcases hu with rfl | rfl | rfl | rfl | rfl <;> rfl
        case c3 => have := HN64.out; have := HI.out; unfold maxLen; omega
        case c4 => have := HN64.out; have := HI.out; omega
        case c5 => have := HBS3.out; simp; omega
        intro v' w8 hown' hgrow _ hat
        rw [HNE.out] at hown'
        have hgr : Ex (fun b => v.ownBlock = some b) y3 w8 := ((Ex.refl (fun b => v.ownBlock = some b) y3).alloc (.cells #[.int .i64 f, .int .i64 (f + 1), .int .i64 (f + 1 + 1), .int .i64 wo, .int .i64 de] 43)).trans (Ex.of_grown hgrow)
        obtain ⟨va, vc, hvv⟩ := own_form hown'
        subst hvv
        have HV := Lib.hid (show ∀ b, v.ownBlock = some b → Bs ≤ b from fun b hb => (ORD3.out.2 b hb).1)
        have QB8 := Lib.hid (QB3.out.ex hgr (fun hb => by have := HV.out _ hb; have := ORD2.out; omega))
        have NB8 := Lib.hid (NB3.out.ex hgr (fun hb => by have := HV.out _ hb; have := ORD2.out; omega))
        have PB8 := Lib.hid (PB3.out.ex hgr (fun hb => by have := HV.out _ hb; have := ORD2.out; omega))
        have TC8 := Lib.hid (TC3.out.ex hgr (fun hb => by have := HV.out _ hb; have := ORD2.out; have := HTB.out; omega))
        have L8 := Lib.hid (Ex.below L3.out hgr (fun b hb => by have := HV.out _ hb; have := ORD2.out; omega))
        have HBS8 := Lib.hid (Nat.le_trans HBS3.out hgr.size)
        have OW8 := Lib.hid hown'
        have u38 := QB8.out.cell 3
        have uf8 := QB8.out.frozen 3
        simp only [List.getElem?_toArray, List.getElem?_cons_succ, List.getElem?_cons_zero] at u38
        clear hgr hown' hgrow hat QB3 NB3 PB3 TC3 OW3 L3 HBS3 SV3 s0 s1 s2 s3 s4 u3
        have hx9 : Ex (fun b => b = pb) w8 (w8.setCell ⟨pb, 3, none⟩ (.slice va (i + 1) vc)) := (Ex.refl (fun b => b = pb) w8).setCell (q := ⟨pb, 3, none⟩) (.inl rfl) _
        have QB9 := Lib.hid (show Blk (w8.setCell ⟨pb, 3, none⟩ (.slice va (i + 1) vc)) pb 29 #[.int .i64 0, .int .i64 1, .int .i64 c.log, .slice va (i + 1) vc, .int .i64 0] from QB8.out.set_ 3 _)
        have NB9 := Lib.hid (NB8.out.ex hx9 (by have := ORD2.out; omega))
        have PB9 := Lib.hid (PB8.out.ex hx9 (by have := ORD2.out; omega))
        have TC9 := Lib.hid (TC8.out.ex hx9 (by have := ORD2.out; have := HTB.out; omega))
        have L9 := Lib.hid (Ex.below L8.out hx9 (fun b hb => by have := ORD2.out; omega))
        have HBS9 := Lib.hid (Nat.le_trans HBS8.out hx9.size)
        have OW9 := Lib.hid (ownsRow_ex OW8.out hx9 (fun b hb ht => by have h1 := (OW8.out.lt b hb).1; have := ORD2.out; omega))
        clear hx9 QB8 NB8 PB8 TC8 L8 HBS8 OW8
        go_wp2_with fail
        exact ⟨⟨i + 1, _, HI.out, by go_num, TC9.out, NB9.out, QB9.out, OW9.out, PB9.out, HBS9.out, L9.out⟩, by have := HI.out; simp [intOf]; omega⟩
      · have he : i = c.n := by omega
        have kd : decide ((i : Int) < (c.n : Int)) = false := decide_eq_false (by omega)
        have kdn : decide (i < c.n) = false := decide_eq_false hlt
        have kdm : ¬ i < c.n := hlt
        have how : wr.ownsRow Bs 43 5 v c.n (spsL c c.n) := by have := OW.out; rw [he] at this; exact this
        obtain ⟨sb, cp, rfl, hsb, hsp⟩ := sp_of_own how HN64.out.1
        have NBE := Lib.hid (show Blk wr nb 3 #[.int .i64 (offP c c.n)] by have := NB.out; rw [he] at this; exact this)
        have HSB := Lib.hid hsb
        have SPA := Lib.hid hsp
        obtain ⟨sz, hsz⟩ : ∃ z, offP c c.n = z := ⟨_, rfl⟩
        rw [hsz] at NBE
        have n0 := NBE.out.cell 0
        have h0 := QB.out.cell 0
        have h1 := QB.out.cell 1
        have h2 := QB.out.cell 2
        have h3 := QB.out.cell 3
        have h4 := QB.out.cell 4
        have r4 := QB.out.frozen 4
        have l0 := PB.out.cell 0
        have l1 := PB.out.cell 1
        have l2 := PB.out.cell 2
        have l3 := PB.out.cell 3
        have l4 := PB.out.cell 4
        have m0 := PB.out.frozen 0
        have m1 := PB.out.frozen 1
        have m2 := PB.out.frozen 2
        have m3 := PB.out.frozen 3
        have m4 := PB.out.frozen 4
        simp only [List.getElem?_toArray, List.getElem?_cons_succ, List.getElem?_cons_zero] at n0 h0 h1 h2 h3 h4 l0 l1 l2 l3 l4
        have HSZ := Lib.hid hsz
        have HBP := Lib.hid (show B + 1 ≠ pb ∧ pb ≠ B + 1 from ⟨by have := ORD2.out; omega, by have := ORD2.out; omega⟩)
        have hne1 : ¬ (B + 1 = pb) := HBP.out.1
        have hne2 : ¬ (pb = B + 1) := HBP.out.2
        clear he hlt hi how hsb hsp hsz
        go_wp2_with fail
        have hz := set5_blk (x0 := .int .i64 0) (x1 := .int .i64 1) (x2 := .int .i64 c.log) (x3 := .slice (some ⟨sb, 0, none⟩) c.n cp) (x4 := .int .i64 sz) (PB.out.far (p := ⟨pb, 4, none⟩) HBP.out.1 (.int .i64 sz))
        have hx : Ex (fun b => b = pb ∨ b = B + 1) wr _ := set5_ex (x0 := .int .i64 0) (x1 := .int .i64 1) (x2 := .int .i64 c.log) (x3 := .slice (some ⟨sb, 0, none⟩) c.n cp) (x4 := .int .i64 sz) ((Ex.refl (fun b => b = pb ∨ b = B + 1) wr).setCell (q := ⟨pb, 4, none⟩) (.inl (.inl rfl)) (.int .i64 sz)) (.inl (.inr rfl) : (B + 1 = pb ∨ B + 1 = B + 1) ∨ wr.heap.size ≤ B + 1)
        exact bodyPost_ret (res_cell_tmp (fn := Tryd.f11) rfl _ _ (B + 1) _ _ _ _ rfl hz Tryd.underlying29 rfl (by kernel_rfl)) rfl ⟨Ex.below L0.out hx (fun b hb => by have := ORD2.out; omega), sb, ⟨cp, by rw [HSZ.out]; rfl⟩, by have := HSB.out; have := ORD2.out; omega, SPA.out.ex hx (fun hb => by have := HSB.out; have := ORD2.out; omega)⟩

end Go.Proofs.YtgdfhgoenemanaaDoor.Plan
