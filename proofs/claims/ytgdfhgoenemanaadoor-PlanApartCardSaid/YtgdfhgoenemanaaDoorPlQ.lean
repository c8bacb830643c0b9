/-
  Law 6: Whose, by the iterator's contract. Conditions stand at each. By an AI agent.
-/
import Derived.Test.YtgdfhgoenemanaaDoorPlP
namespace Go.Proofs.YtgdfhgoenemanaaDoor.Plan
set_option linter.unusedVariables false
set_option linter.unusedSimpArgs false
open Go Go.RowKit Go.Shelf Go.Proofs Go.Proofs.YtgdfhgoenemanaaDoor.Base
attribute [local go_sem] Oper.semAt_some
def whoF (c : Cf) (q : Int) : Int := if q < 0 then -3 else match (upto c (c.n + 2)).find? (fun x => decide (q < x.2)) with
  | some x => x.1
  | none => -3
def NotYet (q : Int) (pre : List (Int × Int)) : Prop := ∀ y ∈ pre, ¬ (q < y.2)
def HitAt (q v : Int) (pre : List (Int × Int)) : Prop := ∃ p x, pre = p ++ [x] ∧ NotYet q p ∧ q < x.2 ∧ x.1 = v
theorem NotYet.nil (q : Int) : NotYet q [] := fun y hy => by simp at hy
theorem NotYet.next {q : Int} {pre : List (Int × Int)} {x1 x2 : Int} (h : NotYet q pre) (hx : ¬ q < x2) : NotYet q (pre ++ [(x1, x2)]) := fun y hy => (List.mem_append.1 hy).elim (h y) (fun e => by simp at e; rw [e]; exact hx)
theorem NotYet.hit {q : Int} {pre : List (Int × Int)} {x1 x2 : Int} (h : NotYet q pre) (hx : q < x2) : HitAt q x1 (pre ++ [(x1, x2)]) := ⟨pre, (x1, x2), rfl, h, hx, rfl⟩
theorem who_none {c : Cf} {q : Int} (hn : ¬ q < 0) (h : NotYet q (upto c (c.n + 2))) : whoF c q = -3 := by
  unfold whoF
  rw [if_neg hn, List.find?_eq_none.2 (fun y hy => by simpa using h y hy)]
theorem who_hit {c : Cf} {q v : Int} {k : Nat} (hn : ¬ q < 0) (hk : k ≤ c.n + 2) (h : HitAt q v (upto c k)) : whoF c q = v := by
  obtain ⟨p, x, hpx, hp, hx, rfl⟩ := h
  unfold whoF
  rw [if_neg hn]
  have e : upto c (c.n + 2) = p ++ (x :: ((List.range (c.n + 2 - k)).map fun j => spanX c (k + j))) := by
    have h1 : upto c (c.n + 2) = upto c k ++ ((List.range (c.n + 2 - k)).map fun j => spanX c (k + j)) := by
      unfold upto
      conv => lhs; rw [show c.n + 2 = k + (c.n + 2 - k) by omega, List.range_add, List.map_append, List.map_map]
      rfl
    rw [h1, hpx, List.append_assoc]
    rfl
  rw [e, List.find?_append, List.find?_eq_none.2 (fun y hy => by simpa using hp y hy)]
  simp [hx]
theorem spans_stops (F : Fence) (n : Nat) (h31 : F.fn 31) (hro : F.round = none) (hn : 1 ≤ n) (bx sb cp n₀ : Nat) (c : Cf) (OK : OkC c) (sz : Int) (w : World)
    (hB : Blk w bx 29 #[.int .i64 0, .int .i64 1, .int .i64 c.log, .slice (some ⟨sb, 0, none⟩) c.n cp, .int .i64 sz]) (hbx : bx < n₀) (hs : SpAt w sb c) (hsb : sb < n₀) (hn0 : n₀ ≤ w.heap.size) :
    SeqStopsK F n Tryd.prog 31 #[.pointer (some ⟨bx, 0, none⟩)] encs (Below n₀) (fun xs => xs = upto c (c.n + 2)) (fun pre => ∃ k, 1 ≤ k ∧ k ≤ c.n + 2 ∧ pre = upto c k) (c.n + 2) w :=
  fun l J Jx W hW hJ hJx hY h0 => spans1_in F n h31 hro hn l bx sb cp n₀ _ c OK sz J Jx hJ hJx hY W (hB.bl hW) hbx (hs.bl hW) hsb (Nat.le_trans hn0 hW.size) h0
theorem spans_any (rg lo ln sz : Int) (A : Option Addr) (n cp : Nat) (w : World) : Calls Tryd.prog 24 #[.agg #[.int .i64 rg, .int .i64 lo, .int .i64 ln, .slice A n cp, .int .i64 sz]] w fun e w' =>
    e = .returned (.func (.func 31) #[] #[.pointer (some ⟨w.heap.size, 0, none⟩)]) ∧ w' = w.alloc (.cells #[.int .i64 rg, .int .i64 lo, .int .i64 ln, .slice A n cp, .int .i64 sz] 29) := by
  go_enter Tryd.func24, Tryd.ntmps24
  go_wp2_with fail
  go_ret
  exact ⟨rfl, rfl⟩
set_option maxRecDepth 100000 in
set_option maxHeartbeats 8000000 in
theorem Whose_any (sb cp : Nat) (c : Cf) (OK : OkC c) (sz q : Int) (w : World) (hs : SpAt w sb c) :
    Calls Tryd.prog 18 #[.agg #[.int .i64 0, .int .i64 1, .int .i64 c.log, .slice (some ⟨sb, 0, none⟩) c.n cp, .int .i64 sz], .int .i64 q] w fun e w' => e = .returned (.int .i64 (whoF c q)) ∧ Below w.heap.size w w' := by
  by_cases hneg : q < 0
  · have kd : decide (q < 0) = true := decide_eq_true hneg
    have HF := Lib.hid (show whoF c q = -3 from if_pos hneg)
    clear hneg
    have LB := Lib.hid ((((Below.refl w.heap.size w).alloc (Nat.le_refl _) (.cells #[.int .i64 0, .int .i64 1, .int .i64 c.log, .slice (some ⟨sb, 0, none⟩) c.n cp, .int .i64 sz] 29)).alloc (by simp) (.cells #[.int .i64 q] 3)).alloc (by simp; omega) (.cells #[.int .i64 0] 3))
    go_enter Tryd.func18, Tryd.ntmps18
    go_wp2_with fail
    have hc : (((w.alloc (.cells #[.int .i64 0, .int .i64 1, .int .i64 c.log, .slice (some ⟨sb, 0, none⟩) c.n cp, .int .i64 sz] 29)).alloc (.cells #[.int .i64 q] 3)).alloc (.cells #[.int .i64 (-3)] 3)).cell? ⟨w.heap.size + 1 + 1, 0, none⟩ = some (.int .i64 (-3)) := by
      have h9 := (Blk.new ((w.alloc (.cells #[.int .i64 0, .int .i64 1, .int .i64 c.log, .slice (some ⟨sb, 0, none⟩) c.n cp, .int .i64 sz] 29)).alloc (.cells #[.int .i64 q] 3)) 3 #[.int .i64 (-3)]).cell 0
      simp only [World.size_alloc] at h9
      exact h9
    refine bodyPost_ret (v := .int .i64 (-3)) ?_ rfl ⟨by rw [HF.out], ?_⟩
    · simp [results, Tryd.f18, go_sem, hc]
    · exact (((Below.refl w.heap.size w).alloc (Nat.le_refl _) _).alloc (by simp) _).alloc (by simp; omega) _
  · refine (callsIn_wide (n := 5)).1 ?_
    have kd : decide (q < 0) = false := decide_eq_false hneg
    have HNEG := Lib.hid hneg
    clear hneg
    refine callsIn_of_wp_marks Tryd.func18 rfl trivial ?_ rfl
    simp only [Tryd.ntmps18, List.size_toArray, List.length_cons, List.length_nil, Nat.reduceAdd, Nat.reduceSub, Array.replicate_succ, Array.replicate_zero, List.push_toArray, List.append_toArray, List.nil_append, List.cons_append]
    gi_wp2
    refine ⟨trivial, (callsIn_wide.2 (spans_any _ _ _ _ _ _ _ _)).mono ?_⟩
    rintro e w' ⟨rfl, rfl⟩
    gi_wp2
    have hB0 : Below w.heap.size w ((((w.alloc (.cells #[.int .i64 0, .int .i64 1, .int .i64 c.log, .slice (some ⟨sb, 0, none⟩) c.n cp, .int .i64 sz] 29)).alloc (.cells #[.int .i64 q] 3)).alloc (.cells #[.int .i64 0] 3)).alloc (.cells #[.int .i64 0, .int .i64 1, .int .i64 c.log, .slice (some ⟨sb, 0, none⟩) c.n cp, .int .i64 sz] 29)) := (((((Below.refl w.heap.size w).alloc (Nat.le_refl _) _).alloc (by simp) _).alloc (by simp; omega) _).alloc (by simp; omega) _)
    have hq : ((((w.alloc (.cells #[.int .i64 0, .int .i64 1, .int .i64 c.log, .slice (some ⟨sb, 0, none⟩) c.n cp, .int .i64 sz] 29)).alloc (.cells #[.int .i64 q] 3)).alloc (.cells #[.int .i64 0] 3)).alloc (.cells #[.int .i64 0, .int .i64 1, .int .i64 c.log, .slice (some ⟨sb, 0, none⟩) c.n cp, .int .i64 sz] 29)).cell? ⟨w.heap.size + 1, 0, none⟩ = some (.int .i64 q) := by
      have h9 := (((Blk.new (w.alloc (.cells #[.int .i64 0, .int .i64 1, .int .i64 c.log, .slice (some ⟨sb, 0, none⟩) c.n cp, .int .i64 sz] 29)) 3 #[.int .i64 q]).alloc (.cells #[.int .i64 0] 3)).alloc (.cells #[.int .i64 0, .int .i64 1, .int .i64 c.log, .slice (some ⟨sb, 0, none⟩) c.n cp, .int .i64 sz] 29)).cell 0
      simp only [World.size_alloc] at h9
      exact h9
    have hrb := ((Blk.new ((w.alloc (.cells #[.int .i64 0, .int .i64 1, .int .i64 c.log, .slice (some ⟨sb, 0, none⟩) c.n cp, .int .i64 sz] 29)).alloc (.cells #[.int .i64 q] 3)) 3 #[.int .i64 0]).alloc (.cells #[.int .i64 0, .int .i64 1, .int .i64 c.log, .slice (some ⟨sb, 0, none⟩) c.n cp, .int .i64 sz] 29))
    have hpb := Blk.new (((w.alloc (.cells #[.int .i64 0, .int .i64 1, .int .i64 c.log, .slice (some ⟨sb, 0, none⟩) c.n cp, .int .i64 sz] 29)).alloc (.cells #[.int .i64 q] 3)).alloc (.cells #[.int .i64 0] 3)) 29 #[.int .i64 0, .int .i64 1, .int .i64 c.log, .slice (some ⟨sb, 0, none⟩) c.n cp, .int .i64 sz]
    simp only [World.size_alloc] at hrb hpb
    have hr := hrb.cell 0
    have hrf := hrb.frozen 0
    simp only [List.getElem?_toArray, List.getElem?_cons_zero] at hr
    have hs4 := hs.bl hB0
    have hz : ((((w.alloc (.cells #[.int .i64 0, .int .i64 1, .int .i64 c.log, .slice (some ⟨sb, 0, none⟩) c.n cp, .int .i64 sz] 29)).alloc (.cells #[.int .i64 q] 3)).alloc (.cells #[.int .i64 0] 3)).alloc (.cells #[.int .i64 0, .int .i64 1, .int .i64 c.log, .slice (some ⟨sb, 0, none⟩) c.n cp, .int .i64 sz] 29)).heap.size = w.heap.size + 1 + 1 + 1 + 1 := by simp
    refine wpIn_rangeFunc_ownF rfl (by omega) (gf := 31) (lb := #[.pointer (some ⟨w.heap.size + 1 + 1 + 1, 0, none⟩)]) rfl trivial (enters_of Tryd.func31 (by kernel_rfl) rfl)
      (spans_stops Fence.wide (5 - 1) trivial rfl (by omega) (w.heap.size + 1 + 1 + 1) sb cp (w.heap.size + 1 + 1 + 1 + 1) c OK sz _ hpb (by omega) hs4 (by have := hs.1; omega) (by rw [hz]; omega)) belowK_t (belowK_b (by rw [hz]; omega)) (Below.refl _ _) (fun _ => rfl)
      (fun pre W => (NotYet q pre ∧ W.cell? ⟨w.heap.size + 1, 0, none⟩ = some (.int .i64 q) ∧ W.cell? ⟨w.heap.size + 1 + 1, 0, none⟩ = some (.int .i64 0) ∧ W.frozen? ⟨w.heap.size + 1 + 1, 0, none⟩ = false) ∧ Below w.heap.size w W)
      (fun jc pre W => (jc = .ret ∧ ∃ v : Int, HitAt q v pre ∧ W.cell? ⟨w.heap.size + 1 + 1, 0, none⟩ = some (.int .i64 v)) ∧ Below w.heap.size w W)
      (OwnFrom.and (Own.from (fun s A B row hs hg hr => ⟨hs.1, cell_kept hs.2.1 hg hr, cell_kept hs.2.2.1 hg hr, (frozen_kept hs.2.2.1 hg hr).trans hs.2.2.2⟩) _) (ownFrom_below (Nat.le_refl _) (by rw [hz]; omega)))
      (fun jc => OwnFrom.and (Own.from (fun s A B row hs hg hr => by
        obtain ⟨e, v, h1, h4⟩ := hs
        exact ⟨e, v, h1, cell_kept h4 hg hr⟩) _) (ownFrom_below (Nat.le_refl _) (by rw [hz]; omega)))
      ⟨⟨NotYet.nil q, hq, hr, hrf⟩, hB0⟩
      (fun x => { tmps := #[.agg #[.int .i64 0, .int .i64 1, .int .i64 c.log, .slice (some ⟨sb, 0, none⟩) c.n cp, .int .i64 sz], .int .i64 q, .pointer (some ⟨w.heap.size, 0, none⟩), .pointer (some ⟨w.heap.size + 1, 0, none⟩), .pointer (some ⟨w.heap.size + 1 + 1, 0, none⟩), .int .i64 x.1, .int .i64 x.2, .int .i64 q, .bool false, .agg #[.int .i64 0, .int .i64 1, .int .i64 c.log, .slice (some ⟨sb, 0, none⟩) c.n cp, .int .i64 sz], .func (.func 31) #[] #[.pointer (some ⟨w.heap.size + 1 + 1 + 1, 0, none⟩)], .int .i64 x.1, .int .i64 x.2, undef, undef, undef, undef], defers := [] }) ?assign ?body ?done ?stop
    case assign =>
      intro l x W K hK
      gi_wp2
      exact hK
    case body =>
      rintro l pre x W ⟨⟨hp, hcq, hcr, hfr⟩, hB⟩ _
      obtain ⟨x1, x2⟩ := x
      by_cases hx : q < x2
      · have kx : decide (q < x2) = true := decide_eq_true hx
        have HP := Lib.hid hp
        have HX := Lib.hid hx
        clear hp hx
        gi_wp2
        exact ⟨KeepsOthers.setCell _ _ _, ⟨rfl, x1, HP.out.hit HX.out, World.cell?_setCell_same' _ _ _ (by rw [hcr]; rfl)⟩, hB.setCell (p := ⟨w.heap.size + 1 + 1, 0, none⟩) (by simp; omega) _⟩
      · have kx : decide (q < x2) = false := decide_eq_false hx
        have HP := Lib.hid hp
        have HX := Lib.hid hx
        clear hp hx
        gi_wp2
        exact ⟨KeepsOthers.refl _, Below.refl _ _, ⟨HP.out.next (by have := HX.out; omega), hcq, hcr, hfr⟩, hB⟩
    case done =>
      rintro D ys W hD rfl ⟨⟨hne, _, hcr, hfr⟩, hB⟩ hK
      have HF := Lib.hid (who_none (by have := HNEG.out; omega) hne)
      clear hne
      gi_wp2
      have hK' := (KeepsOthers.setCell W ⟨w.heap.size + 1 + 1, 0, none⟩ (.int .i64 (-3))).same D _ hK rfl
      refine ⟨by simp, .inl ⟨_, _, rfl, run_takeDeferred hK', ?_⟩⟩
      have hc5 := cell_kept (World.cell?_setCell_same' W ⟨w.heap.size + 1 + 1, 0, none⟩ (.int .i64 (-3)) (by rw [hcr]; rfl)) (grownBy_putObj' _ D (.deferred none)) (fun r e => by cases e; exact ⟨_, hK', rfl⟩)
      refine ⟨.int .i64 (-3), ?_, by rw [HF.out], (hB.setCell (p := ⟨w.heap.size + 1 + 1, 0, none⟩) (by simp; omega) _).trans (belowK_b (w := w) (Nat.le_refl _) _ D _ _ (by rw [hz] at hD; omega) hK' rfl rfl)⟩
      simp [results, Tryd.f18, go_sem, hc5]
    case stop =>
      rintro D jc pre W hD ⟨k, hk1, hk2, rfl⟩ ⟨⟨rfl, v, hh, hcr⟩, hB⟩ hK
      have HF := Lib.hid (who_hit (by have := HNEG.out; omega) hk2 hh)
      clear hh hk1 hk2
      gi_wp2
      refine ⟨by simp, .inl ⟨_, _, rfl, run_takeDeferred hK, ?_⟩⟩
      have hc5 := cell_kept hcr (grownBy_putObj' _ D (.deferred none)) (fun r e => by cases e; exact ⟨_, hK, rfl⟩)
      refine ⟨.int .i64 v, ?_, by rw [HF.out], hB.trans (belowK_b (w := w) (Nat.le_refl _) W D _ _ (by rw [hz] at hD; omega) hK rfl rfl)⟩
      simp [results, Tryd.f18, go_sem, hc5]
end Go.Proofs.YtgdfhgoenemanaaDoor.Plan
