/-
  Package queue's Count and Take on any cursor. Conditions stand at each. By an AI agent.
-/
import Derived.Test.YthcaagkgddeabaaSee
namespace Go.Proofs.Ythcaagkgddeabaa.Queue
set_option linter.unusedVariables false
set_option linter.unusedSimpArgs false
open Go Go.RowKit Go.Proofs.Ythcaagkgddeabaa.Base

theorem box_below {w w1 : World} {o : Obj} (hb : Below (w.alloc o).heap.size (w.alloc o) w1) : Below w.heap.size w w1 := ((Below.refl _ _).alloc (Nat.le_refl _) _).trans (hb.mono (by simp))



theorem results_mid {fn : Func} {p u v : Tmp} {ty : TypeId} (h : fn.results = #[.tmp v, .cell p ty, .tmp u]) (tmps : Array Value) (P : Program) (w : World) :
    (results fn tmps).run P w =
      ((asAddr (tmps.getD p undef)).run P w).andThen fun a w₁ => ((loadVar ty a).run P w₁).andThen fun x w₂ => .ok (.tuple #[tmps.getD v undef, x, tmps.getD u undef]) w₂ := by
  simp only [results, h]
  simp [Sem.run_bind, Result.andThen]

/-- two cursors' blocks, and below all is as it was -/
structure Pair (w : World) (b1 : Nat) (c1 : Array Value) (b2 : Nat) (c2 : Array Value) (W : World) : Prop where
  box : Blk W b1 44 c1
  res : Blk W b2 44 c2
  below : Below w.heap.size w W

set_option maxRecDepth 100000 in
set_option maxHeartbeats 4000000 in
theorem Take_any (c : Cur) (g : Int) (hc : c.Ok) (hg : 0 ≤ g ∧ g ≤ 18446744073709551615) (w : World) :
    Calls Try.prog 64 #[c.val, .int .u64 g] w fun e w' => e = .returned (.tuple #[.int .u64 (takeX c g), (takeC c g).val, .int .i64 (takeE c g)]) ∧ Below w.heap.size w w' := by
  have HS := Lib.hid (See_any c g hc hg)
  have hok := seeC_ok (g := g) hc hg.1
  by_cases h0 : mayE c g = 0
  · obtain ⟨hr, hi⟩ := seeC_right h0
    have hw := seen_waits (g := g) hr hc hg.1
    have HS2 := HS.out
    rw [h0] at HS2
    have e1 : seeC c g = seen c g := by unfold seeC; rw [if_pos h0]
    rw [e1] at HS2 hok
    unfold takeX takeC
    have e2 : takeE c g = if g < (seen c g).next then 14 else 0 := by unfold takeE; rw [if_pos h0]
    rw [e2]
    clear e2
    generalize seen c g = d at *
    have HS3 := Lib.hid HS2
    clear HS2 HS e1 h0
    obtain ⟨hr1, hr2⟩ := hr
    obtain ⟨⟨n0, n1⟩, _, ⟨g0, g1⟩, _⟩ := hok
    unfold Is at hi
    obtain ⟨hg0, hg1⟩ := hg
    obtain ⟨dn, dc, dg, dl⟩ := d
    obtain ⟨cn, cc, cg, cl⟩ := c
    simp only at n0 n1 hr1 hr2 g0 g1
    simp only
    clear hw hc
    unfold Cur.val at *
    by_cases hlt : g < dn
    · rw [if_pos hlt, if_neg (by decide), if_neg (by decide)]
      have k2 : decide (g < dn) = true := decide_eq_true hlt
      go_enter Try.func64, Try.ntmps64
      go_wp2_with fail
      refine (HS3.out _).mono ?_; rintro e w1 ⟨rfl, hb⟩
      have R1 : Blk w1 (w.heap.size + 1) 44 #[.int .u64 0, .int .i64 0, .int .u64 0, .int .u64 0] := by
        have := Blk.new (w.alloc (.cells #[.int .u64 cn, .int .i64 cc, .int .u64 cg, .int .u64 cl] 44)) 44 #[.int .u64 0, .int .i64 0, .int .u64 0, .int .u64 0]
        rw [World.size_alloc] at this
        exact this.bl hb
      have L1 : Below w.heap.size w w1 := box_below (hb := (Below.refl _ _).alloc (Nat.le_refl _) _ |>.trans (hb.mono (by simp)))
      clear hb
      have hlt1 := R1.lt
      have hne1 : ¬ (w.heap.size + 1 = w1.heap.size) := by omega
      have hsz1 : w.heap.size ≤ w1.heap.size := by omega
      have q0 := R1.cell 0
      have q1 := R1.cell 1
      have q2 := R1.cell 2
      have q3 := R1.cell 3
      have u0 := R1.frozen 0
      have u1 := R1.frozen 1
      have u2 := R1.frozen 2
      have u3 := R1.frozen 3
      simp only [List.getElem?_toArray, List.getElem?_cons_succ, List.getElem?_cons_zero] at q0 q1 q2 q3
      have R2 := Lib.hid R1
      clear R1
      go_wp2_with fail
      trace "EARLY"
      (try simp only [Exit.inBlock, Exit.then])
      refine bodyPost_ret (v := .tuple #[.int .u64 0, Cur.zero.val, .int .i64 14]) ?_ rfl ⟨rfl, ?_⟩
      · rw [results_mid rfl]; go_simp; rfl
      · exact (((((L1.setCell (p := ⟨w.heap.size + 1, 0, none⟩) (Nat.le_succ _) _).setCell (p := ⟨w.heap.size + 1, 1, none⟩) (Nat.le_succ _) _).setCell (p := ⟨w.heap.size + 1, 2, none⟩) (Nat.le_succ _) _).setCell (p := ⟨w.heap.size + 1, 3, none⟩) (Nat.le_succ _) _).alloc (by simp; omega) _)
    · rw [if_neg hlt, if_pos rfl, if_pos rfl]
      have k2 : decide (g < dn) = false := decide_eq_false hlt
      go_enter Try.func64, Try.ntmps64
      go_wp2_with fail
      refine (HS3.out _).mono ?_; rintro e w1 ⟨rfl, hb⟩
      have R1 : Blk w1 (w.heap.size + 1) 44 #[.int .u64 0, .int .i64 0, .int .u64 0, .int .u64 0] := by
        have := Blk.new (w.alloc (.cells #[.int .u64 cn, .int .i64 cc, .int .u64 cg, .int .u64 cl] 44)) 44 #[.int .u64 0, .int .i64 0, .int .u64 0, .int .u64 0]
        rw [World.size_alloc] at this
        exact this.bl hb
      have L1 : Below w.heap.size w w1 := box_below (hb := (Below.refl _ _).alloc (Nat.le_refl _) _ |>.trans (hb.mono (by simp)))
      clear hb
      have hlt1 := R1.lt
      have hne1 : ¬ (w.heap.size + 1 = w1.heap.size) := by omega
      have hsz1 : w.heap.size ≤ w1.heap.size := by omega
      have q0 := R1.cell 0
      have q1 := R1.cell 1
      have q2 := R1.cell 2
      have q3 := R1.cell 3
      have u0 := R1.frozen 0
      have u1 := R1.frozen 1
      have u2 := R1.frozen 2
      have u3 := R1.frozen 3
      simp only [List.getElem?_toArray, List.getElem?_cons_succ, List.getElem?_cons_zero] at q0 q1 q2 q3
      have R2 := Lib.hid R1
      clear R1
      go_wp2_with fail
      have hst : Pair w w1.heap.size #[.int .u64 (dn + 1), .int .i64 dc, .int .u64 (IntKind.u64.wrap (dg + 1)), .int .u64 dl] (w.heap.size + 1) #[.int .u64 0, .int .i64 0, .int .u64 0, .int .u64 0] (w1.alloc (.cells #[.int .u64 (dn + 1), .int .i64 dc, .int .u64 (IntKind.u64.wrap (dg + 1)), .int .u64 dl] 44)).drew :=
        ⟨Blk.new w1 _ _, R2.out.alloc _, (L1.alloc hsz1 _).drew⟩
      generalize w1.heap.size = b1 at *
      have hnonempty : Nonempty (Held (Pair w b1 #[.int .u64 (dn + 1), .int .i64 dc, .int .u64 (IntKind.u64.wrap (dg + 1)), .int .u64 dl] (w.heap.size + 1) #[.int .u64 0, .int .i64 0, .int .u64 0, .int .u64 0])) := ⟨⟨_, hst⟩⟩
      have m0 : ∀ x : Held (Pair w b1 #[.int .u64 (dn + 1), .int .i64 dc, .int .u64 (IntKind.u64.wrap (dg + 1)), .int .u64 dl] (w.heap.size + 1) #[.int .u64 0, .int .i64 0, .int .u64 0, .int .u64 0]), x.w.cell? ⟨b1, 0, none⟩ = some (.int .u64 (dn + 1)) := fun x => x.ok.box.cell 0
      have m1 : ∀ x : Held (Pair w b1 #[.int .u64 (dn + 1), .int .i64 dc, .int .u64 (IntKind.u64.wrap (dg + 1)), .int .u64 dl] (w.heap.size + 1) #[.int .u64 0, .int .i64 0, .int .u64 0, .int .u64 0]), x.w.cell? ⟨b1, 1, none⟩ = some (.int .i64 dc) := fun x => x.ok.box.cell 1
      have m2 : ∀ x : Held (Pair w b1 #[.int .u64 (dn + 1), .int .i64 dc, .int .u64 (IntKind.u64.wrap (dg + 1)), .int .u64 dl] (w.heap.size + 1) #[.int .u64 0, .int .i64 0, .int .u64 0, .int .u64 0]), x.w.cell? ⟨b1, 2, none⟩ = some (.int .u64 (IntKind.u64.wrap (dg + 1))) := fun x => x.ok.box.cell 2
      have m3 : ∀ x : Held (Pair w b1 #[.int .u64 (dn + 1), .int .i64 dc, .int .u64 (IntKind.u64.wrap (dg + 1)), .int .u64 dl] (w.heap.size + 1) #[.int .u64 0, .int .i64 0, .int .u64 0, .int .u64 0]), x.w.cell? ⟨b1, 3, none⟩ = some (.int .u64 dl) := fun x => x.ok.box.cell 3
      refine drawn_head (S := Pair w b1 #[.int .u64 (dn + 1), .int .i64 dc, .int .u64 (IntKind.u64.wrap (dg + 1)), .int .u64 dl] (w.heap.size + 1) #[.int .u64 0, .int .i64 0, .int .u64 0, .int .u64 0]) 3 _ _ (by kernel_rfl) (by kernel_rfl) rfl hst ?_
      simp only [List.take_succ_cons, List.take_zero]
      repeat (go_big_quiet_step (fail))
      refine wpQuiet_nil ?_
      intro w3 hw'; obtain ⟨⟨w3', S3⟩, hw''⟩ := hw'; dsimp only at hw''; subst hw''
      clear m0 m1 m2 m3 hnonempty hst q0 q1 q2 q3 u0 u1 u2 u3 R2 L1 hne1
      have q0 := S3.res.cell 0
      have q1 := S3.res.cell 1
      have q2 := S3.res.cell 2
      have q3 := S3.res.cell 3
      have u0 := S3.res.frozen 0
      have u1 := S3.res.frozen 1
      have u2 := S3.res.frozen 2
      have u3 := S3.res.frozen 3
      simp only [List.getElem?_toArray, List.getElem?_cons_succ, List.getElem?_cons_zero] at q0 q1 q2 q3
      have L3 := Lib.hid S3.below
      clear S3
      trace "LATE"
      go_wp2_with fail
      refine behind_normal ?_
      repeat still_step
      refine wpStill_nil ?_
      go_wp2_with fail
      (try simp only [Exit.inBlock, Exit.then])
      refine bodyPost_ret (v := .tuple #[.int .u64 dn, .agg #[.int .u64 (dn + 1), .int .i64 dc, .int .u64 (IntKind.u64.wrap (dg + 1)), .int .u64 dl], .int .i64 0]) ?_ rfl ⟨rfl, ?_⟩
      · rw [results_mid rfl]; go_simp
      · exact (((L3.out.setCell (p := ⟨w.heap.size + 1, 0, none⟩) (Nat.le_succ _) _).setCell (p := ⟨w.heap.size + 1, 1, none⟩) (Nat.le_succ _) _).setCell (p := ⟨w.heap.size + 1, 2, none⟩) (Nat.le_succ _) _).setCell (p := ⟨w.heap.size + 1, 3, none⟩) (Nat.le_succ _) _
  · have e2 : takeE c g = mayE c g := by unfold takeE; rw [if_neg h0]
    unfold takeX takeC
    rw [e2, if_neg h0, if_neg h0]
    clear e2
    have k1 : (mayE c g != 0) = true := by simpa using h0
    generalize mayE c g = er at *
    generalize seeC c g = d at *
    obtain ⟨dn, dc, dg, dl⟩ := d
    obtain ⟨cn, cc, cg, cl⟩ := c
    have HS3 := HS
    clear HS hok hc hg
    unfold Cur.val at *
    go_enter Try.func64, Try.ntmps64
    go_wp2_with fail
    refine (HS3.out _).mono ?_; rintro e w1 ⟨rfl, hb⟩
    have R1 : Blk w1 (w.heap.size + 1) 44 #[.int .u64 0, .int .i64 0, .int .u64 0, .int .u64 0] := by
      have := Blk.new (w.alloc (.cells #[.int .u64 cn, .int .i64 cc, .int .u64 cg, .int .u64 cl] 44)) 44 #[.int .u64 0, .int .i64 0, .int .u64 0, .int .u64 0]
      rw [World.size_alloc] at this
      exact this.bl hb
    have L1 : Below w.heap.size w w1 := box_below (hb := (Below.refl _ _).alloc (Nat.le_refl _) _ |>.trans (hb.mono (by simp)))
    clear hb
    have hlt1 := R1.lt
    have hne1 : ¬ (w.heap.size + 1 = w1.heap.size) := by omega
    have hsz1 : w.heap.size ≤ w1.heap.size := by omega
    have q0 := R1.cell 0
    have q1 := R1.cell 1
    have q2 := R1.cell 2
    have q3 := R1.cell 3
    have u0 := R1.frozen 0
    have u1 := R1.frozen 1
    have u2 := R1.frozen 2
    have u3 := R1.frozen 3
    simp only [List.getElem?_toArray, List.getElem?_cons_succ, List.getElem?_cons_zero] at q0 q1 q2 q3
    have R2 := Lib.hid R1
    clear R1
    go_wp2_with fail
    trace "NO"
    (try simp only [Exit.inBlock, Exit.then])
    refine bodyPost_ret (v := .tuple #[.int .u64 0, Cur.zero.val, .int .i64 er]) ?_ rfl ⟨rfl, ?_⟩
    · rw [results_mid rfl]; go_simp; rfl
    · exact (((((L1.setCell (p := ⟨w.heap.size + 1, 0, none⟩) (Nat.le_succ _) _).setCell (p := ⟨w.heap.size + 1, 1, none⟩) (Nat.le_succ _) _).setCell (p := ⟨w.heap.size + 1, 2, none⟩) (Nat.le_succ _) _).setCell (p := ⟨w.heap.size + 1, 3, none⟩) (Nat.le_succ _) _).alloc (by simp; omega) _)
end Go.Proofs.Ythcaagkgddeabaa.Queue
