/-
  PlanAt, walked. Conditions stand at each. By an AI agent; by mkpll.py.
-/
import Derived.Test.YtgdfhgoenemanaaDoorPlK
namespace Go.Proofs.YtgdfhgoenemanaaDoor.Plan
set_option linter.unusedVariables false
set_option linter.unusedSimpArgs false
open Go Go.RowKit Go.Proofs.YtgdfhgoenemanaaDoor.Base
set_option maxRecDepth 100000 in
set_option maxHeartbeats 8000000 in
theorem PlanAt_walk (v : Value) (s : Sp) (v1 : Value) (x : Int × Int) (n : Int) (hg : 0 ≤ n ∧ n ≤ 18446744073709551615) (w : World) (hv : v = s.val) (hx : v1 = .agg #[.int .i64 x.1, .int .i64 x.2]) :
    Calls Tryd.prog 4 #[v, v1, .int .u64 n] w fun e w' => e = .returned (.bool true) ∧ Below w.heap.size w w' := by
  subst hv
  subst hx
  obtain ⟨l0, l1⟩ := x
  obtain ⟨a, ha⟩ : ∃ a, atF s n = a := ⟨_, rfl⟩
  obtain ⟨b, hb⟩ : ∃ b, entryF l0 l1 n = b := ⟨_, rfl⟩
  have H1 := Lib.hid (fun W => At_any s n W hg)
  have H2 := Lib.hid (fun W => refAt_any s n W hg)
  have H3 := Lib.hid (fun W => Entry_any 0 l0 l1 0 none 0 0 n W hg)
  have H4 := Lib.hid (fun W => refEntry_any l0 l1 n W hg)
  have H5 := Lib.hid (fun W => plain_any s W)
  rw [ha] at H1 H2
  rw [hb] at H3 H4
  clear ha hb hg
  obtain ⟨ow, sq, fi, wo, de⟩ := s
  unfold Sp.val at *
  simp only at *
  have k1 : (a == a) = true := by simp
  have k2 : (b == b) = true := by simp
  go_enter Tryd.func4, Tryd.ntmps4
  go_upto_region 2 with fail
  obtain ⟨B, hB⟩ : ∃ B, w.heap.size = B := ⟨_, rfl⟩
  have z1 : (w.alloc (.cells #[.int .i64 ow, .int .i64 sq, .int .i64 fi, .int .i64 wo, .int .i64 de] 43)).heap.size = B + 1 := by simp [hB]
  have z2 : ((w.alloc (.cells #[.int .i64 ow, .int .i64 sq, .int .i64 fi, .int .i64 wo, .int .i64 de] 43)).alloc (.cells #[.int .i64 l0, .int .i64 l1] 44)).heap.size = B + 1 + 1 := by simp [hB]
  have h1 : Blk (((w.alloc (.cells #[.int .i64 ow, .int .i64 sq, .int .i64 fi, .int .i64 wo, .int .i64 de] 43)).alloc (.cells #[.int .i64 l0, .int .i64 l1] 44)).alloc (.cells #[.int .i64 0, .int .i64 l0, .int .i64 l1, .slice none 0 0, .int .i64 0] 29)) B 43 #[.int .i64 ow, .int .i64 sq, .int .i64 fi, .int .i64 wo, .int .i64 de] := hB ▸ ((Blk.new w 43 #[.int .i64 ow, .int .i64 sq, .int .i64 fi, .int .i64 wo, .int .i64 de]).alloc _).alloc _
  have h2 : Blk (((w.alloc (.cells #[.int .i64 ow, .int .i64 sq, .int .i64 fi, .int .i64 wo, .int .i64 de] 43)).alloc (.cells #[.int .i64 l0, .int .i64 l1] 44)).alloc (.cells #[.int .i64 0, .int .i64 l0, .int .i64 l1, .slice none 0 0, .int .i64 0] 29)) (B + 1) 44 #[.int .i64 l0, .int .i64 l1] := z1 ▸ (Blk.new (w.alloc (.cells #[.int .i64 ow, .int .i64 sq, .int .i64 fi, .int .i64 wo, .int .i64 de] 43)) 44 #[.int .i64 l0, .int .i64 l1]).alloc _
  have h3 : Blk (((w.alloc (.cells #[.int .i64 ow, .int .i64 sq, .int .i64 fi, .int .i64 wo, .int .i64 de] 43)).alloc (.cells #[.int .i64 l0, .int .i64 l1] 44)).alloc (.cells #[.int .i64 0, .int .i64 l0, .int .i64 l1, .slice none 0 0, .int .i64 0] 29)) (B + 1 + 1) 29 #[.int .i64 0, .int .i64 l0, .int .i64 l1, .slice none 0 0, .int .i64 0] := z2 ▸ Blk.new ((w.alloc (.cells #[.int .i64 ow, .int .i64 sq, .int .i64 fi, .int .i64 wo, .int .i64 de] 43)).alloc (.cells #[.int .i64 l0, .int .i64 l1] 44)) 29 #[.int .i64 0, .int .i64 l0, .int .i64 l1, .slice none 0 0, .int .i64 0]
  have hl : Below w.heap.size w (((w.alloc (.cells #[.int .i64 ow, .int .i64 sq, .int .i64 fi, .int .i64 wo, .int .i64 de] 43)).alloc (.cells #[.int .i64 l0, .int .i64 l1] 44)).alloc (.cells #[.int .i64 0, .int .i64 l0, .int .i64 l1, .slice none 0 0, .int .i64 0] 29)) := (((Below.refl w.heap.size w).alloc (Nat.le_refl _) _).alloc (by rw [z1, hB]; omega) _).alloc (by rw [z2, hB]; omega) _
  simp only [hB] at ⊢
  have SB := Lib.hid h1
  have LB := Lib.hid h2
  have PB := Lib.hid h3
  have L0 := Lib.hid hl
  clear h1 h2 h3 hl z1 z2 hB
  generalize (((w.alloc (.cells #[.int .i64 ow, .int .i64 sq, .int .i64 fi, .int .i64 wo, .int .i64 de] 43)).alloc (.cells #[.int .i64 l0, .int .i64 l1] 44)).alloc (.cells #[.int .i64 0, .int .i64 l0, .int .i64 l1, .slice none 0 0, .int .i64 0] 29)) = w0 at *
  have hne : Nonempty (Held (Below w0.heap.size w0)) := ⟨⟨w0, Below.refl _ _⟩⟩
  have s0 : ∀ y : Held (Below w0.heap.size w0), y.w.cell? ⟨B, 0, none⟩ = some (.int .i64 ow) := fun y => by rw [(SB.out.bl y.ok).cell]; rfl
  have s1 : ∀ y : Held (Below w0.heap.size w0), y.w.cell? ⟨B, 1, none⟩ = some (.int .i64 sq) := fun y => by rw [(SB.out.bl y.ok).cell]; rfl
  have s2 : ∀ y : Held (Below w0.heap.size w0), y.w.cell? ⟨B, 2, none⟩ = some (.int .i64 fi) := fun y => by rw [(SB.out.bl y.ok).cell]; rfl
  have s3 : ∀ y : Held (Below w0.heap.size w0), y.w.cell? ⟨B, 3, none⟩ = some (.int .i64 wo) := fun y => by rw [(SB.out.bl y.ok).cell]; rfl
  have s4 : ∀ y : Held (Below w0.heap.size w0), y.w.cell? ⟨B, 4, none⟩ = some (.int .i64 de) := fun y => by rw [(SB.out.bl y.ok).cell]; rfl
  have t0 : ∀ y : Held (Below w0.heap.size w0), y.w.cell? ⟨B + 1, 0, none⟩ = some (.int .i64 l0) := fun y => by rw [(LB.out.bl y.ok).cell]; rfl
  have t1 : ∀ y : Held (Below w0.heap.size w0), y.w.cell? ⟨B + 1, 1, none⟩ = some (.int .i64 l1) := fun y => by rw [(LB.out.bl y.ok).cell]; rfl
  have p0 : ∀ y : Held (Below w0.heap.size w0), y.w.cell? ⟨B + 1 + 1, 0, none⟩ = some (.int .i64 0) := fun y => by rw [(PB.out.bl y.ok).cell]; rfl
  have p1 : ∀ y : Held (Below w0.heap.size w0), y.w.cell? ⟨B + 1 + 1, 1, none⟩ = some (.int .i64 l0) := fun y => by rw [(PB.out.bl y.ok).cell]; rfl
  have p2 : ∀ y : Held (Below w0.heap.size w0), y.w.cell? ⟨B + 1 + 1, 2, none⟩ = some (.int .i64 l1) := fun y => by rw [(PB.out.bl y.ok).cell]; rfl
  have p3 : ∀ y : Held (Below w0.heap.size w0), y.w.cell? ⟨B + 1 + 1, 3, none⟩ = some (.slice none 0 0) := fun y => by rw [(PB.out.bl y.ok).cell]; rfl
  have p4 : ∀ y : Held (Below w0.heap.size w0), y.w.cell? ⟨B + 1 + 1, 4, none⟩ = some (.int .i64 0) := fun y => by rw [(PB.out.bl y.ok).cell]; rfl
  refine drawn_bars (S := (Below w0.heap.size w0)) [([0, 1, 3, 5], 2), ([], 4), ([], 6), ([7, 8, 9, 10, 12, 13, 14, 15, 16], 11), ([], 17), ([18, 19, 20], 21)] [22, 23] (by kernel_rfl) (by kernel_rfl) (by kernel_rfl) rfl (Below.refl _ _).drew ?_
  have E0 := Lib.hid (Below.refl w0.heap.size w0).drew
  refine Phased.go ?_
  simp only [pick, List.map_cons, List.map_nil, List.getElem?_cons_zero, List.getElem?_cons_succ, Option.getD_some]
  repeat (go_big_quiet_step (fail))
  refine wpQuiet_nil ?_
  go_wp2_with fail
  refine (H1.out _).mono ?_; rintro e w1 ⟨rfl, hl⟩
  have E1 := Lib.hid (bl E0.out hl)
  clear hl
  go_wp2_with fail
  refine behind_normal ⟨(Below w0.heap.size w0), fun W h => h, E1.out, ?_⟩
  refine Phased.go ?_
  simp only [pick, List.map_cons, List.map_nil, List.getElem?_cons_zero, List.getElem?_cons_succ, Option.getD_some]
  repeat (go_big_quiet_step (fail))
  refine wpQuiet_nil ?_
  go_wp2_with fail
  refine (H5.out _).mono ?_; rintro e w2 ⟨rfl, hl⟩
  have E2 := Lib.hid (bl E1.out hl)
  clear hl
  go_wp2_with fail
  refine behind_normal ⟨(Below w0.heap.size w0), fun W h => h, E2.out, ?_⟩
  refine Phased.go ?_
  simp only [pick, List.map_cons, List.map_nil, List.getElem?_cons_zero, List.getElem?_cons_succ, Option.getD_some]
  repeat (go_big_quiet_step (fail))
  refine wpQuiet_nil ?_
  go_wp2_with fail
  refine (H2.out _).mono ?_; rintro e w3 ⟨rfl, hl⟩
  have E3 := Lib.hid (bl E2.out hl)
  clear hl
  go_wp2_with fail
  refine behind_normal ⟨(Below w0.heap.size w0), fun W h => h, E3.out, ?_⟩
  refine Phased.go ?_
  simp only [pick, List.map_cons, List.map_nil, List.getElem?_cons_zero, List.getElem?_cons_succ, Option.getD_some]
  repeat (go_big_quiet_step (fail))
  refine wpQuiet_nil ?_
  go_wp2_with fail
  refine (H3.out _).mono ?_; rintro e w4 ⟨rfl, hl⟩
  have E4 := Lib.hid (bl E3.out hl)
  clear hl
  go_wp2_with fail
  refine behind_normal ⟨(Below w0.heap.size w0), fun W h => h, E4.out, ?_⟩
  refine Phased.go ?_
  simp only [pick, List.map_cons, List.map_nil, List.getElem?_cons_zero, List.getElem?_cons_succ, Option.getD_some]
  repeat (go_big_quiet_step (fail))
  refine wpQuiet_nil ?_
  go_wp2_with fail
  refine (H4.out _).mono ?_; rintro e w5 ⟨rfl, hl⟩
  have E5 := Lib.hid (bl E4.out hl)
  clear hl
  go_wp2_with fail
  refine behind_normal ⟨(Below w0.heap.size w0), fun W h => h, E5.out, ?_⟩
  refine Phased.go ?_
  simp only [pick, List.map_cons, List.map_nil, List.getElem?_cons_zero, List.getElem?_cons_succ, Option.getD_some]
  repeat (go_big_quiet_step (fail))
  refine wpQuiet_nil ?_
  go_wp2_with fail
  refine (awake_any _).mono ?_; rintro e w6 ⟨rfl, hl⟩
  have E6 := Lib.hid (bl E5.out hl)
  clear hl
  go_wp2_with fail
  refine behind_normal ⟨(Below w0.heap.size w0), fun W h => h, E6.out, ?_⟩
  refine Phased.end_ ?_
  have hne5 : Nonempty (Held (fun W => W = w6)) := ⟨⟨_, rfl⟩⟩
  simp only [pick, List.map_cons, List.map_nil, List.getElem?_cons_zero, List.getElem?_cons_succ, Option.getD_some]
  repeat (go_big_quiet_step (fail))
  refine wpQuiet_nil ?_
  go_wp2_with fail
  go_ret
  exact ⟨rfl, bl L0.out E6.out⟩
end Go.Proofs.YtgdfhgoenemanaaDoor.Plan
