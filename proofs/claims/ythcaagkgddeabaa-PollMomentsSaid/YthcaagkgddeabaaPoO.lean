/-
  Law 12: spots in a row that came in; a place of a spot that may not be; two spots compared. Conditions stand at each. By an AI agent.
-/
import Derived.Test.YthcaagkgddeabaaPoF
import Derived.Laws.StructEq
namespace Go.Proofs.Ythcaagkgddeabaa.Bank
set_option linter.unusedVariables false
set_option linter.unusedSimpArgs false
open Go Go.RowKit Go.Proofs.Ythcaagkgddeabaa.Base Go.Deep Go.ChangeShapes Go.WideShapes Go.Proofs.Ythcaagkgddeabaa.Queue
structure Sps (w : World) (v : Value) (n : Nat) (l : Nat → Spot) : Prop where
  form : ∃ A c, v = .slice A n c ∧ n ≤ maxLen ∧ (0 < n → ∃ b o, A = some ⟨b, o, none⟩ ∧ b < w.heap.size ∧ ∀ i : Nat, i < n →
    w.cell? ⟨b, o + i * 5, none⟩ = some (.int .i64 (l i).owners) ∧ w.cell? ⟨b, o + i * 5 + 1, none⟩ = some (.int .i64 (l i).seq) ∧ w.cell? ⟨b, o + i * 5 + 2, none⟩ = some (.int .i64 (l i).first) ∧ w.cell? ⟨b, o + i * 5 + 3, none⟩ = some (.int .i64 (l i).words) ∧ w.cell? ⟨b, o + i * 5 + 4, none⟩ = some (.int .i64 (l i).depth))
theorem Sps.below {w w' : World} {v : Value} {n : Nat} {l : Nat → Spot} (h : Sps w v n l) (hb : Below w.heap.size w w') : Sps w' v n l := by
  obtain ⟨A, c, rfl, hl, hg⟩ := h.form
  refine ⟨⟨A, c, rfl, hl, fun hn => ?_⟩⟩
  obtain ⟨b, o, rfl, hlt, hc⟩ := hg hn
  refine ⟨b, o, rfl, Nat.lt_of_lt_of_le hlt hb.size, fun i hi => ?_⟩
  obtain ⟨c0, c1, c2, c3, c4⟩ := hc i hi
  exact ⟨(hb.cell (p := ⟨b, _, none⟩) hlt).trans c0, (hb.cell (p := ⟨b, _, none⟩) hlt).trans c1, (hb.cell (p := ⟨b, _, none⟩) hlt).trans c2, (hb.cell (p := ⟨b, _, none⟩) hlt).trans c3, (hb.cell (p := ⟨b, _, none⟩) hlt).trans c4⟩
theorem subs_below {w w' : World} {v : Value} {n : Nat} {l : Nat → Queue.Sub} (h : Queue.Subs w v n l) (hb : Below w.heap.size w w') : Queue.Subs w' v n l := by
  obtain ⟨A, c, rfl, hl, hg⟩ := h.form
  refine ⟨⟨A, c, rfl, hl, fun hn => ?_⟩, h.ok⟩
  obtain ⟨b, o, rfl, hlt, hc⟩ := hg hn
  refine ⟨b, o, rfl, Nat.lt_of_lt_of_le hlt hb.size, fun i hi => ?_⟩
  obtain ⟨c0, c1, c2, c3, c4, c5⟩ := hc i hi
  exact ⟨(hb.cell (p := ⟨b, _, none⟩) hlt).trans c0, (hb.cell (p := ⟨b, _, none⟩) hlt).trans c1, (hb.cell (p := ⟨b, _, none⟩) hlt).trans c2, (hb.cell (p := ⟨b, _, none⟩) hlt).trans c3, (hb.cell (p := ⟨b, _, none⟩) hlt).trans c4, (hb.cell (p := ⟨b, _, none⟩) hlt).trans c5⟩
instance : DecidableEq Spot := fun a b => by
  obtain ⟨a1, a2, a3, a4, a5⟩ := a
  obtain ⟨b1, b2, b3, b4, b5⟩ := b
  exact decidable_of_iff (a1 = b1 ∧ a2 = b2 ∧ a3 = b3 ∧ a4 = b4 ∧ a5 = b5) (by simp)
theorem At_out (s : Spot) (gen : Int) (w : World) (h : ¬ s.AtOk) :
    Calls Try.prog 26 #[s.val, .int .u64 gen] w fun e w' => e = .returned (.int .i64 (-1)) ∧ Below w.heap.size w w' := by
  obtain ⟨ow, sq, fi, wo, de⟩ := s
  unfold Spot.val
  simp only
  have L0 := Lib.hid ((Below.refl w.heap.size w).alloc (Nat.le_refl _) (.cells #[.int .i64 ow, .int .i64 sq, .int .i64 fi, .int .i64 wo, .int .i64 de] 48))
  have HH := Lib.hid (show ¬ ((1 ≤ wo ∧ wo ≤ 64) ∧ (1 ≤ de ∧ de ≤ 16) ∧ 0 ≤ fi ∧ fi ≤ 1048576) from h)
  clear h
  generalize hk0 : decide ((1 : Int) ≤ wo ∧ wo ≤ 64) = k0
  generalize hk1 : decide ((1 : Int) ≤ de ∧ de ≤ 16) = k1
  generalize hk2 : decide ((0 : Int) ≤ fi ∧ fi ≤ 1048576) = k2
  have K0 := Lib.hid hk0
  have K1 := Lib.hid hk1
  have K2 := Lib.hid hk2
  clear hk0 hk1 hk2
  go_enter Try.func26, Try.ntmps26
  go_wp2_with fail
  refine (within_any _ _ _ _).mono ?_; rintro e w' ⟨rfl, rfl⟩
  rw [K0.out]
  cases k0
  · go_wp2_with fail
    go_ret
    exact ⟨rfl, L0.out⟩
  go_wp2_with fail
  refine (within_any _ _ _ _).mono ?_; rintro e w' ⟨rfl, rfl⟩
  rw [K1.out]
  cases k1
  · go_wp2_with fail
    go_ret
    exact ⟨rfl, L0.out⟩
  go_wp2_with fail
  refine (within_any _ _ _ _).mono ?_; rintro e w' ⟨rfl, rfl⟩
  rw [K2.out]
  cases k2
  · go_wp2_with fail
    go_ret
    exact ⟨rfl, L0.out⟩
  exact absurd ⟨of_decide_eq_true K0.out, of_decide_eq_true K1.out, of_decide_eq_true K2.out⟩ HH.out
theorem spot_fields : (Try.prog.fieldsOf 48).toList.map (fun f => (f.name == "_", f.type, f.offset)) = [(false, 3, 0), (false, 3, 1), (false, 3, 2), (false, 3, 3), (false, 3, 4)] := by
  kernel_rfl
theorem spot_under : Try.prog.underlying 48 = some (.struct (Try.prog.fieldsOf 48)) := by kernel_rfl
theorem spot_held : Try.prog.stoodInHeld 48 = false := by kernel_rfl
theorem part_spot (xs : Array Value) (i : Nat) (z : Int) (w : World) (h : xs[i]? = some (.int .i64 z)) : (part 3 xs i).run Try.prog w = .ok (.int .i64 z) w := by
  simp [part, h]
theorem spot_neq (a b : Spot) (w : World) : (Go.binOp .neq 48 a.val b.val).run Try.prog w = .ok (.bool (!decide (a = b))) w := by
  obtain ⟨a1, a2, a3, a4, a5⟩ := a
  obtain ⟨b1, b2, b3, b4, b5⟩ := b
  unfold Spot.val
  rw [run_neq_struct, run_equalIn_struct w 9999 _ _ _ spot_under spot_held]
  have hf := spot_fields
  generalize (Try.prog.fieldsOf 48).toList = L at hf
  rcases L with _ | ⟨f1, _ | ⟨f2, _ | ⟨f3, _ | ⟨f4, _ | ⟨f5, _ | ⟨f6, L⟩⟩⟩⟩⟩⟩ <;> simp only [List.map_nil, List.map_cons, List.cons.injEq, Prod.mk.injEq, reduceCtorEq, and_false, and_true] at hf
  obtain ⟨⟨n1, t1, o1⟩, ⟨n2, t2, o2⟩, ⟨n3, t3, o3⟩, ⟨n4, t4, o4⟩, n5, t5, o5⟩ := hf
  have e : ∀ x y : Int, ∀ w, (Op.equalIn 9999 3 (.int .i64 x) (.int .i64 y)).run Try.prog w = .ok (x == y) w := fun x y w => run_equalIn_int w 9998 _ _ _ x y Try.underlying3
  have q : ∀ f : Field, (f.name == "_") = false → f.name ≠ "_" := fun f h e => by rw [e] at h; simp at h
  simp only [Op.eqFields, q _ n1, q _ n2, q _ n3, q _ n4, q _ n5, t1, t2, t3, t4, t5, o1, o2, o3, o4, o5, ne_eq, not_false_eq_true, if_true, Sem.run_bind]
  have A0 := fun w => part_spot #[.int .i64 a1, .int .i64 a2, .int .i64 a3, .int .i64 a4, .int .i64 a5] 0 a1 w rfl
  have A1 := fun w => part_spot #[.int .i64 a1, .int .i64 a2, .int .i64 a3, .int .i64 a4, .int .i64 a5] 1 a2 w rfl
  have A2 := fun w => part_spot #[.int .i64 a1, .int .i64 a2, .int .i64 a3, .int .i64 a4, .int .i64 a5] 2 a3 w rfl
  have A3 := fun w => part_spot #[.int .i64 a1, .int .i64 a2, .int .i64 a3, .int .i64 a4, .int .i64 a5] 3 a4 w rfl
  have A4 := fun w => part_spot #[.int .i64 a1, .int .i64 a2, .int .i64 a3, .int .i64 a4, .int .i64 a5] 4 a5 w rfl
  have B0 := fun w => part_spot #[.int .i64 b1, .int .i64 b2, .int .i64 b3, .int .i64 b4, .int .i64 b5] 0 b1 w rfl
  have B1 := fun w => part_spot #[.int .i64 b1, .int .i64 b2, .int .i64 b3, .int .i64 b4, .int .i64 b5] 1 b2 w rfl
  have B2 := fun w => part_spot #[.int .i64 b1, .int .i64 b2, .int .i64 b3, .int .i64 b4, .int .i64 b5] 2 b3 w rfl
  have B3 := fun w => part_spot #[.int .i64 b1, .int .i64 b2, .int .i64 b3, .int .i64 b4, .int .i64 b5] 3 b4 w rfl
  have B4 := fun w => part_spot #[.int .i64 b1, .int .i64 b2, .int .i64 b3, .int .i64 b4, .int .i64 b5] 4 b5 w rfl
  simp only [A0, A1, A2, A3, A4, B0, B1, B2, B3, B4, e, Result.andThen_ok, Sem.run_ite, Sem.run_pure, Sem.run_bind]
  have hd : decide ((⟨a1, a2, a3, a4, a5⟩ : Spot) = ⟨b1, b2, b3, b4, b5⟩) = (a1 == b1 && (a2 == b2 && (a3 == b3 && (a4 == b4 && a5 == b5)))) := by
    apply Bool.eq_iff_iff.mpr
    simp only [decide_eq_true_iff, Bool.and_eq_true, beq_iff_eq, Spot.mk.injEq]
  rw [hd]
  cases a1 == b1 <;> cases a2 == b2 <;> cases a3 == b3 <;> cases a4 == b4 <;> cases a5 == b5 <;> simp [Result.andThen_ok, A0, A1, A2, A3, A4, B0, B1, B2, B3, B4, e]
end Go.Proofs.Ythcaagkgddeabaa.Bank
