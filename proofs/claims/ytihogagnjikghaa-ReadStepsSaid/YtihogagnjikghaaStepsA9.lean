/-
  ReadSteps' arguments, opened. No condition. By an AI agent.
-/
import Derived.Test.YtihogagnjikghaaStepsW9
namespace Go.Proofs.Ytihogagnjikghaa.Bank
set_option linter.unusedVariables false
set_option linter.unusedSimpArgs false
open Go Go.RowKit Go.Proofs.Ytihogagnjikghaa.Base Go.ChangeShapes Go.WideShapes Go.Deep
theorem choose_ltB {α : Type} [Inhabited α] {n : Nat} {P : Nat → α → Prop} (h : ∀ i, i < n → ∃ a, P i a) : ∃ f : Nat → α, ∀ i, i < n → P i (f i) := by
  refine ⟨fun i => if h' : i < n then (h i h').choose else default, fun i hi => ?_⟩
  simp only [hi, dif_pos]
  exact (h i hi).choose_spec
set_option maxRecDepth 100000 in
theorem job_of_trod {H : Type} {enc : TypeId × Value → H} {W : World} {r : Reach} {b : Nat} {v : Value} {d : DataW H} {p : List MemPlace}
    (hv : Value.okWide Try.prog W r b 25 v) (h : DataW.Trod enc Try.prog W 0 (fun _ => true) true 25 v d p) :
    ∃ x : Spot × Int, v = .agg #[.int .i64 x.1.owners, .int .i64 x.1.seq, .int .i64 x.1.first, .int .i64 x.1.words, .int .i64 x.1.depth, .int .i64 x.2] := by
  obtain ⟨cs, rfl, hsz⟩ := okWide_struct Try.underlying25 hv
  rw [show Try.prog.cellsOf 25 = 6 by kernel_rfl] at hsz
  obtain ⟨c0, c1, c2, c3, c4, c5, rfl⟩ : ∃ c0 c1 c2 c3 c4 c5, cs = #[c0, c1, c2, c3, c4, c5] := by
    obtain ⟨l⟩ := cs
    match l, hsz with
    | [a, b, c, d, e, f], _ => exact ⟨a, b, c, d, e, f, rfl⟩
  obtain ⟨fuel, hf⟩ := h
  obtain ⟨ys, m, _, _, _, hyl, hg⟩ := DataW.trod_struct Try.underlying25 hf
  have hcells : (Value.agg #[c0, c1, c2, c3, c4, c5]).cells.toList = [c0, c1, c2, c3, c4, c5] := by simp [Value.cells]
  rw [hcells] at hg
  have hs : DataW.trod enc Try.prog W 0 (fun _ => true) true m 23 [c0, c1, c2, c3, c4] = ys[0]? := by
    have h9 := hg 0 _ rfl
    change DataW.trod enc Try.prog W 0 (fun _ => true) true m 23 (List.take (Try.prog.cellsOf 23) (List.drop 0 [c0, c1, c2, c3, c4, c5])) = _ at h9
    rw [show Try.prog.cellsOf 23 = 5 by kernel_rfl] at h9
    exact h9
  have ht : DataW.trod enc Try.prog W 0 (fun _ => true) true m 3 [c5] = ys[1]? := by
    have h9 := hg 1 _ rfl
    change DataW.trod enc Try.prog W 0 (fun _ => true) true m 3 (List.take (Try.prog.cellsOf 3) (List.drop 5 [c0, c1, c2, c3, c4, c5])) = _ at h9
    rw [show Try.prog.cellsOf 3 = 1 by kernel_rfl] at h9
    exact h9
  obtain ⟨y0, hy0⟩ : ∃ y0, ys[0]? = some y0 := ⟨_, List.getElem?_eq_getElem (by rw [hyl]; decide)⟩
  obtain ⟨y1, hy1⟩ : ∃ y1, ys[1]? = some y1 := ⟨_, List.getElem?_eq_getElem (by rw [hyl]; decide)⟩
  rw [hy0] at hs
  rw [hy1] at ht
  obtain ⟨us, m2, _, _, _, hul, hu⟩ := DataW.trod_struct Try.underlying23 hs
  have one : ∀ j c, j < 5 → (([c0, c1, c2, c3, c4].drop j).take 1) = [c] → DataW.trod enc Try.prog W 0 (fun _ => true) true m2 3 [c] = us[j]? → ∃ z : Int, c = .int .i64 z := by
    intro j c hj _ h9
    obtain ⟨u, hu⟩ : ∃ u, us[j]? = some u := ⟨_, List.getElem?_eq_getElem (by rw [hul]; exact hj)⟩
    rw [hu] at h9
    obtain ⟨z, e, _, _⟩ := DataW.trod_int Try.underlying3 h9
    simp only [List.cons.injEq, and_true] at e
    exact ⟨z, e⟩
  have k1 : Try.prog.cellsOf 3 = 1 := by kernel_rfl
  obtain ⟨z0, rfl⟩ := one 0 c0 (by decide) rfl (by have h9 := hu 0 _ rfl; change DataW.trod enc Try.prog W 0 (fun _ => true) true m2 3 (List.take (Try.prog.cellsOf 3) (List.drop 0 [c0, c1, c2, c3, c4])) = _ at h9; rw [k1] at h9; exact h9)
  obtain ⟨z1, rfl⟩ := one 1 c1 (by decide) rfl (by have h9 := hu 1 _ rfl; change DataW.trod enc Try.prog W 0 (fun _ => true) true m2 3 (List.take (Try.prog.cellsOf 3) (List.drop 1 [_, c1, c2, c3, c4])) = _ at h9; rw [k1] at h9; exact h9)
  obtain ⟨z2, rfl⟩ := one 2 c2 (by decide) rfl (by have h9 := hu 2 _ rfl; change DataW.trod enc Try.prog W 0 (fun _ => true) true m2 3 (List.take (Try.prog.cellsOf 3) (List.drop 2 [_, _, c2, c3, c4])) = _ at h9; rw [k1] at h9; exact h9)
  obtain ⟨z3, rfl⟩ := one 3 c3 (by decide) rfl (by have h9 := hu 3 _ rfl; change DataW.trod enc Try.prog W 0 (fun _ => true) true m2 3 (List.take (Try.prog.cellsOf 3) (List.drop 3 [_, _, _, c3, c4])) = _ at h9; rw [k1] at h9; exact h9)
  obtain ⟨z4, rfl⟩ := one 4 c4 (by decide) rfl (by have h9 := hu 4 _ rfl; change DataW.trod enc Try.prog W 0 (fun _ => true) true m2 3 (List.take (Try.prog.cellsOf 3) (List.drop 4 [_, _, _, _, c4])) = _ at h9; rw [k1] at h9; exact h9)
  obtain ⟨z5, e5, _, _⟩ := DataW.trod_int Try.underlying3 ht
  simp only [List.cons.injEq, and_true] at e5
  subst e5
  exact ⟨(⟨z0, z1, z2, z3, z4⟩, z5), rfl⟩
set_option maxRecDepth 100000 in
theorem acts_of_trod {H : Type} {enc : TypeId × Value → H} {W : World} {r : Reach} {b : Nat} {v : Value} {d : DataW H} {p : List MemPlace}
    (hv : Value.okWide Try.prog W r b 26 v) (h : DataW.Trod enc Try.prog W 0 (fun _ => true) true 26 v d p) : ∃ x : Nat × (Nat → Act), Acts W v x.1 x.2 := by
  obtain ⟨n, f, hr, hf⟩ := recs_of_trod Try.underlying26 Try.underlying45 (by kernel_rfl) (by kernel_rfl) (by decide) hv h
  have hall : ∀ i, i < n → ∃ a : Act, f i 0 = .bool a.rd ∧ f i 1 = .int .i64 a.at_ ∧ f i 2 = .int .u64 a.x ∧ 0 ≤ a.x ∧ a.x ≤ 18446744073709551615 := by
    intro i hi
    obtain ⟨m0, z0, h0⟩ := hf i hi 0 _ rfl
    obtain ⟨m1, z1, h1⟩ := hf i hi 1 _ rfl
    obtain ⟨m2, z2, h2⟩ := hf i hi 2 _ rfl
    obtain ⟨b0, e0, _⟩ := DataW.trod_bool Try.underlying4 h0
    obtain ⟨n1, e1, _, g1⟩ := DataW.trod_int Try.underlying3 h1
    obtain ⟨n2, e2, _, g2⟩ := DataW.trod_int Try.underlying43 h2
    exact ⟨⟨b0, n1, n2⟩, by simpa using e0, by simpa using e1, by simpa using e2, u64_bounds g2⟩
  obtain ⟨l, hl⟩ := choose_ltB hall
  obtain ⟨A, c, rfl, hlen, hx⟩ := hr.form
  refine ⟨(n, l), ⟨⟨A, c, rfl, hlen, fun hn => ?_⟩, fun i hi => (hl i hi).2.2.2⟩⟩
  obtain ⟨b, o, rfl, hb, hc⟩ := hx hn
  refine ⟨b, o, rfl, hb, fun i hi => ?_⟩
  obtain ⟨l0, l1, l2, _⟩ := hl i hi
  have s0 := hc i 0 hi (by decide)
  have s1 := hc i 1 hi (by decide)
  have s2 := hc i 2 hi (by decide)
  rw [l0] at s0
  rw [l1] at s1
  rw [l2] at s2
  exact ⟨s0, s1, s2⟩
end Go.Proofs.Ytihogagnjikghaa.Bank
