/-
  Law 10: topics as arguments, opened. No condition. By an AI agent.
-/
import Derived.Test.YtjdalllfnlpmnaaSnY
namespace Go.Proofs.Ytjdalllfnlpmnaa.Bank
set_option linter.unusedVariables false
set_option linter.unusedSimpArgs false
open Go Go.RowKit Go.Proofs.Ytjdalllfnlpmnaa.Base Go.ChangeShapes Go.WideShapes Go.Deep
theorem choose_ltT {α : Type} [Inhabited α] {n : Nat} {P : Nat → α → Prop} (h : ∀ i, i < n → ∃ a, P i a) : ∃ f : Nat → α, ∀ i, i < n → P i (f i) := by
  refine ⟨fun i => if h' : i < n then (h i h').choose else default, fun i hi => ?_⟩
  simp only [hi, dif_pos]
  exact (h i hi).choose_spec
set_option maxRecDepth 100000 in
theorem tps_of_trod {H : Type} {enc : TypeId × Value → H} {W : World} {r : Reach} {b : Nat} {v : Value} {d : DataW H} {p : List MemPlace}
    (hv : Value.okWide Try.prog W r b 56 v) (h : DataW.Trod enc Try.prog W 0 (fun _ => true) true 56 v d p) : ∃ x : Nat × (Nat → Tp), Tps W v x.1 x.2 := by
  obtain ⟨n, f, hr, hf⟩ := recs_of_trod Try.underlying56 Try.underlying68 (by kernel_rfl) (by kernel_rfl) (by decide) hv h
  have hall : ∀ i, i < n → ∃ a : Tp, f i 0 = .int .i64 a.words ∧ f i 1 = .int .i64 a.depth := by
    intro i hi
    obtain ⟨m0, z0, h0⟩ := hf i hi 0 _ rfl
    obtain ⟨m1, z1, h1⟩ := hf i hi 1 _ rfl
    obtain ⟨n0, e0, _, g0⟩ := DataW.trod_int Try.underlying3 h0
    obtain ⟨n1, e1, _, g1⟩ := DataW.trod_int Try.underlying3 h1
    exact ⟨⟨n0, n1⟩, by simpa using e0, by simpa using e1⟩
  obtain ⟨l, hl⟩ := choose_ltT hall
  obtain ⟨A, c, rfl, hlen, hx⟩ := hr.form
  refine ⟨(n, l), ⟨⟨A, c, rfl, hlen, fun hn => ?_⟩⟩⟩
  obtain ⟨b, o, rfl, hb, hc⟩ := hx hn
  refine ⟨b, o, rfl, hb, fun i hi => ?_⟩
  obtain ⟨l0, l1⟩ := hl i hi
  have s0 := hc i 0 hi (by decide)
  have s1 := hc i 1 hi (by decide)
  rw [l0] at s0
  rw [l1] at s1
  exact ⟨s0, s1⟩
end Go.Proofs.Ytjdalllfnlpmnaa.Bank
