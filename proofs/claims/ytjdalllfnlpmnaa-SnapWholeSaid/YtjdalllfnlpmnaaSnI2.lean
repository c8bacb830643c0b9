/-
  Law 10: SnapAlone's third argument, opened. No condition. By an AI agent.
-/
import Derived.Test.YtjdalllfnlpmnaaSnI
namespace Go.Proofs.Ytjdalllfnlpmnaa.Bank
set_option linter.unusedVariables false
set_option linter.unusedSimpArgs false
open Go Go.RowKit Go.Proofs.Ytjdalllfnlpmnaa.Base Go.ChangeShapes Go.WideShapes Go.Deep
set_option maxRecDepth 100000 in
theorem ahead_of_trod {H : Type} {enc : TypeId × Value → H} {W : World} {r : Reach} {b : Nat} {v : Value} {d : DataW H} {p : List MemPlace}
    (hv : Value.okWide Try.prog W r b 79 v) (h : DataW.Trod enc Try.prog W 0 (fun _ => true) true 79 v d p) :
    ∃ x : Int × Bool, v = .agg #[.int .i64 x.1, .bool x.2] := by
  obtain ⟨cs, rfl, hsz⟩ := okWide_struct Try.underlying79 hv
  rw [show Try.prog.cellsOf 79 = 2 by kernel_rfl] at hsz
  obtain ⟨c0, c1, rfl⟩ : ∃ c0 c1, cs = #[c0, c1] := by
    obtain ⟨l⟩ := cs
    match l, hsz with
    | [a, b], _ => exact ⟨a, b, rfl⟩
  obtain ⟨fuel, hf⟩ := h
  obtain ⟨ys, m, _, _, _, hyl, hg⟩ := DataW.trod_struct Try.underlying79 hf
  have hcells : (Value.agg #[c0, c1]).cells.toList = [c0, c1] := by simp [Value.cells]
  rw [hcells] at hg
  have hs : DataW.trod enc Try.prog W 0 (fun _ => true) true m 3 [c0] = ys[0]? := by
    have h9 := hg 0 _ rfl
    change DataW.trod enc Try.prog W 0 (fun _ => true) true m 3 (List.take (Try.prog.cellsOf 3) (List.drop 0 [c0, c1])) = _ at h9
    rw [show Try.prog.cellsOf 3 = 1 by kernel_rfl] at h9
    exact h9
  have ht : DataW.trod enc Try.prog W 0 (fun _ => true) true m 4 [c1] = ys[1]? := by
    have h9 := hg 1 _ rfl
    change DataW.trod enc Try.prog W 0 (fun _ => true) true m 4 (List.take (Try.prog.cellsOf 4) (List.drop 1 [c0, c1])) = _ at h9
    rw [show Try.prog.cellsOf 4 = 1 by kernel_rfl] at h9
    exact h9
  obtain ⟨y0, hy0⟩ : ∃ y0, ys[0]? = some y0 := ⟨_, List.getElem?_eq_getElem (by rw [hyl]; decide)⟩
  obtain ⟨y1, hy1⟩ : ∃ y1, ys[1]? = some y1 := ⟨_, List.getElem?_eq_getElem (by rw [hyl]; decide)⟩
  rw [hy0] at hs
  rw [hy1] at ht
  obtain ⟨z0, e0, _, _⟩ := DataW.trod_int Try.underlying3 hs
  obtain ⟨b1, e1, _⟩ := DataW.trod_bool Try.underlying4 ht
  simp only [List.cons.injEq, and_true] at e0 e1
  subst e0
  subst e1
  exact ⟨(z0, b1), rfl⟩
end Go.Proofs.Ytjdalllfnlpmnaa.Bank
