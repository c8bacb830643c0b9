/-
  PollAlone's case: the subscriptions' row is within a machine's reach. Condition: none. By an AI agent.
-/
import Derived.Test.YthcaagkgddeabaaPoV
import Derived.SizedLaws
namespace Go.Proofs.Ythcaagkgddeabaa.Bank
set_option linter.unusedVariables false
set_option linter.unusedSimpArgs false
open Go Go.RowKit Go.Proofs.Ythcaagkgddeabaa.Base Go.Deep Go.ChangeShapes Go.WideShapes Go.Proofs.Ythcaagkgddeabaa.Queue
theorem weights_agg {H : Type} {P : Program} {t : TypeId} {fs : Array Field} {parts : List (DataW H)} (ht : P.underlying t = some (.struct fs)) : (DataW.agg parts).weights P t = DataW.weightsEach P (fs.toList.map (·.type)) parts := by
  simp only [DataW.weights, ht]
theorem weights_slice {H : Type} {P : Program} {t e : TypeId} {a b : List (DataW H)} (ht : P.underlying t = some (.slice e)) : (DataW.slice a b).weights P t = (a.length + b.length) * P.bytesOf e :: (DataW.weightsAll P e a ++ DataW.weightsAll P e b) := by
  simp only [DataW.weights, ht]
set_option maxRecDepth 100000 in
theorem case_sized {H : Type} {enc : TypeId × Value → H} {W : World} {v : Value} {d : DataW H} {p : List MemPlace}
    (h : DataW.Trod enc Try.prog W 0 (fun _ => true) true 25 v d p) (hw : ∀ q ∈ d.weights Try.prog 25, q ≤ reachBytes) (c : Cs) (hc : CsAt W v c) : c.n * 48 ≤ 140737488351232 := by
  obtain ⟨hf0, hsub, _, _⟩ := hc
  subst hf0
  obtain ⟨A1, c1, hv1, _⟩ := hsub.cap
  obtain ⟨fuel, hf⟩ := h
  obtain ⟨xs, n, _, hx, _, hlen, hg⟩ := DataW.trod_struct Try.underlying25 hf
  have kc : Try.prog.cellsOf 22 = 1 := by kernel_rfl
  have hcells : (Value.agg #[c.v1, c.v2, .int .i64 c.tries]).cells.toList = [c.v1, c.v2, .int .i64 c.tries] := by simp [Value.cells]
  rw [hcells] at hg
  have h1 : DataW.trod enc Try.prog W 0 (fun _ => true) true n 22 (([c.v1, c.v2, .int .i64 c.tries].drop 0).take (Try.prog.cellsOf 22)) = xs[0]? := hg 0 _ rfl
  rw [kc] at h1
  simp only [List.drop_zero, List.take_succ_cons, List.take_zero] at h1
  have hl3 : xs.length = 3 := hlen
  match xs, hl3, hx, h1 with
  | [y0, y1, y2], _, hx, h1 =>
    simp only [Prod.mk.injEq, List.map_cons, List.map_nil] at hx
    obtain ⟨hd, _⟩ := hx
    rw [hd] at hw
    simp only [List.getElem?_cons_zero] at h1
    rcases open_slice Try.underlying22 h1 with ⟨hcs, hx1⟩ | ⟨a, len', cap', m, n2, D, Pl, hcs, _, hl, hm, hmm, hx1, hi⟩
    · rw [hv1] at hcs
      simp at hcs
      omega
    · rw [hv1] at hcs
      simp only [List.cons.injEq, Value.slice.injEq, and_true] at hcs
      obtain ⟨_, hn, _⟩ := hcs
      simp only [if_true] at hmm
      have kb : Try.prog.bytesOf 46 = 48 := by kernel_rfl
      have hq := hw ((len' + (m - len')) * 48) (by
        rw [hx1]
        rw [weights_agg Try.underlying25]
        refine DataW.weights_mem_each (j := 0) (t := 22) rfl rfl _ ?_
        rw [weights_slice Try.underlying22, kb]
        simp)
      unfold reachBytes at hq
      have : len' ≤ len' + (m - len') := Nat.le_add_right _ _
      rw [hn]
      omega
end Go.Proofs.Ythcaagkgddeabaa.Bank
