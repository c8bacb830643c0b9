/-
  Law 16: a state that came in by value; LogNil. Conditions stand at each. By an AI agent.
-/
import Derived.Test.YthhellgaafbokaaLgNilW
import Derived.Lib.SmallJoins
namespace Go.Proofs.Ythhellgaafbokaa.Lg
set_option linter.unusedVariables false
set_option linter.unusedSimpArgs false
open Go Go.RowKit Go.Proofs.Ythhellgaafbokaa.Base Go.Proofs.Ythhellgaafbokaa.Reg Go.Deep Go.ChangeShapes Go.WideShapes

section
variable {H : Type} {enc : TypeId × Value → H} {P : Program}
/-- a struct of one-cell fields, by value: each cell reads as its field -/
theorem fields_of_trod {W : World} {t : TypeId} {fs : Array Field} {r : Reach} {b : Nat} {v : Value} {d : DataW H} {p : List MemPlace} (hs : P.underlying t = some (.struct fs)) (hone : oneCellFields P fs = true) (hC : P.cellsOf t = fs.size)
    (hv : Value.okWide P W r b t v) (h : DataW.Trod enc P W 0 (fun _ => true) true t v d p) :
    ∃ cs : Array Value, v = .agg cs ∧ cs.size = fs.size ∧ ∀ (j : Nat) (f : Field), fs[j]? = some f → ∃ (n : Nat) (c : Value) (y : DataW H × List MemPlace), cs[j]? = some c ∧ DataW.trod enc P W 0 (fun _ => true) true n f.type [c] = some y := by
  obtain ⟨cs, rfl, hsz⟩ := okWide_struct hs hv
  rw [hC] at hsz
  obtain ⟨fuel, hf⟩ := h
  obtain ⟨xs, n, _, _, _, hlen, hg⟩ := DataW.trod_struct hs hf
  refine ⟨cs, rfl, hsz, fun j f hj => ?_⟩
  obtain ⟨ho, hk⟩ := hone_of hone j f hj
  have hjl : j < fs.size := (Array.getElem?_eq_some_iff.1 hj).1
  have h1 := hg j f hj
  rw [ho, hk] at h1
  have hcells : (Value.agg cs).cells.toList = cs.toList := by simp [Value.cells]
  rw [hcells] at h1
  have hjc : j < cs.toList.length := by simp; omega
  have e : (cs.toList.drop j).take 1 = [cs.toList[j]] := by
    rw [List.drop_eq_getElem_cons hjc]
    rfl
  rw [e] at h1
  have hjx : j < xs.length := by omega
  rw [List.getElem?_eq_getElem hjx] at h1
  exact ⟨n, cs.toList[j], xs[j], by simp [show j < cs.size by omega], h1⟩
end
set_option maxRecDepth 100000 in
theorem st_of_trod {H : Type} {enc : TypeId × Value → H} {W : World} {r : Reach} {b : Nat} {v : Value} {d : DataW H} {p : List MemPlace}
    (hv : Value.okWide Try.prog W r b 28 v) (h : DataW.Trod enc Try.prog W 0 (fun _ => true) true 28 v d p) : ∃ s : St, s.Ok ∧ v = s.val := by
  obtain ⟨cs, rfl, hsz, hf⟩ := fields_of_trod Try.underlying28 (by kernel_rfl) (by kernel_rfl) hv h
  obtain ⟨_, c0, _, k0, h0⟩ := hf 0 _ rfl
  obtain ⟨_, c1, _, k1, h1⟩ := hf 1 _ rfl
  obtain ⟨_, c2, _, k2, h2⟩ := hf 2 _ rfl
  obtain ⟨_, c3, _, k3, h3⟩ := hf 3 _ rfl
  obtain ⟨_, c4, _, k4, h4⟩ := hf 4 _ rfl
  obtain ⟨n0, e0, _, g0⟩ := DataW.trod_int Try.underlying3 h0
  obtain ⟨n1, e1, _, g1⟩ := DataW.trod_int Try.underlying3 h1
  obtain ⟨n2, e2, _⟩ := DataW.trod_bool Try.underlying4 h2
  obtain ⟨n3, e3, _, g3⟩ := DataW.trod_int Try.underlying3 h3
  obtain ⟨n4, e4, _, g4⟩ := DataW.trod_int Try.underlying25 h4
  simp only [List.cons.injEq, and_true] at e0 e1 e2 e3 e4
  subst e0 e1 e2 e3 e4
  refine ⟨⟨n0, n1, n2, n3, n4⟩, ⟨i64_bounds g0, i64_bounds g1, i64_bounds g3, u64_bounds g4⟩, ?_⟩
  unfold St.val
  congr 1
  apply Array.ext_getElem?
  intro i
  rcases (show i = 0 ∨ i = 1 ∨ i = 2 ∨ i = 3 ∨ i = 4 ∨ 5 ≤ i by omega) with rfl | rfl | rfl | rfl | rfl | hi
  · rw [k0]; rfl
  · rw [k1]; rfl
  · rw [k2]; rfl
  · rw [k3]; rfl
  · rw [k4]; rfl
  · rw [Array.getElem?_eq_none (by rw [hsz]; exact hi), Array.getElem?_eq_none (by simpa using hi)]
set_option maxRecDepth 100000 in
theorem LogNil_law (v : Value) (s : St) (long : Int) (hl : -9223372036854775808 ≤ long ∧ long ≤ 9223372036854775807) (w : World) (hs : s.Ok ∧ v = s.val) : Calls Try.prog 6 #[v, .int .i64 long] w fun e w' => e = .returned (.bool true) ∧ Below w.heap.size w w' := by
  obtain ⟨hs, rfl⟩ := hs
  by_cases h1 : 1 ≤ long ∧ long ≤ 64
  · by_cases h2 : mayE s = 0
    · exact Nil_good s hs long w h2 h1
    · exact Nil_bad s hs long w h2 h1
  · by_cases h2 : mayE s = 0
    · exact Nil_out0 s hs long w h2 h1
    · exact Nil_out1 s hs long w h2 h1
end Go.Proofs.Ythhellgaafbokaa.Lg
