/-
  Rows of integers that came in: a slice of slices. No condition. By an AI agent.
-/
import Derived.Test.YtihogagnjikghaaEx
import Derived.Deep.Slices
import Derived.OpenShut
namespace Go.Proofs.Ytihogagnjikghaa.Base
set_option linter.unusedVariables false
set_option linter.unusedSimpArgs false
open Go Go.RowKit Go.ChangeShapes Go.WideShapes Go.Deep
section
variable {H : Type} {enc : TypeId × Value → H} {P : Program}
/-- a slice of integers that came in, in a cell -/
theorem ints_of_cs {W : World} {t e : TypeId} {k : IntKind} {cs : List Value} {x : DataW H × List MemPlace} {fuel : Nat} (ht : P.underlying t = some (.slice e)) (he : P.underlying e = some (.int k)) (hc : P.cellsOf e = 1)
    (hf : DataW.trod enc P W 0 (fun _ => true) true fuel t cs = some x) :
    ∃ (v : Value) (xs : List Int), cs = [v] ∧ Ints W k v xs ∧ ∀ n ∈ xs, (Lit.int k n).wf = true := by
  rcases open_ints ht he hc hf with ⟨hcs, hx⟩ | ⟨a, len, cap, zs, hcs, _, hl, hm, hz, hx, hcell, hwz⟩
  · exact ⟨_, [], hcs, ⟨⟨none, 0, rfl, by simp [maxLen], fun hn => absurd rfl hn⟩⟩, by simp⟩
  · have hzl : zs.length = cap := by simpa using hz
    refine ⟨_, zs.take len, hcs, ⟨⟨some a, cap, ?_, ?_, fun hn => ?_⟩⟩, fun n hn => hwz n (List.mem_of_mem_take hn)⟩
    · rw [List.length_take, Nat.min_eq_left (by omega)]
    · rw [List.length_take]; omega
    · have hpos : 0 < len := by
        rcases Nat.eq_zero_or_pos len with h0 | h0
        · subst h0; simp at hn
        · exact h0
      obtain ⟨ab, ao, sp⟩ := a
      have c0 := hcell 0 (by omega)
      have hsp : sp = none := by
        cases sp with
        | none => rfl
        | some s =>
          simp only [World.cell?, Addr.add] at c0
          split at c0 <;> simp at c0
      subst hsp
      refine ⟨ab, ao, rfl, ?_, fun i hi => ?_⟩
      · simpa [Addr.add] using lt_of_cell c0
      · rw [List.length_take, Nat.min_eq_left (by omega)] at hi
        have c := hcell i (by omega)
        have e : (⟨ab, ao, none⟩ : Addr).add i = ⟨ab, ao + i, none⟩ := by unfold Addr.add; split <;> simp_all
        rw [e] at c
        rw [c]
        simp [nth, List.getD_eq_getElem?_getD, List.getElem?_take, hi]
/-- a slice of n slices of integers: row i is (xs i), the value in its cell (vs i) -/
structure Rows2 (w : World) (k : IntKind) (v : Value) (n : Nat) (vs : Nat → Value) (xs : Nat → List Int) : Prop where
  form : ∃ A c, v = .slice A n c ∧ n ≤ maxLen ∧ (0 < n → ∃ b o, A = some ⟨b, o, none⟩ ∧ b < w.heap.size ∧ ∀ i : Nat, i < n → w.cell? ⟨b, o + i, none⟩ = some (vs i))
  rows : ∀ i, i < n → Ints w k (vs i) (xs i) ∧ ∀ y ∈ xs i, (Lit.int k y).wf = true
theorem rows2_of_trod {W : World} {t e f : TypeId} {k : IntKind} {r : Reach} {b : Nat} {v : Value} {d : DataW H} {p : List MemPlace} (ht : P.underlying t = some (.slice e)) (he : P.underlying e = some (.slice f)) (hf : P.underlying f = some (.int k)) (hce : P.cellsOf e = 1) (hcf : P.cellsOf f = 1)
    (hv : Value.okWide P W r b t v) (h : DataW.Trod enc P W 0 (fun _ => true) true t v d p) :
    ∃ x : Nat × (Nat → Value) × (Nat → List Int), Rows2 W k v x.1 x.2.1 x.2.2 := by
  obtain ⟨a0, len, cap, rfl⟩ := okWide_slice ht hv
  obtain ⟨fuel, hfu⟩ := h
  rcases open_slice ht hfu with ⟨hcs, hx⟩ | ⟨a, len', cap', m, n, D, Pl, hcs, _, hl, hm, hmm, hx, hel⟩
  · have hcs' : [Value.slice a0 len cap] = [.slice none 0 0] := hcs
    simp only [List.cons.injEq, Value.slice.injEq, and_true] at hcs'
    obtain ⟨rfl, rfl, rfl⟩ := hcs'
    exact ⟨⟨0, fun _ => undef, fun _ => []⟩, ⟨none, 0, rfl, by simp [maxLen], fun hn => absurd hn (by omega)⟩, fun i hi => absurd hi (by simp)⟩
  · have hcs' : [Value.slice a0 len cap] = [.slice (some a) len' cap'] := hcs
    simp only [List.cons.injEq, Value.slice.injEq, and_true] at hcs'
    obtain ⟨rfl, rfl, rfl⟩ := hcs'
    simp only [if_true] at hmm
    have each : ∀ i, i < len → ∃ u xs, W.cell? (a.add i) = some u ∧ Ints W k u xs ∧ ∀ y ∈ xs, (Lit.int k y).wf = true := by
      intro i hi
      obtain ⟨cs', hc, ht'⟩ := hel i (by omega)
      rw [hce, Nat.mul_one] at hc
      obtain ⟨_, hcl, hat⟩ := World.cells?_some hc
      obtain ⟨u, xs, hcs2, hin, hwf⟩ := ints_of_cs he hf hcf ht'
      have h1 := hat (i := 0) (by omega)
      rw [hcs2] at h1
      refine ⟨u, xs, ?_, hin, hwf⟩
      have ha : (a.add i).add 0 = a.add i := by unfold Addr.add; simp
      rw [ha] at h1
      simpa using h1
    let vs : Nat → Value := fun i => (W.cell? (a.add i)).getD undef
    have hvs : ∀ i, i < len → W.cell? (a.add i) = some (vs i) ∧ ∃ xs, Ints W k (vs i) xs ∧ ∀ y ∈ xs, (Lit.int k y).wf = true := by
      intro i hi
      obtain ⟨u, xs, hu, hin, hwf⟩ := each i hi
      have e : vs i = u := by show (W.cell? (a.add i)).getD undef = u; rw [hu]; rfl
      rw [e]
      exact ⟨hu, xs, hin, hwf⟩
    have hxs : ∀ i, ∃ xs, i < len → Ints W k (vs i) xs ∧ ∀ y ∈ xs, (Lit.int k y).wf = true := fun i => by
      by_cases hi : i < len
      · obtain ⟨_, xs, h⟩ := hvs i hi
        exact ⟨xs, fun _ => h⟩
      · exact ⟨[], fun h => absurd h hi⟩
    refine ⟨⟨len, vs, fun i => Classical.choose (hxs i)⟩, ⟨some a, cap, rfl, by omega, fun hn => ?_⟩, fun i hi => Classical.choose_spec (hxs i) hi⟩
    obtain ⟨ab, ao, sp⟩ := a
    have c0 := (hvs 0 hn).1
    have hsp : sp = none := by
      cases sp with
      | none => rfl
      | some s =>
        simp only [World.cell?, Addr.add] at c0
        split at c0 <;> simp at c0
    subst hsp
    refine ⟨ab, ao, rfl, ?_, fun i hi => ?_⟩
    · simpa [Addr.add] using lt_of_cell c0
    · have c := (hvs i hi).1
      have e : (⟨ab, ao, none⟩ : Addr).add i = ⟨ab, ao + i, none⟩ := by unfold Addr.add; split <;> simp_all
      rwa [e] at c
end
theorem Rows2.below {w w' : World} {k : IntKind} {v : Value} {n : Nat} {vs : Nat → Value} {xs : Nat → List Int} (h : Rows2 w k v n vs xs) (hb : Below w.heap.size w w') : Rows2 w' k v n vs xs := by
  obtain ⟨A, c, rfl, hl, hf⟩ := h.form
  exact ⟨⟨A, c, rfl, hl, fun hn => by
    obtain ⟨b, o, rfl, hlt, hc⟩ := hf hn
    exact ⟨b, o, rfl, Nat.lt_of_lt_of_le hlt hb.size, fun i hi => (hb.cell (p := ⟨b, _, none⟩) hlt).trans (hc i hi)⟩⟩, fun i hi => ⟨(h.rows i hi).1.below hb, (h.rows i hi).2⟩⟩
end Go.Proofs.Ytihogagnjikghaa.Base
