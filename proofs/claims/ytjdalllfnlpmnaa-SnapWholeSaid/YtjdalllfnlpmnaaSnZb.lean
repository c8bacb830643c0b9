/-
  Law 10: what the snapshot ahead told, and owners of blocks. Conditions stand at each. By an AI agent.
-/
import Derived.Test.YtjdalllfnlpmnaaSnZ
namespace Go.Proofs.Ytjdalllfnlpmnaa.Bank
set_option linter.unusedVariables false
set_option linter.unusedSimpArgs false
open Go Go.RowKit Go.Proofs.Ytjdalllfnlpmnaa.Base
def WasAt (w : World) (B n : Nat) (lam : Nat → Nat) (v : Value) (L : List Int) : Prop :=
  ∃ A c, v = .slice A L.length c ∧ (L.length = 0 ∨ L.length = n) ∧ ∀ i, i < L.length → ∃ qb off, A = some ⟨qb, off, none⟩ ∧ B ≤ qb ∧ qb < w.heap.size ∧ lam qb = n ∧ w.cell? ⟨qb, off + i, none⟩ = some (.int .u64 (nth L i))
theorem WasAt.nil (w : World) (B n : Nat) (lam : Nat → Nat) : WasAt w B n lam (.slice none 0 0) [] := ⟨none, 0, rfl, .inl rfl, fun i h => absurd h (by simp)⟩
theorem WasAt.ex {T : Nat → Prop} {w w' : World} {B n : Nat} {lam : Nat → Nat} {v : Value} {L : List Int} (h : WasAt w B n lam v L) (p : Ex T w w') (hT : ∀ b, T b → b < B ∨ lam b ≠ n) : WasAt w' B n lam v L := by
  obtain ⟨A, c, e, hl, hc⟩ := h
  refine ⟨A, c, e, hl, fun i hi => ?_⟩
  obtain ⟨qb, off, e1, h1, h2, h3, h4⟩ := hc i hi
  exact ⟨qb, off, e1, h1, Nat.lt_of_lt_of_le h2 p.size, h3, p.cell h4 (fun ht => by have := hT qb ht; omega)⟩
theorem WasAt.bl {w w' : World} {B n : Nat} {lam : Nat → Nat} {v : Value} {L : List Int} (h : WasAt w B n lam v L) (p : Below w.heap.size w w') : WasAt w' B n lam v L := h.ex (T := fun _ => False) (Ex.of_below p) (fun _ h => h.elim)
theorem WasAt.lam_ {w : World} {B n : Nat} {lam lam' : Nat → Nat} {v : Value} {L : List Int} (h : WasAt w B n lam v L) (e : ∀ b, b < w.heap.size → lam' b = lam b) : WasAt w B n lam' v L := by
  obtain ⟨A, c, ev, hl, hc⟩ := h
  refine ⟨A, c, ev, hl, fun i hi => ?_⟩
  obtain ⟨qb, off, e1, h1, h2, h3, h4⟩ := hc i hi
  exact ⟨qb, off, e1, h1, h2, by rw [e qb h2]; exact h3, h4⟩
theorem OpsAt.lam_ {w : World} {ob n B : Nat} {l : Nat → Tp} {cnt : Nat → Nat} {st : Nat → Option W1} {lam lam' : Nat → Nat} (h : OpsAt w ob n B l cnt st lam) (e : ∀ b, b < w.heap.size → lam' b = lam b) : OpsAt w ob n B l cnt st lam' :=
  ⟨h.row, fun k hk s hs => by
    obtain ⟨a1, b1, c1, d1, e1, f1⟩ := h.ops k hk s hs
    have := h.lt hk hs
    exact ⟨a1, b1, c1, d1, by rw [e _ this.1]; exact e1, by rw [e _ this.2]; exact f1⟩⟩
/-- which topic a pick names -/
def pickN (p : Int) (n : Nat) : Nat := ((p.tmod n + n).tmod n).toNat
theorem pickN_spec (p : Int) {n : Nat} (h : 1 ≤ n) (h5 : n ≤ 5) : pickN p n < n ∧ (p.tmod n + n).tmod n = (pickN p n : Int) ∧ -5 ≤ p.tmod n ∧ p.tmod n ≤ 5 := by
  have h1 := Int.tmod_lt_of_pos p (b := (n : Int)) (by omega)
  have h2 : -(n : Int) < p.tmod n := by
    have := Int.lt_tmod_of_pos p (b := (n : Int)) (by omega)
    exact this
  have h3 := Int.tmod_lt_of_pos (p.tmod n + n) (b := (n : Int)) (by omega)
  have h4 := Int.tmod_nonneg (n : Int) (show 0 ≤ p.tmod n + n by omega)
  unfold pickN
  omega
end Go.Proofs.Ytjdalllfnlpmnaa.Bank
