/-
  BankActs: the bank beside the reference's, in one world. No condition. By an AI agent.
-/
import Derived.Test.YtabhkplcigdafaaRefD
import Derived.Test.YtabhkplcigdafaaBankA
namespace Go.Proofs.Ytabhkplcigdafaa.Bank
set_option linter.unusedVariables false
open Go Go.RowKit Go.Proofs.Ytabhkplcigdafaa.Base

structure Both (w a : World) (g h g2 h2 : Nat) (ws : List Int) (t : Int) (ws2 : List Int) (t2 : Int) : Prop where
  own : Own w a g h ws t
  ref : RefAt a g2 h2 ws2 t2
  n1 : g ≠ g2
  n2 : g ≠ h2
  n3 : h ≠ g2
  n4 : h ≠ h2
  k1 : w.heap.size ≤ g2
  k2 : w.heap.size ≤ h2
section
variable {w a b : World} {g h g2 h2 : Nat} {ws ws' ws2 : List Int} {t t' t2 : Int}
theorem Both.go (p : Both w a g h g2 h2 ws t ws2 t2) (q : Below a.heap.size a b) : Both w b g h g2 h2 ws t ws2 t2 := ⟨p.own.go q, p.ref.below q, p.n1, p.n2, p.n3, p.n4, p.k1, p.k2⟩
theorem Both.drewN (p : Both w a g h g2 h2 ws t ws2 t2) (n : Nat) : Both w (a.drewN n) g h g2 h2 ws t ws2 t2 := ⟨p.own.drewN n, p.ref.drewN n, p.n1, p.n2, p.n3, p.n4, p.k1, p.k2⟩
theorem Both.left (p : Both w a g h g2 h2 ws t ws2 t2) (q : BankAt b g h ws' t') (r : Ex2 g h a b) : Both w b g h g2 h2 ws' t' ws2 t2 :=
  ⟨p.own.step q r, p.ref.other r (Ne.symm p.n1) (Ne.symm p.n3) (Ne.symm p.n2) (Ne.symm p.n4), p.n1, p.n2, p.n3, p.n4, p.k1, p.k2⟩
theorem Both.right (p : Both w a g h g2 h2 ws t ws2 t2) (q : RefAt b g2 h2 ws' t') (r : Ex2 g2 h2 a b) : Both w b g h g2 h2 ws t ws' t' :=
  ⟨⟨p.own.bank.other r p.n1 p.n2 p.n3 p.n4, Ex2.below p.own.below r p.k1 p.k2 p.own.below.size, p.own.hg, p.own.hh⟩, q, p.n1, p.n2, p.n3, p.n4, p.k1, p.k2⟩
theorem Both.new (p : Own w a g h ws t) (r : Below a.heap.size a b) (q : RefAt b (a.heap.size + 1) a.heap.size ws2 t2) : Both w b g h (a.heap.size + 1) a.heap.size ws t ws2 t2 := by
  have h1 := p.bank.head.lt
  have h2 := p.bank.row.lt
  have h3 := p.below.size
  exact ⟨p.go r, q, by omega, by omega, by omega, by omega, by omega, by omega⟩
end
end Go.Proofs.Ytabhkplcigdafaa.Bank
