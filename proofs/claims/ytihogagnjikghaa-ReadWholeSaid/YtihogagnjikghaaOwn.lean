/-
  A bank of the call's own. No condition. By an AI agent.
-/
import Derived.Test.YtihogagnjikghaaBank
namespace Go.Proofs.Ytihogagnjikghaa.Bank
set_option linter.unusedVariables false
set_option linter.unusedSimpArgs false
open Go Go.RowKit Go.Proofs.Ytihogagnjikghaa.Base

/-- a bank of the call's own, and below it all is as it was -/
structure Own (w wk : World) (g h : Nat) (ws : List Int) (t : Int) : Prop where
  bank : BankAt wk g h ws t
  below : Below w.heap.size w wk
  hg : w.heap.size ≤ g
  hh : w.heap.size ≤ h
theorem Own.step {w a b : World} {g h : Nat} {ws ws' : List Int} {t t' : Int} (p : Own w a g h ws t) (q : BankAt b g h ws' t') (r : Ex2 g h a b) : Own w b g h ws' t' :=
  ⟨q, Ex2.below p.below r p.hg p.hh p.below.size, p.hg, p.hh⟩
theorem Own.go {w a b : World} {g h : Nat} {ws : List Int} {t : Int} (p : Own w a g h ws t) (r : Below a.heap.size a b) : Own w b g h ws t :=
  ⟨p.bank.below r, bl p.below r, p.hg, p.hh⟩
theorem Own.far {w a : World} {g h : Nat} {ws : List Int} {t : Int} (p : Own w a g h ws t) {N : Nat} (h0 : w.heap.size ≤ N) (h1 : N ≠ g) (h2 : N ≠ h) (i : Nat) (u : Value) : Own w (a.setCell ⟨N, i, none⟩ u) g h ws t :=
  ⟨⟨p.bank.head.far (p := ⟨N, i, none⟩) (Ne.symm h1) u, p.bank.row.far (p := ⟨N, i, none⟩) (Ne.symm h2) u, p.bank.len, p.bank.fit⟩, p.below.setCell (p := ⟨N, i, none⟩) h0 u, p.hg, p.hh⟩
theorem Own.drewN {w a : World} {g h : Nat} {ws : List Int} {t : Int} (p : Own w a g h ws t) (n : Nat) : Own w (a.drewN n) g h ws t := ⟨p.bank.drewN n, below_drewN p.below n, p.hg, p.hh⟩
theorem Own.new {w a : World} {n : Nat} (p : BankAt a (w.heap.size + 1) w.heap.size (zeros n) 0) (q : Below w.heap.size w a) : Own w a (w.heap.size + 1) w.heap.size (zeros n) 0 := ⟨p, q, by omega, Nat.le_refl _⟩
end Go.Proofs.Ytihogagnjikghaa.Bank
