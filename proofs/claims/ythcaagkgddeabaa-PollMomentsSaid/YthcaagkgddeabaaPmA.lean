/-
  Law 12, the stage's theorem: queues and words, in plain words. No program. By an AI agent.
-/
import Derived.Test.YthcaagkgddeabaaPoU
import Derived.Test.YthcaagkgddeabaaPoX
namespace Go.Proofs.Ythcaagkgddeabaa.Bank
set_option linter.unusedVariables false
set_option linter.unusedSimpArgs false
open Go Go.RowKit Go.Proofs.Ythcaagkgddeabaa.Base Go.Deep Go.ChangeShapes Go.WideShapes Go.Proofs.Ythcaagkgddeabaa.Queue
/-- the numbers from h on, so many -/
def runL (h : Int) (k : Nat) : List Int := (List.range k).map fun (i : Nat) => h + (i : Int)
theorem runL_len (h : Int) (k : Nat) : (runL h k).length = k := by simp [runL]
theorem runL_nth (h : Int) {k i : Nat} (hi : i < k) : nth (runL h k) i = h + (i : Int) := by simp [runL, nth, hi]
theorem runL_push (h : Int) (k : Nat) : runL h k ++ [h + (k : Int)] = runL h (k + 1) := by
  unfold runL
  rw [List.range_succ, List.map_append]
  rfl
theorem runL_tail (h : Int) (k : Nat) : (runL h (k + 1)).drop 1 = runL (h + 1) k := by
  refine eq_of_nth (by rw [List.length_drop, runL_len, runL_len]; omega) (fun i hi => ?_)
  rw [List.length_drop, runL_len] at hi
  rw [runL_nth _ (show i < k by omega)]
  have : nth ((runL h (k + 1)).drop 1) i = nth (runL h (k + 1)) (1 + i) := by
    unfold nth
    rw [List.getD_eq_getElem?_getD, List.getD_eq_getElem?_getD, List.getElem?_drop]
  rw [this, runL_nth _ (by omega)]
  push_cast
  omega
/-- what is queued for a cursor when so many are published -/
def qOf (c : Cur) (g : Int) : List Int := runL (Queue.seen c g).next (g + 1 - (Queue.seen c g).next).toNat
theorem seen_n (c : Cur) (g : Int) : (Queue.seen c g).next = if g < c.next then c.next else if g - c.next + 1 > c.cap then g - c.cap + 1 else c.next := by
  unfold Queue.seen
  split
  · rfl
  · split <;> rfl
theorem seen_cap (c : Cur) (g : Int) : (Queue.seen c g).cap = c.cap := by
  unfold Queue.seen
  split
  · rfl
  · split <;> rfl
theorem qOf_len (c : Cur) (g : Int) : ((qOf c g).length = 0 ↔ g < (Queue.seen c g).next) := by
  unfold qOf
  rw [runL_len]
  omega
theorem qOf_head {c : Cur} {g : Int} (h : ¬ g < (Queue.seen c g).next) : nth (qOf c g) 0 = (Queue.seen c g).next := by
  unfold qOf
  rw [runL_nth _ (by omega)]
  simp
theorem qOf_le {c : Cur} {g : Int} (hc : 1 ≤ c.cap) (hn : c.next ≤ g + 1) : ((qOf c g).length : Int) ≤ c.cap := by
  unfold qOf
  rw [runL_len, seen_n]
  split
  · omega
  · split <;> omega
/-- a record more -/
def pushF (L : List Int) (g room : Int) : List Int := if ((L ++ [g]).length : Int) > room then (L ++ [g]).drop 1 else L ++ [g]
theorem qOf_push {c : Cur} {p : Int} (hc : 1 ≤ c.cap) (hn : c.next ≤ p + 1) : pushF (qOf c p) (p + 1) c.cap = qOf c (p + 1) := by
  unfold pushF qOf
  have e1 := seen_n c p
  have e2 := seen_n c (p + 1)
  generalize (Queue.seen c p).next = h1 at *
  generalize (Queue.seen c (p + 1)).next = h2 at *
  obtain ⟨k, hk⟩ : ∃ k : Nat, (p + 1 - h1).toNat = k := ⟨_, rfl⟩
  have hkk : p + 1 = h1 + (k : Int) := by
    split at e1
    · omega
    · split at e1 <;> omega
  rw [hk, hkk, runL_push, runL_len]
  rw [if_neg (by omega)] at e2
  by_cases h9 : ((k + 1 : Nat) : Int) > c.cap
  · rw [if_pos h9, runL_tail]
    have : h2 = h1 + 1 ∧ (h1 + (k : Int) + 1 - h2).toNat = k := by
      split at e1
      · split at e2 <;> omega
      · split at e1
        · split at e2 <;> omega
        · split at e2 <;> omega
    rw [this.2, this.1]
  · rw [if_neg h9]
    have : h2 = h1 ∧ (h1 + (k : Int) + 1 - h2).toNat = k + 1 := by
      split at e1
      · split at e2 <;> omega
      · split at e1
        · split at e2 <;> omega
        · split at e2 <;> omega
    rw [this.2, this.1]
/-- seen, and then more published: the same as only then -/
theorem qOf_seen {c : Cur} {g p : Int} (hc : 1 ≤ c.cap) (h : g ≤ p) : qOf (Queue.seen c g) p = qOf c p := by
  unfold qOf
  have e : (Queue.seen (Queue.seen c g) p).next = (Queue.seen c p).next := by
    have e1 := seen_n c g
    have e2 := seen_n c p
    have e3 := seen_n (Queue.seen c g) p
    rw [seen_cap] at e3
    generalize (Queue.seen (Queue.seen c g) p).next = h3 at *
    generalize (Queue.seen c g).next = h1 at *
    generalize (Queue.seen c p).next = h2 at *
    (repeat' split at e1) <;> (repeat' split at e2) <;> (repeat' split at e3) <;> omega
  rw [e]
/-- one that took the record h is behind it -/
theorem qOf_take {c : Cur} {g p gt ls : Int} (hc : 1 ≤ c.cap) (h : g ≤ p) (hq : ¬ g < (Queue.seen c g).next) :
    qOf ⟨(Queue.seen c g).next + 1, c.cap, gt, ls⟩ p = if 0 < (qOf c p).length ∧ nth (qOf c p) 0 = (Queue.seen c g).next then (qOf c p).drop 1 else qOf c p := by
  have e1 := seen_n c g
  have e2 := seen_n c p
  have hq2 : ¬ p < (Queue.seen c p).next := by
    intro h2
    split at e2
    · split at e1 <;> omega
    · split at e2
      · omega
      · omega
  rw [qOf_head hq2]
  have e3 := seen_n ⟨(Queue.seen c g).next + 1, c.cap, gt, ls⟩ p
  unfold qOf
  generalize (Queue.seen ⟨(Queue.seen c g).next + 1, c.cap, gt, ls⟩ p).next = h3 at *
  generalize (Queue.seen c g).next = h1 at *
  generalize (Queue.seen c p).next = h2 at *
  simp only at e3
  rw [runL_len]
  obtain ⟨k, hk⟩ : ∃ k : Nat, (p + 1 - h2).toNat = k + 1 := ⟨(p - h2).toNat, by omega⟩
  rw [hk]
  by_cases e : h2 = h1
  · rw [if_pos ⟨by omega, e⟩, runL_tail]
    have : h3 = h2 + 1 ∧ (p + 1 - h3).toNat = k := by
      split at e3
      · omega
      · split at e3
        · split at e2 <;> first | omega | (split at e2 <;> omega)
        · omega
    rw [this.2, this.1]
  · rw [if_neg (fun h => e h.2)]
    have : h3 = h2 ∧ (p + 1 - h3).toNat = k + 1 := by
      split at e3
      · split at e2 <;> first | omega | (split at e2 <;> first | omega | (split at e1 <;> first | omega | (split at e1 <;> omega)))
      · split at e3
        · split at e2 <;> first | omega | (split at e2 <;> first | omega | (split at e1 <;> first | omega | (split at e1 <;> omega)))
        · split at e2 <;> first | omega | (split at e2 <;> first | omega | (split at e1 <;> first | omega | (split at e1 <;> omega)))
    rw [this.2, this.1]
end Go.Proofs.Ythcaagkgddeabaa.Bank
