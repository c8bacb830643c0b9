/-
  Modes: the plain table of ways, and what the functions of layer 13 compute, with no program in sight. No condition. By an AI agent.
-/
import Derived.Test.YthhellgaafbokaaBase
namespace Go.Proofs.Ythhellgaafbokaa.Modes
set_option linter.unusedVariables false
set_option linter.unusedSimpArgs false
open Go Go.RowKit Go.Proofs.Ythhellgaafbokaa.Base

def tab : List Int := [0, 4432, 0, 0, 0, 0, 0, 0, 4112, 0, 4944, 0, 0, 0, 0, 4096, 0, 0, 0, 5184, 0, 0, 4096, 4096, 0, 0, 0, 0, 5568, 5248, 6144, 4096, 0, 0, 0, 5184, 0, 5248, 6144, 4096, 0, 0, 0, 5568, 0, 0, 6144, 4096, 4112, 0, 0, 5472, 0, 0, 0, 4096, 4112, 0, 0, 6080, 0, 0, 4096, 0]
/-- the table lies in block 0 -/
def Tab (w : World) : Prop := ∀ i : Nat, i < 64 → w.cell? ⟨0, i, none⟩ = some (.int .i64 (tab.getD i 0))
theorem Tab.below {w w' : World} (h : Tab w) (hb : Below w.heap.size w w') : Tab w' := fun i hi =>
  (hb.cell (p := ⟨0, i, none⟩) (lt_of_cell (a := ⟨0, i, none⟩) (h i hi))).trans (h i hi)
theorem Tab.drewN {w : World} (h : Tab w) (n : Nat) : Tab (w.drewN n) := h
def wayZ (a b : Int) : Int := if 0 ≤ a ∧ a < 8 ∧ 0 ≤ b ∧ b < 8 then tab.getD (a.toNat * 8 + b.toNat) 0 else 0
def wayB (a b : Int) : Bool := wayZ a b != 0
theorem wayZ_in {a b : Int} (h : 0 ≤ a ∧ a < 8 ∧ 0 ≤ b ∧ b < 8) : wayZ a b = tab.getD (a.toNat * 8 + b.toNat) 0 := if_pos h
theorem wayZ_out {a b : Int} (h : ¬ (0 ≤ a ∧ a < 8 ∧ 0 ≤ b ∧ b < 8)) : wayZ a b = 0 := if_neg h
/-- a fact on every way, asked at 64 places -/
theorem wayZ_all (p : Int → Int → Int → Prop) (h : ∀ i : Fin 8, ∀ j : Fin 8, p i j (tab.getD (i.val * 8 + j.val) 0)) {a b : Int} (hr : 0 ≤ a ∧ a < 8 ∧ 0 ≤ b ∧ b < 8) : p a b (wayZ a b) := by
  obtain ⟨a0, a1, b0, b1⟩ := hr
  obtain ⟨i, rfl⟩ := Int.eq_ofNat_of_zero_le a0
  obtain ⟨j, rfl⟩ := Int.eq_ofNat_of_zero_le b0
  rw [wayZ_in ⟨a0, a1, b0, b1⟩]
  have := h ⟨i, by omega⟩ ⟨j, by omega⟩
  simpa using this
theorem tab_range : ∀ i : Nat, 0 ≤ tab.getD i 0 ∧ tab.getD i 0 ≤ 8191 := by
  intro i
  by_cases h : i < 64
  · have : ∀ j : Fin 64, 0 ≤ tab.getD j.val 0 ∧ tab.getD j.val 0 ≤ 8191 := by decide
    exact this ⟨i, h⟩
  · have : tab.getD i 0 = 0 := by
      rw [List.getD_eq_getElem?_getD, List.getElem?_eq_none (by simp [tab]; omega)]; rfl
    omega
theorem wayZ_range (a b : Int) : 0 ≤ wayZ a b ∧ wayZ a b ≤ 8191 := by
  unfold wayZ
  split
  · exact tab_range _
  · omega
def needZ (a b : Int) : Int := bits .andNot .i64 (wayZ a b) 4096 / 64
def notZ (a b : Int) : Int := bits .and .i64 (bits .andNot .i64 (wayZ a b) 4096) 63

def badAt (l : List Int) (i : Nat) : Bool := if i = 0 then nth l 0 != 0 else !(wayB (nth l (i - 1)) (nth l i))
def pathF (l : List Int) : Int × Bool := match (List.range l.length).find? (badAt l) with
  | some i => (i, false)
  | none => (0, true)
theorem pathF_at {l : List Int} {k : Nat} (hk : k < l.length) (hb : badAt l k = true) (hall : ∀ j, j < k → badAt l j = false) : pathF l = ((k : Int), false) := by
  have : (List.range l.length).find? (badAt l) = some k := by
    rw [List.find?_range_eq_some]
    exact ⟨hb, by simpa using hk, fun j hj => by simpa using hall j hj⟩
  simp [pathF, this]
theorem pathF_none {l : List Int} (hall : ∀ j, j < l.length → badAt l j = false) : pathF l = (0, true) := by
  have : (List.range l.length).find? (badAt l) = none := by
    rw [List.find?_eq_none]
    intro j hj
    simpa using hall j (by simpa using hj)
  simp [pathF, this]
def sameF (a b : List Int) : Bool := a == b
theorem sameF_ne {xs ys : List Int} {k : Nat} (_ : k < xs.length) (h : nth xs k ≠ nth ys k) : sameF xs ys = false := by
  unfold sameF
  simp only [beq_eq_false_iff_ne, ne_eq]
  rintro rfl
  exact h rfl
theorem sameF_len {xs ys : List Int} (h : ¬ xs.length = ys.length) : sameF xs ys = false := by
  unfold sameF
  simp only [beq_eq_false_iff_ne, ne_eq]
  rintro rfl
  exact h rfl
theorem sameF_eq {xs ys : List Int} (h : xs.length = ys.length) (ha : ∀ j, j < xs.length → nth xs j = nth ys j) : sameF xs ys = true := by
  unfold sameF
  rw [beq_iff_eq]
  refine List.ext_getElem h fun i h1 h2 => ?_
  have := ha i h1
  simpa [nth, List.getD_eq_getElem?_getD, List.getElem?_eq_getElem h1, List.getElem?_eq_getElem h2] using this

/-! ### Reach -/
def stepR (f : Nat → Bool) (j : Nat) : Bool := f j || (List.range 8).any fun a => f a && wayB (a : Int) (j : Int)
def reachR (s : Nat) : Nat → Nat → Bool
  | 0, j => j == s
  | k + 1, j => stepR (reachR s k) j
/-- next, once the rows ahead of a are done, and of row a the places ahead of b -/
def midR (f : Nat → Bool) (a b j : Nat) : Bool := f j || ((List.range a).any fun a' => f a' && wayB (a' : Int) (j : Int)) || (decide (j < b) && f a && wayB (a : Int) (j : Int))
theorem midR_start (f : Nat → Bool) (j : Nat) : midR f 0 0 j = f j := by simp [midR]
theorem midR_row (f : Nat → Bool) (a j : Nat) (hj : j < 8) : midR f a 8 j = midR f (a + 1) 0 j := by
  simp [midR, List.range_succ, hj, Bool.or_assoc]
theorem midR_end (f : Nat → Bool) (j : Nat) : midR f 8 0 j = stepR f j := by simp [midR, stepR]
theorem midR_other (f : Nat → Bool) (a b j : Nat) (h : j ≠ b) : midR f a (b + 1) j = midR f a b j := by
  have : (decide (j < b + 1)) = decide (j < b) := by rw [decide_eq_decide]; omega
  simp [midR, this]
theorem midR_here (f : Nat → Bool) (a b : Nat) : midR f a (b + 1) b = (midR f a b b || (f a && wayB (a : Int) (b : Int))) := by
  simp [midR]
/-- what was gathered of the places ahead of k -/
def gath (f : Nat → Bool) (k : Nat) : List Int := ((List.range k).filter f).map Int.ofNat
theorem gath_succ_yes {f : Nat → Bool} {k : Nat} (h : f k = true) : gath f (k + 1) = gath f k ++ [(k : Int)] := by
  simp [gath, List.range_succ, List.filter_append, h]
theorem gath_succ_no {f : Nat → Bool} {k : Nat} (h : f k = false) : gath f (k + 1) = gath f k := by
  simp [gath, List.range_succ, List.filter_append, h]
theorem gath_len (f : Nat → Bool) (k : Nat) : (gath f k).length ≤ k := by
  have := List.length_filter_le f (List.range k)
  simpa [gath] using this
def reachL (s n : Int) : List Int := if 0 ≤ s ∧ s < 8 ∧ 0 ≤ n then gath (reachR s.toNat (min n.toNat 8)) 8 else []
end Go.Proofs.Ythhellgaafbokaa.Modes
