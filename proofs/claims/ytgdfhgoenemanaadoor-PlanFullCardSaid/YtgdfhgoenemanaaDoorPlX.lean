/-
  Law 6: how many words are whose among the first so many; a row of counts. Conditions stand at each. By an AI agent.
-/
import Derived.Test.YtgdfhgoenemanaaDoorPlW
import Derived.Laws.MakeOwn
namespace Go.Proofs.YtgdfhgoenemanaaDoor.Plan
set_option linter.unusedVariables false
set_option linter.unusedSimpArgs false
open Go Go.RowKit Go.Proofs.YtgdfhgoenemanaaDoor.Base
def regC (q : Nat) : Int := if q = 0 then 0 else 1
def logC (c : Cf) (q : Nat) : Int := if (q : Int) ≤ 1 then 0 else if (q : Int) ≤ 1 + c.log then (q : Int) - 1 else c.log
def topC (c : Cf) (q k : Nat) : Int := if (q : Int) ≤ offP c k then 0 else if (q : Int) ≤ offP c (k + 1) then (q : Int) - offP c k else offP c (k + 1) - offP c k
theorem regC_bounds (q : Nat) : 0 ≤ regC q ∧ regC q ≤ 1 := by unfold regC; split <;> omega
theorem logC_bounds {c : Cf} (h : OkC c) (q : Nat) : 0 ≤ logC c q ∧ logC c q ≤ 64 := by
  have := h.log
  unfold logC
  split
  · omega
  · split <;> omega
theorem topC_bounds {c : Cf} (h : OkC c) (q k : Nat) (hk : k < c.n) : 0 ≤ topC c q k ∧ topC c q k ≤ 1026 := by
  have h3 : offP c (k + 1) = offP c k + 2 + (c.l k).words * (c.l k).depth := rfl
  have hp := prod_bounds (h.l k hk)
  generalize (c.l k).words * (c.l k).depth = m at *
  unfold topC
  split
  · omega
  · split <;> omega
/-- the word is the register -/
theorem cnt_reg {c : Cf} (h : OkC c) : regC (0 + 1) = regC 0 + 1 ∧ logC c (0 + 1) = logC c 0 ∧ ∀ k, k < c.n → topC c (0 + 1) k = topC c 0 k := by
  refine ⟨rfl, by unfold logC; simp, fun k hk => ?_⟩
  have := offP_bounds h k (by omega)
  have := h.log
  unfold topC
  rw [if_pos (by omega), if_pos (by omega)]
theorem cnt_log {c : Cf} (h : OkC c) {q : Nat} (h1 : 1 ≤ q) (h2 : (q : Int) < 1 + c.log) : regC (q + 1) = regC q ∧ logC c (q + 1) = logC c q + 1 ∧ ∀ k, k < c.n → topC c (q + 1) k = topC c q k := by
  refine ⟨by unfold regC; rw [if_neg (by omega), if_neg (by omega)], ?_, fun k hk => ?_⟩
  · unfold logC
    rw [if_neg (by omega), if_pos (by push_cast; omega)]
    by_cases e : (q : Int) ≤ 1
    · rw [if_pos e]; push_cast; omega
    · rw [if_neg e, if_pos (by omega)]; push_cast; omega
  · have := offP_bounds h k (by omega)
    unfold topC
    rw [if_pos (by push_cast; omega), if_pos (by omega)]
theorem cnt_topic {c : Cf} (h : OkC c) {q k : Nat} (hk : k < c.n) (h1 : offP c k ≤ (q : Int)) (h2 : (q : Int) < offP c (k + 1)) : regC (q + 1) = regC q ∧ logC c (q + 1) = logC c q ∧ topC c (q + 1) k = topC c q k + 1 ∧ ∀ j, j < c.n → j ≠ k → topC c (q + 1) j = topC c q j := by
  have hb := offP_bounds h k (by omega)
  have hl := h.log
  refine ⟨by unfold regC; rw [if_neg (by omega), if_neg (by omega)], ?_, ?_, fun j hj hjk => ?_⟩
  · unfold logC
    rw [if_neg (by push_cast; omega), if_neg (by push_cast; omega), if_neg (by omega)]
    by_cases e : (q : Int) ≤ 1 + c.log
    · rw [if_pos e]; omega
    · rw [if_neg e]
  · unfold topC
    rw [if_neg (by push_cast; omega), if_pos (by push_cast; omega)]
    by_cases e : (q : Int) ≤ offP c k
    · rw [if_pos e]; push_cast; omega
    · rw [if_neg e, if_pos (by omega)]; push_cast; omega
  · unfold topC
    by_cases e : j < k
    · have h5 := offP_mono h (show j + 1 ≤ k by omega) (by omega)
      have h6 := offP_mono h (show j ≤ j + 1 by omega) (by omega)
      rw [if_neg (by push_cast; omega), if_neg (by push_cast; omega)]
      by_cases e2 : (q : Int) ≤ offP c j
      · rw [if_pos e2]; omega
      · rw [if_neg e2]
        by_cases e3 : (q : Int) ≤ offP c (j + 1)
        · rw [if_pos e3]; omega
        · rw [if_neg e3]
    · have h5 := offP_mono h (show k + 1 ≤ j by omega) (by omega)
      rw [if_pos (by push_cast; omega), if_pos (by omega)]
theorem cnt_end {c : Cf} (h : OkC c) {q : Nat} (hq : (q : Int) = offP c c.n) : regC q = 1 ∧ logC c q = c.log ∧ ∀ k, k < c.n → topC c q k = 2 + (c.l k).words * (c.l k).depth := by
  have hb := offP_bounds h c.n (Nat.le_refl _)
  have hl := h.log
  refine ⟨by unfold regC; rw [if_neg (by omega)], ?_, fun k hk => ?_⟩
  · unfold logC
    rw [if_neg (by omega)]
    by_cases e : (q : Int) ≤ 1 + c.log
    · rw [if_pos e]; omega
    · rw [if_neg e]
  · have h3 : offP c (k + 1) = offP c k + 2 + (c.l k).words * (c.l k).depth := rfl
    have hp := prod_bounds (h.l k hk)
    have h5 := offP_mono h (show k + 1 ≤ c.n by omega) (Nat.le_refl _)
    generalize (c.l k).words * (c.l k).depth = m at *
    unfold topC
    rw [if_neg (by omega)]
    by_cases e : (q : Int) ≤ offP c (k + 1)
    · rw [if_pos e]; omega
    · rw [if_neg e]; omega
def cntR (n : Nat) (f : Nat → Int) : Array Value := ((List.range n).map fun j => Value.int .i64 (f j)).toArray
theorem cntR_at (n : Nat) (f : Nat → Int) (j : Nat) (hj : j < n) : (cntR n f)[j]? = some (.int .i64 (f j)) := by simp [cntR, List.getElem?_range hj, hj]
theorem cntR_set (n k : Nat) (f g : Nat → Int) (hg : ∀ j, j < n → j ≠ k → g j = f j) : (cntR n f).setIfInBounds k (.int .i64 (g k)) = cntR n g := by
  apply Array.ext_getElem?
  intro j
  rw [Array.getElem?_setIfInBounds]
  by_cases hj : j < n
  · by_cases e : k = j
    · subst e
      rw [if_pos rfl, if_pos (by simp [cntR]; exact hj), cntR_at n g k hj]
    · rw [if_neg e, cntR_at n f j hj, cntR_at n g j hj, hg j hj (fun h => e h.symm)]
  · have h1 : (cntR n g)[j]? = none := Array.getElem?_eq_none (by simp [cntR]; omega)
    have h2 : (cntR n f)[j]? = none := Array.getElem?_eq_none (by simp [cntR]; omega)
    rw [h1]
    split
    · rw [if_neg (by simp [cntR]; omega)]
    · exact h2
theorem cntR_congr (n : Nat) (f g : Nat → Int) (h : ∀ j, j < n → f j = g j) : cntR n f = cntR n g := by
  unfold cntR
  congr 1
  refine List.map_congr_left fun j hj => ?_
  rw [h j (List.mem_range.1 hj)]
set_option maxRecDepth 100000 in
theorem make_ints (n : Nat) (hn : n ≤ 1048576) (w : World) :
    (Instr.makeSlice 37 (.int .i64 (n : Int)) (.int .i64 (n : Int))).run Tryd.prog w = .ok (.slice (some ⟨w.heap.size, 0, none⟩) n n) (w.alloc (.cells (cntR n (fun _ => 0)) 3)) := by
  obtain ⟨i0, hi, hz0, hz1, hz2⟩ := info_parts int_info
  have hr := run_make (P := Tryd.prog) w 37 3 i0 _ Tryd.underlying37 hi hz0 .i64 .i64 n n (by omega) (by omega) (by rw [hz2]; omega) (by omega)
  rw [hr, hz1]
  simp only [Int.toNat_natCast, Nat.mul_one]
  congr 3
  apply Array.toList_inj.1
  rw [show (Value.int .i64 0).cells = #[.int .i64 0] from rfl, toList_madeCells_one]
  refine List.ext_getElem? fun i => ?_
  unfold cntR
  by_cases hi : i < n
  · simp [List.getElem?_map, List.getElem?_range hi, List.getElem?_replicate, hi]
  · rw [List.getElem?_eq_none (by simpa using hi), List.getElem?_eq_none (by simpa using hi)]
end Go.Proofs.YtgdfhgoenemanaaDoor.Plan
