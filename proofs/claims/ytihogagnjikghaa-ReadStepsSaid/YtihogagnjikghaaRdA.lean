/-
  A reading alone: how it stands, and what it has, behind each step. No program. By an AI agent.
-/
import Derived.Test.YtihogagnjikghaaRdL
namespace Go.Proofs.Ytihogagnjikghaa.Bank
set_option linter.unusedVariables false
set_option linter.unusedSimpArgs false
open Go Go.RowKit Go.Proofs.Ytihogagnjikghaa.Base

/-- how a reading of generation gen stands behind so many steps -/
def rdX (m gen : Nat) (i : Nat) : RS :=
  if i = 0 then RS.zero else if i ≤ m + 1 then ⟨0, if i = m + 1 then 2 else 1, 0, gen, ((i - 1 : Nat) : Int), 1, i⟩ else ⟨1, 2, 0, gen, m, 1, m + 2⟩
/-- what it has -/
def rdG (ws : List Int) (p m i : Nat) : List Int := (List.range m).map fun j => if j + 1 < i then nth ws (p + j) else 0
theorem rdG_len (ws : List Int) (p m i : Nat) : (rdG ws p m i).length = m := by simp [rdG]
theorem rdG_nth (ws : List Int) (p m i j : Nat) (hj : j < m) : nth (rdG ws p m i) j = if j + 1 < i then nth ws (p + j) else 0 := by
  simp [rdG, nth, List.getD_eq_getElem?_getD, List.getElem?_map, List.getElem?_range hj]
theorem rdG_zero (ws : List Int) (p m i : Nat) (hi : i ≤ 1) : rdG ws p m i = zeros m := by
  refine eq_of_nth (by rw [rdG_len, zeros_len]) fun j hj => ?_
  rw [rdG_len] at hj
  rw [rdG_nth _ _ _ _ _ hj, if_neg (by omega)]
  simp [nth, zeros, List.getD_eq_getElem?_getD, List.getElem?_replicate, hj]
theorem rdG_set (ws : List Int) (p m i : Nat) (hi : i < m) : (rdG ws p m (i + 1)).set i (nth ws (p + i)) = rdG ws p m (i + 2) := by
  refine eq_of_nth (by rw [List.length_set, rdG_len, rdG_len]) fun j hj => ?_
  rw [List.length_set, rdG_len] at hj
  rw [nth_set _ _ _ _ (by rw [rdG_len]; exact hi), rdG_nth _ _ _ _ _ hj, rdG_nth _ _ _ _ _ hj]
  by_cases h : j = i
  · subst h; rw [if_pos rfl, if_pos (by omega)]
  · rw [if_neg h]
    by_cases h2 : j + 1 < i + 1
    · rw [if_pos h2, if_pos (by omega)]
    · rw [if_neg h2, if_neg (by omega)]
theorem rdG_end (ws : List Int) (p m i : Nat) (hi : m + 1 ≤ i) : rdG ws p m i = (List.range m).map fun j => nth ws (p + j) := by
  unfold rdG
  refine List.map_congr_left fun j hj => ?_
  have := List.mem_range.1 hj
  rw [if_pos (by omega)]
theorem plc_at {m d : Nat} (hm : 1 ≤ m ∧ m ≤ 64) (hd : 2 ≤ d ∧ d ≤ 16) (gen : Nat) : atF (spotOf m d) gen = (plc m d gen : Int) := by
  rw [atF_ok (by unfold Spot.AtOk spotOf; simp only; omega)]
  unfold spotOf plc
  simp only
  push_cast
  rfl
theorem plc_fit {m d : Nat} (hm : 1 ≤ m ∧ m ≤ 64) (hd : 2 ≤ d ∧ d ≤ 16) (gen : Nat) : plc m d gen + m ≤ 2 + m * d := by
  have h1 : gen % d < d := Nat.mod_lt _ (by omega)
  have h2 : (gen % d + 1) * m ≤ d * m := Nat.mul_le_mul_right _ h1
  rw [Nat.add_mul, Nat.one_mul, Nat.mul_comm d m] at h2
  unfold plc
  omega
theorem kept_now (v : Int) (hv : 0 ≤ v ∧ v ≤ 9223372036854775807) (d : Nat) (hd : 2 ≤ d ∧ d ≤ 16) : keptB v (v / 2) d = true := by
  unfold keptB newF
  have h1 : v / 2 + v % 2 - v / 2 = v % 2 := by omega
  rw [h1, u64_wrap_in (by omega), decide_eq_true (show (2 : Int) ≤ d ∧ (d : Int) ≤ 16 by omega), decide_eq_true (Int.le_refl _), decide_eq_true (show v % 2 < (d : Int) by omega)]
  rfl
theorem tickN_succ (t : Int) (i : Nat) : tickN t (i + 1) = IntKind.i64.wrap (tickN t i + 1) := rfl
theorem rd_step {m d gen : Nat} {ws : List Int} (hm : 1 ≤ m ∧ m ≤ 64) (hd : 2 ≤ d ∧ d ≤ 16) (h1 : inW ws 1) (hg : wordF ws 1 / 2 = (gen : Int)) (hv : 0 ≤ wordF ws 1 ∧ wordF ws 1 ≤ 9223372036854775807) (tries t : Int) (i : Nat) (hi : i < m + 2)
    (hp : 1 ≤ i → i ≤ m → plc m d gen + (i - 1) < ws.length) :
    rdStep (spotOf m d) tries (rdX m gen i) (rdG ws (plc m d gen) m i) ws (tickN t i) = (rdX m gen (i + 1), rdG ws (plc m d gen) m (i + 1), tickN t (i + 1)) := by
  have hS : (spotOf (m : Int) d).seq = 1 := rfl
  by_cases h0 : i = 0
  · subst h0
    rw [show rdX m gen 0 = RS.zero from rfl, rdG_zero _ _ _ _ (by omega), rdG_zero _ _ _ _ (by omega)]
    unfold rdStep RS.zero
    simp only [ne_eq, not_true, if_false, if_true, show ((0 : Int) = 1) = False by simp]
    rw [hS, if_pos h1, hg, tickF_in h1]
    rw [show rdX m gen (0 + 1) = ⟨0, 1, 0, gen, 0, 1, 1⟩ by unfold rdX; rw [if_neg (by omega), if_pos (by omega), if_neg (by omega)]; rfl]
    rfl
  by_cases h2 : i ≤ m
  · obtain ⟨j, rfl⟩ : ∃ j, i = j + 1 := ⟨i - 1, by omega⟩
    have hpj := hp (by omega) h2
    rw [Nat.add_sub_cancel] at hpj
    have e0 : placeR (spotOf m d) gen (j : Int) = ((plc m d gen + j : Nat) : Int) := by
      unfold placeR
      rw [plc_at hm hd]
      push_cast; rfl
    have e1 : rdX m gen (j + 1) = ⟨0, 1, 0, gen, j, 1, ((j + 1 : Nat) : Int)⟩ := by
      unfold rdX
      rw [if_neg (by omega), if_pos (by omega), if_neg (by omega), Nat.add_sub_cancel]
    rw [e1]
    unfold rdStep
    simp only [ne_eq, not_true, if_false, if_true]
    rw [e0, if_pos (inW_nat _ _ hpj), wordF_nat _ _ hpj, Int.toNat_natCast, rdG_set _ _ _ _ (by omega), rdG_len, tickF_in (inW_nat _ _ hpj)]
    have e2 : rdX m gen (j + 1 + 1) = ⟨0, if (j : Int) + 1 = (m : Int) then 2 else 1, 0, gen, (j : Int) + 1, 1, ((j + 1 : Nat) : Int) + 1⟩ := by
      unfold rdX
      rw [if_neg (by omega), if_pos (by omega), Nat.add_sub_cancel]
      by_cases h9 : j + 1 = m
      · rw [if_pos (by omega), if_pos (by omega)]; push_cast; rfl
      · rw [if_neg (by omega), if_neg (by omega)]; push_cast; rfl
    rw [e2]
    rfl
  · obtain rfl : i = m + 1 := by omega
    have e1 : rdX m gen (m + 1) = ⟨0, 2, 0, gen, m, 1, ((m + 1 : Nat) : Int)⟩ := by
      unfold rdX
      rw [if_neg (by omega), if_pos (by omega), if_pos rfl, Nat.add_sub_cancel]
    rw [e1]
    unfold rdStep
    simp only [ne_eq, not_true, if_false, if_true, show ((2 : Int) = 1) = False by simp, show ((2 : Int) = 0) = False by simp]
    have hk : keptB (wordF ws 1) gen (spotOf (m : Int) d).depth = true := by
      have := kept_now (wordF ws 1) hv d hd
      rw [hg] at this
      exact this
    rw [hS, if_pos h1, if_pos hk, tickF_in h1]
    have e2 : rdX m gen (m + 1 + 1) = ⟨1, 2, 0, gen, m, 1, ((m + 1 : Nat) : Int) + 1⟩ := by
      unfold rdX
      rw [if_neg (by omega), if_neg (by omega)]
      congr 1
    rw [e2, rdG_end _ _ _ _ (by omega), rdG_end _ _ _ _ (by omega)]
    rfl
theorem rdX_how (m gen i : Nat) (hi : i ≤ m + 2) : (rdX m gen i).how = if i = m + 2 then 1 else 0 := by
  unfold rdX RS.zero
  repeat' split
  all_goals first | rfl | omega
theorem rdX_steps (m gen i : Nat) (hi : i ≤ m + 2) : (rdX m gen i).steps = i := by
  unfold rdX RS.zero
  repeat' split
  all_goals simp only <;> omega
theorem rdX_end (m gen : Nat) : rdX m gen (m + 2) = ⟨1, 2, 0, gen, m, 1, m + 2⟩ := by
  unfold rdX
  rw [if_neg (by omega), if_neg (by omega)]
/-- where the bank ends -/
theorem rd_out {m d gen : Nat} {ws : List Int} (hm : 1 ≤ m ∧ m ≤ 64) (hd : 2 ≤ d ∧ d ≤ 16) (tries t : Int) (i : Nat) (h0 : 1 ≤ i) (hi : i ≤ m) (hp : ws.length ≤ plc m d gen + (i - 1)) :
    (rdStep (spotOf m d) tries (rdX m gen i) (rdG ws (plc m d gen) m i) ws t).1.how = 3 ∧ (rdStep (spotOf m d) tries (rdX m gen i) (rdG ws (plc m d gen) m i) ws t).1.steps = i := by
  obtain ⟨j, rfl⟩ : ∃ j, i = j + 1 := ⟨i - 1, by omega⟩
  have e0 : placeR (spotOf m d) gen (j : Int) = ((plc m d gen + j : Nat) : Int) := by
    unfold placeR
    rw [plc_at hm hd]
    push_cast; rfl
  have e1 : rdX m gen (j + 1) = ⟨0, 1, 0, gen, j, 1, ((j + 1 : Nat) : Int)⟩ := by
    unfold rdX
    rw [if_neg (by omega), if_pos (by omega), if_neg (by omega), Nat.add_sub_cancel]
  rw [e1]
  unfold rdStep
  simp only [ne_eq, not_true, if_false, if_true]
  rw [e0, if_neg (fun h => by have := h.2; rw [Nat.add_sub_cancel] at hp; omega)]
  exact ⟨rfl, rfl⟩
theorem rd_range {ws rec : List Int} {p m : Nat} (hl : rec.length = m) (h : ∀ j, j < m → nth ws (p + j) = nth rec j) : ((List.range m).map fun j => nth ws (p + j)) = rec := by
  refine eq_of_nth (by simp [hl]) fun j hj => ?_
  have hj' : j < m := by simpa using hj
  have e : nth ((List.range m).map fun j => nth ws (p + j)) j = nth ws (p + j) := by
    simp [nth, List.getD_eq_getElem?_getD, List.getElem?_map, List.getElem?_range hj']
  rw [e]
  exact h j hj'
end Go.Proofs.Ytihogagnjikghaa.Bank
