/-
  Law 6: where the things of a config lie, in plain numbers; the plan's own lay. Conditions stand at each. By an AI agent.
-/
import Derived.Test.YtgdfhgoenemanaaDoorPlF
namespace Go.Proofs.YtgdfhgoenemanaaDoor.Plan
set_option linter.unusedVariables false
set_option linter.unusedSimpArgs false
open Go Go.RowKit Go.Proofs.YtgdfhgoenemanaaDoor.Base
structure Sp where
  owners : Int
  seq : Int
  first : Int
  words : Int
  depth : Int
def offP (c : Cf) : Nat → Int
  | 0 => 1 + c.log
  | k + 1 => offP c k + 2 + (c.l k).words * (c.l k).depth
def spF (c : Cf) (k : Nat) : Sp := ⟨offP c k, offP c k + 1, offP c k + 2, (c.l k).words, (c.l k).depth⟩
def spL (s : Sp) : List Value := [.int .i64 s.owners, .int .i64 s.seq, .int .i64 s.first, .int .i64 s.words, .int .i64 s.depth]
def spsL (c : Cf) : Nat → List Value
  | 0 => []
  | k + 1 => spsL c k ++ spL (spF c k)
theorem spsL_len (c : Cf) (k : Nat) : (spsL c k).length = k * 5 := by
  induction k with
  | zero => rfl
  | succ k ih => simp [spsL, spL, ih]; omega
theorem spsL_at (c : Cf) (k i : Nat) (hi : i < k) (j : Nat) (hj : j < 5) : (spsL c k)[i * 5 + j]? = (spL (spF c i))[j]? := by
  induction k with
  | zero => omega
  | succ k ih =>
    unfold spsL
    by_cases e : i < k
    · rw [List.getElem?_append_left (by rw [spsL_len]; omega)]
      exact ih e
    · have e : i = k := by omega
      subst e
      rw [List.getElem?_append_right (by rw [spsL_len]; omega), spsL_len]
      congr 1
      omega
/-- a config without fault -/
structure OkC (c : Cf) : Prop where
  n : 1 ≤ c.n ∧ c.n ≤ 64
  log : 1 ≤ c.log ∧ c.log ≤ 64
  l : ∀ k, k < c.n → (1 ≤ (c.l k).words ∧ (c.l k).words ≤ 64) ∧ 2 ≤ (c.l k).depth ∧ (c.l k).depth ≤ 16
theorem sure_zero {b : Bool} {x : Int} (h : sureE b x = 0) (hx : x ≠ 0) : b = true := by
  cases b with
  | true => rfl
  | false => exact absurd h hx
theorem fault_ok {c : Cf} (h : (faultF c).2 = 0) : faultF c = (0, 0) ∧ OkC c := by
  unfold faultF at h ⊢
  cases h3 : (List.range 3).find? (fun k => decide (askE c k ≠ 0)) with
  | some k =>
    rw [h3] at h
    have := List.find?_some h3
    simp only [decide_eq_true_eq] at this
    exact absurd h this
  | none =>
    rw [h3] at h
    simp only at h ⊢
    cases hn : (List.range c.n).find? (fun i => decide (topicE c.l i ≠ 0)) with
    | some i =>
      rw [hn] at h
      have := List.find?_some hn
      simp only [decide_eq_true_eq] at this
      exact absurd h this
    | none =>
      refine ⟨rfl, ?_⟩
      rw [List.find?_eq_none] at h3 hn
      have a : ∀ k, k < 3 → askE c k = 0 := fun k hk => by have := h3 k (List.mem_range.2 hk); simpa using this
      have t : ∀ k, k < c.n → topicE c.l k = 0 := fun k hk => by have := hn k (List.mem_range.2 hk); simpa using this
      have a1 := sure_zero (show sureE (inB c.n 1 64) 12 = 0 from a 1 (by omega)) (by decide)
      have a2 := sure_zero (show sureE (inB c.tries 1 16 && inB c.log 1 64) 10 = 0 from a 2 (by omega)) (by decide)
      unfold inB at a1 a2
      simp only [decide_eq_true_eq, Bool.and_eq_true] at a1 a2
      refine ⟨by omega, a2.2, fun k hk => ?_⟩
      have h9 := t k hk
      unfold topicE at h9
      split at h9
      · split at h9
        · cases h9
        · have b1 := sure_zero h9 (by decide)
          unfold inB at b1
          simp only [decide_eq_true_eq, Bool.and_eq_true] at b1
          exact b1
      · cases h9
theorem prod_bounds {a b : Int} (h : (1 ≤ a ∧ a ≤ 64) ∧ 2 ≤ b ∧ b ≤ 16) : 2 ≤ a * b ∧ a * b ≤ 1024 := by
  obtain ⟨⟨h1, h2⟩, h3, h4⟩ := h
  have p1 : a * b ≤ 64 * b := Int.mul_le_mul_of_nonneg_right h2 (by omega)
  have p2 : 1 * b ≤ a * b := Int.mul_le_mul_of_nonneg_right h1 (by omega)
  omega
theorem offP_bounds {c : Cf} (h : OkC c) : ∀ k, k ≤ c.n → 1 + c.log ≤ offP c k ∧ offP c k ≤ 65 + 1026 * (k : Int) := by
  intro k hk
  induction k with
  | zero => have := h.log; simp only [offP]; omega
  | succ k ih =>
    have := ih (by omega)
    have := prod_bounds (h.l k (by omega))
    simp only [offP]
    push_cast
    omega
theorem lay_any (nb : Nat) (v n : Int) (w : World) (h : Blk w nb 3 #[.int .i64 v]) (hv : 0 ≤ v ∧ v ≤ 100000) (hn : 0 ≤ n ∧ n ≤ 100000) :
    Calls Tryd.prog 20 #[.int .i64 n, .pointer (some ⟨nb, 0, none⟩)] w fun e w' => e = .returned (.int .i64 v) ∧ w' = w.setCell ⟨nb, 0, none⟩ (.int .i64 (v + n)) := by
  have c0 := h.cell 0
  have f0 := h.frozen 0
  simp only [List.getElem?_toArray, List.getElem?_cons_succ, List.getElem?_cons_zero] at c0
  obtain ⟨h1, h2⟩ := hv
  obtain ⟨h3, h4⟩ := hn
  clear h
  go_enter Tryd.func20, Tryd.ntmps20
  go_wp2_with fail
  go_ret
  exact ⟨rfl, rfl⟩
end Go.Proofs.YtgdfhgoenemanaaDoor.Plan
