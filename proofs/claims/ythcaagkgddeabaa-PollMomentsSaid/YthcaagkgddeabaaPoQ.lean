/-
  Law 12: which topics a poll looks at, in plain words. No program but the types of cells. By an AI agent.
-/
import Derived.Test.YthcaagkgddeabaaPoL
import Derived.Test.YthcaagkgddeabaaPoP
import Derived.Test.YthcaagkgddeabaaPoJ
namespace Go.Proofs.Ythcaagkgddeabaa.Bank
set_option linter.unusedVariables false
set_option linter.unusedSimpArgs false
open Go Go.RowKit Go.Proofs.Ythcaagkgddeabaa.Base Go.Deep Go.ChangeShapes Go.WideShapes Go.Proofs.Ythcaagkgddeabaa.Queue
/-- the topics of the first so many subscriptions, each once -/
def topsL (l : Nat → Queue.Sub) (s : Nat → Spot) : Nat → List Tp
  | 0 => []
  | k + 1 => if (topsL l s k).any (fun t => t.n == (l k).topic) then topsL l s k else topsL l s k ++ [⟨(l k).topic, s k⟩]
theorem topsL_len (l : Nat → Queue.Sub) (s : Nat → Spot) (k : Nat) : (topsL l s k).length ≤ k := by
  induction k with
  | zero => exact Nat.le_refl _
  | succ k ih =>
    unfold topsL
    split
    · omega
    · simp; omega
theorem topsL_mem (l : Nat → Queue.Sub) (s : Nat → Spot) : ∀ (k : Nat) (t : Tp), t ∈ topsL l s k → ∃ i, i < k ∧ t = ⟨(l i).topic, s i⟩ := by
  intro k
  induction k with
  | zero => intro t ht; simp [topsL] at ht
  | succ k ih =>
    intro t ht
    unfold topsL at ht
    split at ht
    · obtain ⟨i, hi, h⟩ := ih t ht; exact ⟨i, by omega, h⟩
    · rcases List.mem_append.1 ht with h | h
      · obtain ⟨i, hi, h⟩ := ih t h; exact ⟨i, by omega, h⟩
      · simp at h; exact ⟨k, by omega, h⟩
theorem topsL_has (l : Nat → Queue.Sub) (s : Nat → Spot) : ∀ (k i : Nat), i < k → ∃ t ∈ topsL l s k, t.n = (l i).topic := by
  intro k
  induction k with
  | zero => intro i hi; omega
  | succ k ih =>
    intro i hi
    unfold topsL
    by_cases e : i = k
    · subst e
      split
      · rename_i h
        obtain ⟨t, ht, h2⟩ := List.any_eq_true.1 h
        exact ⟨t, ht, by simpa using h2⟩
      · exact ⟨⟨(l i).topic, s i⟩, List.mem_append_right _ (by simp), rfl⟩
    · obtain ⟨t, ht, h⟩ := ih i (by omega)
      split
      · exact ⟨t, ht, h⟩
      · exact ⟨t, List.mem_append_left _ ht, h⟩
theorem topsL_apart (l : Nat → Queue.Sub) (s : Nat → Spot) (k : Nat) : (topsL l s k).Pairwise (fun a b => a.n ≠ b.n) := by
  induction k with
  | zero => exact List.Pairwise.nil
  | succ k ih =>
    unfold topsL
    split
    · exact ih
    · rename_i h
      rw [List.pairwise_append]
      refine ⟨ih, List.pairwise_singleton _ _, fun a ha b hb => ?_⟩
      simp at hb
      subst hb
      simp only [List.any_eq_true, not_exists, not_and] at h
      intro e
      exact h a ha (by simpa using e)
def topsS (l : Nat → Queue.Sub) (s : Nat → Spot) (n : Nat) : List Tp := (topsL l s n).mergeSort (fun a b => decide (a.n ≤ b.n))
theorem topsS_perm (l : Nat → Queue.Sub) (s : Nat → Spot) (n : Nat) : (topsS l s n).Perm (topsL l s n) := List.mergeSort_perm _ _
theorem topsS_up (l : Nat → Queue.Sub) (s : Nat → Spot) (n : Nat) : (topsS l s n).Pairwise (fun a b => a.n < b.n) := by
  have h1 : (topsS l s n).Pairwise (fun a b => (decide (a.n ≤ b.n)) = true) := List.pairwise_mergeSort (fun a b c h1 h2 => by simp at *; omega) (fun a b => by simp; omega) _
  have h2 : (topsS l s n).Pairwise (fun a b => a.n ≠ b.n) := ((topsS_perm l s n).pairwise_iff (fun h => fun e => h e.symm)).2 (topsL_apart l s n)
  refine (h1.and h2).imp (fun {a b} h => ?_)
  have := of_decide_eq_true h.1
  have := h.2
  omega
theorem topsS_only {l : Nat → Queue.Sub} {s : Nat → Spot} {n : Nat} {d : List Tp} (hp : d.Perm (topsL l s n)) (hu : d.Pairwise (fun a b => a.n < b.n)) : d = topsS l s n :=
  List.Perm.eq_of_pairwise (fun a b _ _ h1 h2 => by omega) hu (topsS_up l s n) (hp.trans (topsS_perm l s n).symm)
/-- what stays of a poll of these subscriptions, and spots -/
def cOf (n : Nat) (l : Nat → Queue.Sub) (s : Nat → Spot) : PC :=
  ⟨n, (topsS l s n).length, fun i => (l i).topic, fun i => (l i).rank, fun k => (topsS l s n).getD k default, fun i => (topsS l s n).findIdx (fun t => t.n == (l i).topic)⟩
theorem cOf_tp {n : Nat} {l : Nat → Queue.Sub} {s : Nat → Spot} {k : Nat} (hk : k < (topsS l s n).length) : (cOf n l s).tp k = (topsS l s n)[k] := by
  show (topsS l s n).getD k default = _
  rw [List.getD_eq_getElem?_getD, List.getElem?_eq_getElem hk]
  rfl
theorem cOf_ix {n : Nat} {l : Nat → Queue.Sub} {s : Nat → Spot} {i : Nat} (hi : i < n) : (cOf n l s).ix i < (cOf n l s).T ∧ ((cOf n l s).tp ((cOf n l s).ix i)).n = (l i).topic := by
  obtain ⟨t, ht, he⟩ := topsL_has l s n i hi
  have hx : (topsS l s n).findIdx (fun t => t.n == (l i).topic) < (topsS l s n).length := List.findIdx_lt_length_of_exists ⟨t, (topsS_perm l s n).symm.subset ht, by simpa using he⟩
  refine ⟨hx, ?_⟩
  show ((cOf n l s).tp ((topsS l s n).findIdx (fun t => t.n == (l i).topic))).n = _
  rw [cOf_tp hx]
  have := List.findIdx_getElem (w := hx)
  simpa using this
theorem cOf_mem {n : Nat} {l : Nat → Queue.Sub} {s : Nat → Spot} {k : Nat} (hk : k < (cOf n l s).T) : ∃ i, i < n ∧ (cOf n l s).tp k = ⟨(l i).topic, s i⟩ := by
  have hk' : k < (topsS l s n).length := hk
  obtain ⟨i, hi, e⟩ := topsL_mem l s n _ ((topsS_perm l s n).subset (List.getElem_mem hk'))
  exact ⟨i, hi, by rw [cOf_tp hk', e]⟩
theorem fits_spot {n m : Nat} {l : Nat → Queue.Sub} {s : Nat → Spot} (h : Fits n m l s) {i j : Nat} (hi : i < n) (hj : j < n) (e : (l i).topic = (l j).topic) : s i = s j := by
  rcases Nat.lt_trichotomy i j with h1 | h1 | h1
  · exact (((h.2.2 j hj).2.2.2 i h1).1 e.symm).symm
  · rw [h1]
  · exact ((h.2.2 i hi).2.2.2 j h1).1 e
theorem fits_seq {n m : Nat} {l : Nat → Queue.Sub} {s : Nat → Spot} (h : Fits n m l s) {i j : Nat} (hi : i < n) (hj : j < n) (e : (l i).topic ≠ (l j).topic) : (s i).seq ≠ (s j).seq := by
  rcases Nat.lt_trichotomy i j with h1 | h1 | h1
  · exact fun e2 => ((h.2.2 j hj).2.2.2 i h1).2 (fun e3 => e e3.symm) e2.symm
  · subst h1; exact absurd rfl e
  · exact ((h.2.2 i hi).2.2.2 j h1).2 e
theorem cOf_spot {n m : Nat} {l : Nat → Queue.Sub} {s : Nat → Spot} (h : Fits n m l s) {i : Nat} (hi : i < n) : ((cOf n l s).tp ((cOf n l s).ix i)).spot = s i := by
  obtain ⟨h1, h2⟩ := cOf_ix (s := s) hi
  obtain ⟨j, hj, e⟩ := cOf_mem h1
  rw [e] at h2 ⊢
  exact fits_spot h hj hi h2
theorem cOf_ok {n m : Nat} {l : Nat → Queue.Sub} {s : Nat → Spot} (h : Fits n m l s) (h64 : n ≤ 64) (hr : ∀ i, i < n → (l i).Ok) : (cOf n l s).Ok where
  n1 := by have := h.1; show 1 ≤ n; omega
  n64 := h64
  t1 := by
    have := h.1
    have := (cOf_ix (n := n) (l := l) (s := s) (i := 0) (by omega)).1
    omega
  tn := by
    show (topsS l s n).length ≤ n
    rw [(topsS_perm l s n).length_eq]
    exact topsL_len l s n
  up := by
    intro a b hab hb
    have hb' : b < (topsS l s n).length := hb
    have hu := topsS_up l s n
    rw [List.pairwise_iff_getElem] at hu
    have := hu a b (by omega) hb' hab
    rw [cOf_tp hb', cOf_tp (by omega)]
    exact this
  ix := fun i hi => cOf_ix hi
  atOk := by
    intro a ha
    obtain ⟨i, hi, e⟩ := cOf_mem ha
    rw [e]
    exact (h.2.2 i hi).1
  rk := fun i hi => (hr i hi).rank
/-- topics that lie in a row of one's own, as they were made -/
theorem zeros_nth (n i : Nat) : nth (zeros n) i = 0 := by
  unfold nth zeros
  rw [List.getD_eq_getElem?_getD]
  by_cases h : i < n
  · simp [h]
  · simp [h]
theorem encT_topC (t : Tp) {j : Nat} (hj : j < 7) : (encT t)[j]? = some (topC t 0 j) := by
  have hj7 : j = 0 ∨ j = 1 ∨ j = 2 ∨ j = 3 ∨ j = 4 ∨ j = 5 ∨ j = 6 := by omega
  rcases hj7 with rfl | rfl | rfl | rfl | rfl | rfl | rfl <;> rfl
theorem topsIn_of_own {w : World} {base n : Nat} {v : Value} {d : List Tp} (h : w.ownsRow base 106 7 v n (flatT d)) (hl : d.length = n) (hn : 0 < n) : ∃ r c, v = .slice (some ⟨r, 0, none⟩) n c ∧ base ≤ r ∧ TopsIn w r n (fun i => d.getD i default) (zeros n) := by
  have hf := fun g (hg : v.ownBlock = some g) => own_fro h hg
  rcases h.2 with ⟨rfl, h0⟩ | ⟨g, cap, cur, rfl, hbg, hh, _⟩
  · omega
  · refine ⟨g, cap, rfl, hbg, (h.lt g rfl).2, fun i hi j hj => ?_, hf _ rfl⟩
    have h1 := flatT_get d i (d.getD i default) (by rw [List.getD_eq_getElem?_getD, List.getElem?_eq_getElem (by omega)]; rfl) j hj
    rw [encT_topC _ hj] at h1
    have := h.cells (g := g) rfl (i * 7 + j) _ h1
    have e : (⟨g, 0, none⟩ : Addr).add (i * 7 + j) = ⟨g, i * 7 + j, none⟩ := by unfold Addr.add; split <;> simp_all
    rw [zeros_nth]
    rwa [e] at this
theorem tps_of_own {w : World} {base n : Nat} {v : Value} {d : List Tp} (h : w.ownsRow base 106 7 v n (flatT d)) (hl : d.length = n) (hm : n ≤ maxLen) : Tps w v n (fun i => d.getD i default) (zeros n) := by
  by_cases hn : 0 < n
  · obtain ⟨r, c, rfl, _, hin⟩ := topsIn_of_own h hl hn
    exact hin.tps hm
  · rcases h.2 with ⟨rfl, h0⟩ | ⟨g, cap, cur, rfl, _⟩
    · subst h0
      exact ⟨⟨none, 0, rfl, hm, fun h => absurd h (by omega)⟩⟩
    · exact ⟨⟨_, _, rfl, hm, fun h => absurd h hn⟩⟩
end Go.Proofs.Ythcaagkgddeabaa.Bank
