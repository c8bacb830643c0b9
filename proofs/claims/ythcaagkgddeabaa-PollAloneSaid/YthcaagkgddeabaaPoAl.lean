/-
  Law 12: what a poll alone tells, in plain words. No program. By an AI agent.
-/
import Derived.Test.YthcaagkgddeabaaPoY
namespace Go.Proofs.Ythcaagkgddeabaa.Bank
set_option linter.unusedVariables false
set_option linter.unusedSimpArgs false
open Go Go.RowKit Go.Proofs.Ythcaagkgddeabaa.Base Go.Deep Go.ChangeShapes Go.WideShapes Go.Proofs.Ythcaagkgddeabaa.Queue
theorem Chosen.genIs {c : PC} {x : PX} (h : Chosen c x) (hc : c.Ok) (hcur : ∀ i, i < c.n → (x.cu i).Right ∧ (x.cu i).Ok) (hgl : ∀ v ∈ x.gl, 0 ≤ v ∧ v < 9223372036854775808) (hlen : x.gl.length = c.T) {k : Nat} (hk : pickF c x = (k : Int)) :
    k < c.n ∧ x.gen = (Queue.seen (x.cu k) (nth x.gl (c.ix k))).next ∧ x.gen ≤ nth x.gl (c.ix k) ∧ (x.cu k).next ≤ x.gen ∧ takeE (x.cu k) (nth x.gl (c.ix k)) = 0 := by
  have hkn : k < c.n := by have := pickF_ge c x; omega
  have hz : ¬ pickF c x < 0 := by omega
  obtain ⟨h1, _, _⟩ := h.some hz
  have e : (pickF c x).toNat = k := by omega
  rw [e] at h1
  have hb := best_has (c.sub x.cu) (gensL c x.gl) c.n (show 0 ≤ best (c.sub x.cu) (gensL c x.gl) c.n from by have : best (c.sub x.cu) (gensL c x.gl) c.n = (k : Int) := hk; omega)
  have e2 : (best (c.sub x.cu) (gensL c x.gl) c.n).toNat = k := e
  rw [e2, gensL_nth c x.gl hkn] at hb
  simp only [PC.sub] at hb
  obtain ⟨hr, ho⟩ := hcur k hkn
  have hg := hgl _ (nth_mem (i := c.ix k) (by rw [hlen]; exact (hc.ix k hkn).1))
  have hm : mayE (x.cu k) (nth x.gl (c.ix k)) = 0 := mayE_yes hr hg.2
  have ht : takeE (x.cu k) (nth x.gl (c.ix k)) = 0 := by unfold takeE; rw [if_pos hm, if_neg hb]
  have hgen : x.gen = (Queue.seen (x.cu k) (nth x.gl (c.ix k))).next := by
    rw [h1]
    unfold genF takeX
    rw [if_pos ht]
  refine ⟨hkn, hgen, by rw [hgen]; omega, ?_, ht⟩
  rw [hgen]
  rcases seen_next (c := x.cu k) (g := nth x.gl (c.ix k)) with h9 | h9
  · exact h9
  · have := hr.1; omega
theorem seqsL_mem (s : Nat → Spot) (k : Nat) (z : Int) : z ∈ seqsL s k ↔ ∃ j, j < k ∧ (s j).seq = z := by
  induction k with
  | zero => simp [seqsL]
  | succ k ih =>
    rw [seqsL_succ]
    by_cases h : (s k).seq ∈ seqsL s k
    · rw [if_pos h, ih]
      constructor
      · rintro ⟨j, hj, e⟩; exact ⟨j, by omega, e⟩
      · rintro ⟨j, hj, e⟩
        by_cases ej : j = k
        · subst ej; rw [← e]; exact (ih.1 (e ▸ h)) |> fun ⟨j', h1, h2⟩ => ⟨j', h1, by rw [h2, e]⟩
        · exact ⟨j, by omega, e⟩
    · rw [if_neg h, List.mem_append, ih]
      constructor
      · rintro (⟨j, hj, e⟩ | h1)
        · exact ⟨j, by omega, e⟩
        · simp at h1; exact ⟨k, by omega, h1.symm⟩
      · rintro ⟨j, hj, e⟩
        by_cases ej : j = k
        · subst ej; exact .inr (by simp [e])
        · exact .inl ⟨j, by omega, e⟩
theorem seqs_tops {n m : Nat} {l : Nat → Queue.Sub} {s : Nat → Spot} (h : Fits n m l s) : ∀ k, k ≤ n → (seqsL s k).length = (topsL l s k).length := by
  intro k
  induction k with
  | zero => intro _; rfl
  | succ k ih =>
    intro hk
    have ih := ih (by omega)
    rw [seqsL_succ]
    show _ = (if (topsL l s k).any (fun t => t.n == (l k).topic) then topsL l s k else topsL l s k ++ [⟨(l k).topic, s k⟩]).length
    have hiff : (s k).seq ∈ seqsL s k ↔ (topsL l s k).any (fun t => t.n == (l k).topic) = true := by
      rw [seqsL_mem, List.any_eq_true]
      constructor
      · rintro ⟨j, hj, e⟩
        have et : (l j).topic = (l k).topic := by
          rcases Int.lt_trichotomy (l j).topic (l k).topic with h1 | h1 | h1
          · exact absurd e (fits_seq h (by omega) (by omega) (by omega))
          · exact h1
          · exact absurd e (fits_seq h (by omega) (by omega) (by omega))
        obtain ⟨t, ht, he⟩ := topsL_has l s k j hj
        exact ⟨t, ht, by simpa using he.trans et⟩
      · rintro ⟨t, ht, he⟩
        obtain ⟨j, hj, rfl⟩ := topsL_mem l s k t ht
        exact ⟨j, hj, by rw [fits_spot h (i := j) (j := k) (by omega) (by omega) (by simpa using he)]⟩
    by_cases hm : (s k).seq ∈ seqsL s k
    · rw [if_pos hm, if_pos (hiff.1 hm)]; exact ih
    · rw [if_neg hm, if_neg (fun h => hm (hiff.2 h))]; simp [ih]
theorem maxW_ge (s : Nat → Spot) {k n : Nat} (h : k < n) : (s k).words ≤ maxW s n := by
  induction n with
  | zero => omega
  | succ n ih =>
    show _ ≤ max (maxW s n) (s n).words
    by_cases e : k = n
    · subst e; omega
    · have := ih (by omega); omega
theorem most_ge {n m : Nat} {l : Nat → Queue.Sub} {s : Nat → Spot} {tries z : Int} (h : Fits n m l s) (ht : 1 ≤ tries ∧ tries ≤ 16) (hz : 0 ≤ z ∧ z ≤ maxW s n) : 2 * ((topsL l s n).length : Int) + z ≤ mostF n s tries := by
  have hok : ∀ i, i < n → (s i).AtOk := fun i hi => (h.2.2 i hi).1
  unfold mostF
  rw [if_pos ⟨h.1, ht, hok⟩, seqs_tops h n (Nat.le_refl n)]
  have h1 := (maxW_range s n hok).1
  have h2 : 1 * (2 * ((topsL l s n).length : Int) + maxW s n) ≤ tries * (2 * ((topsL l s n).length : Int) + maxW s n) := Int.mul_le_mul_of_nonneg_right ht.1 (by omega)
  rw [Int.one_mul] at h2
  omega
/-- what a poll that is done tells of the bank -/
theorem AInv.told {c : PC} {cu0 : Nat → Cur} {WS : List Int} {tries : Int} {x : PX} {j : Nat} (h : AInv c cu0 WS tries x j) (hl : Lies c WS) (h1 : x.how = 1) (hg : gOk c WS x c.T) (hw : wOk WS x) :
    (x.pick = -1 ∧ x.gen = 0 ∧ x.words.length = 0 ∧ x.size = 0) ∨
    ∃ k : Nat, k < c.n ∧ x.pick = (k : Int) ∧ (x.words.length : Int) = (c.tp (c.ix k)).spot.words ∧ x.size = (c.tp (c.ix k)).spot.words ∧ (cu0 k).next ≤ x.gen ∧ x.gen ≤ wordF WS (c.tp (c.ix k)).spot.seq / 2 ∧ (0 ≤ x.gen ∧ x.gen ≤ 18446744073709551615) ∧ (c.tp (c.ix k)).spot.AtOk ∧
      ∀ i, i < x.words.length → nth x.words i = wordF WS (atF (c.tp (c.ix k)).spot x.gen + (i : Int)) ∧ (0 ≤ atF (c.tp (c.ix k)).spot x.gen + (i : Int) ∧ atF (c.tp (c.ix k)).spot x.gen + (i : Int) < 60) := by
  obtain ⟨_, hch, hwl⟩ := h.good.fin h1
  have hok := h.good.ok
  by_cases hz : pickF c { x with cu := cu0 } < 0
  · left
    obtain ⟨a, b⟩ := hch.none hz
    have hp := hch.pick
    have hge := (pickF_ge c { x with cu := cu0 }).1
    try simp only at a
    try simp only at b
    try simp only at hp
    exact ⟨by omega, a, by omega, b⟩
  · right
    obtain ⟨k, hk⟩ : ∃ k : Nat, pickF c { x with cu := cu0 } = (k : Int) := ⟨_, (Int.toNat_of_nonneg (by omega)).symm⟩
    have hs := hch.some hz
    rw [hk] at hs
    simp only [Int.toNat_natCast] at hs
    obtain ⟨hkn, hgen, hle, hge, _⟩ := hch.genIs hok h.good.cur h.good.gl h.good.glen hk
    have hx := hok.ix k hkn
    have hgk := hg (c.ix k) hx.1
    try simp only at hgen
    try simp only at hle
    try simp only at hge
    have h63 := h.good.gl _ (nth_mem (i := c.ix k) (by rw [h.good.glen]; exact hx.1))
    have hn := (h.good.cur k hkn).2.next
    obtain ⟨_, hpl, hsz⟩ := hs
    try simp only at hpl
    try simp only at hsz
    refine ⟨k, hkn, by exact hch.pick.trans hk, by rw [hwl, hsz], hsz, hge, by rw [← hgk]; exact hle, ⟨by omega, by omega⟩, hok.atOk _ hx.1, fun i hi => ?_⟩
    have h9 := hch.lies hok hl (j := (i : Int)) (by omega) (by show (i : Int) < x.size; omega)
    try simp only at h9
    refine ⟨by rw [← hpl]; exact hw i hi, by rw [← hpl]; exact h9⟩
end Go.Proofs.Ythcaagkgddeabaa.Bank
