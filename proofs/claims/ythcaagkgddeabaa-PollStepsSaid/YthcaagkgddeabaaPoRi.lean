/-
  Law 12: the document's picks are the program's, in plain words. No program. By an AI agent.
  Law 12: the document's order of topics, in plain words. No program. By an AI agent.
-/
import Derived.Test.YthcaagkgddeabaaPoRg
import Derived.Test.YthcaagkgddeabaaPoQ
namespace Go.Proofs.Ythcaagkgddeabaa.Bank
set_option linter.unusedVariables false
set_option linter.unusedSimpArgs false
open Go Go.RowKit Go.Proofs.Ythcaagkgddeabaa.Base Go.Deep Go.ChangeShapes Go.WideShapes Go.Proofs.Ythcaagkgddeabaa.Queue
theorem gensR_eq {c : PC} {gl L : List Int} (hx : ∀ i, i < c.n → c.ix i < c.T) (h : ∀ k, k < c.T → nth gl k = nth L k / 2) : gensR c.n c.ix L = gensL c gl := by
  refine eq_of_nth (by rw [gensR_len, gensL_len]) (fun j hj => ?_)
  rw [gensR_len] at hj
  rw [gensR_nth _ _ hj, gensL_nth c gl hj, h _ (hx j hj)]
theorem cOf_sub (n : Nat) (l : Nat → Queue.Sub) (s : Nat → Spot) : (cOf n l s).sub (fun i => (l i).cur) = l := rfl
theorem best_eq (n : Nat) (l : Nat → Queue.Sub) (s : Nat → Spot) {x : PX} (hcu : x.cu = fun i => (l i).cur) : best l (gensL (cOf n l s) x.gl) n = pickF (cOf n l s) x := by
  unfold pickF
  rw [hcu]
  rfl
theorem pickR_eq (n : Nat) (l : Nat → Queue.Sub) (s : Nat → Spot) {x : PX} (hcu : x.cu = fun i => (l i).cur) : pickR n l (gensL (cOf n l s) x.gl) = pickF (cOf n l s) x := by
  have hg := (pickF_ge (cOf n l s) x).1
  unfold pickR
  rw [best_eq n l s hcu]
  split <;> omega
theorem sizeR_eq {n m : Nat} {l : Nat → Queue.Sub} {s : Nat → Spot} {x : PX} (hf : Fits n m l s) (hch : Chosen (cOf n l s) x) (hcu : x.cu = fun i => (l i).cur) : sizeR n l s (gensL (cOf n l s) x.gl) = x.size := by
  unfold sizeR
  rw [best_eq n l s hcu]
  by_cases hz : pickF (cOf n l s) x < 0
  · rw [if_pos hz, (hch.none hz).2]
  · rw [if_neg hz, (hch.some hz).2.2]
    have hk : (pickF (cOf n l s) x).toNat < n := by have h9 : pickF (cOf n l s) x < ((cOf n l s).n : Int) := (pickF_ge (cOf n l s) x).2; have e : (cOf n l s).n = n := rfl; omega
    rw [cOf_spot hf hk]
theorem pickG_eq {n m : Nat} {l : Nat → Queue.Sub} {s : Nat → Spot} {x : PX} (hch : Chosen (cOf n l s) x) (hc : (cOf n l s).Ok) (hcur : ∀ i, i < n → (l i).cur.Right ∧ (l i).cur.Ok) (hgl : ∀ v ∈ x.gl, 0 ≤ v ∧ v < 9223372036854775808) (hlen : x.gl.length = (cOf n l s).T) (hcu : x.cu = fun i => (l i).cur) : pickG n l (gensL (cOf n l s) x.gl) = x.gen := by
  unfold pickG
  rw [best_eq n l s hcu]
  by_cases hz : pickF (cOf n l s) x < 0
  · rw [if_pos hz, (hch.none hz).1]
  · rw [if_neg hz]
    obtain ⟨k, hk⟩ : ∃ k : Nat, pickF (cOf n l s) x = (k : Int) := ⟨_, (Int.toNat_of_nonneg (by omega)).symm⟩
    obtain ⟨hkn, hgen, _⟩ := hch.genIs hc (fun i hi => by rw [hcu]; exact hcur i hi) hgl hlen hk
    rw [hgen, hk, Int.toNat_natCast, hcu, gensL_nth _ _ hkn]
end Go.Proofs.Ythcaagkgddeabaa.Bank
namespace Go.Proofs.Ythcaagkgddeabaa.Bank
set_option linter.unusedVariables false
set_option linter.unusedSimpArgs false
open Go Go.RowKit Go.Proofs.Ythcaagkgddeabaa.Base Go.Deep Go.ChangeShapes Go.WideShapes Go.Proofs.Ythcaagkgddeabaa.Queue
/-- among the first so many subscriptions, the one of the least topic above the last one, -1: none -/
def nextG (l : Nat → Queue.Sub) (j : Nat) (last : Int) : Nat → Int
  | 0 => -1
  | i + 1 => if (j = 0 ∨ last < (l i).topic) ∧ (nextG l j last i < 0 ∨ (l i).topic < (l (nextG l j last i).toNat).topic) then (i : Int) else nextG l j last i
theorem nextG_is (l : Nat → Queue.Sub) (j : Nat) (last : Int) : ∀ i : Nat, (nextG l j last i = -1 ∧ ∀ t, t < i → ¬ (j = 0 ∨ last < (l t).topic)) ∨ (∃ k : Nat, nextG l j last i = (k : Int) ∧ k < i ∧ (j = 0 ∨ last < (l k).topic) ∧ ∀ t, t < i → (j = 0 ∨ last < (l t).topic) → (l k).topic ≤ (l t).topic) := by
  intro i
  induction i with
  | zero => exact .inl ⟨rfl, fun t ht => absurd ht (by omega)⟩
  | succ i ih =>
    have e : nextG l j last (i + 1) = if (j = 0 ∨ last < (l i).topic) ∧ (nextG l j last i < 0 ∨ (l i).topic < (l (nextG l j last i).toNat).topic) then (i : Int) else nextG l j last i := rfl
    rw [e]
    by_cases h1 : j = 0 ∨ last < (l i).topic
    · rcases ih with ⟨h2, h3⟩ | ⟨k, h2, hk, h3, h4⟩
      · rw [if_pos ⟨h1, .inl (by rw [h2]; decide)⟩]
        refine .inr ⟨i, rfl, by omega, h1, fun t ht he => ?_⟩
        by_cases e2 : t = i
        · rw [e2]; exact Int.le_refl _
        · exact absurd he (h3 t (by omega))
      · rw [h2]
        by_cases h5 : (l i).topic < (l k).topic
        · rw [if_pos ⟨h1, .inr (by rw [Int.toNat_natCast]; exact h5)⟩]
          refine .inr ⟨i, rfl, by omega, h1, fun t ht he => ?_⟩
          by_cases e2 : t = i
          · rw [e2]; exact Int.le_refl _
          · have := h4 t (by omega) he; omega
        · rw [if_neg (fun h => h.2.elim (fun h => by omega) (fun h => h5 (by rw [Int.toNat_natCast] at h; exact h)))]
          refine .inr ⟨k, rfl, by omega, h3, fun t ht he => ?_⟩
          by_cases e2 : t = i
          · rw [e2]; omega
          · exact h4 t (by omega) he
    · rw [if_neg (fun h => h1 h.1)]
      rcases ih with ⟨h2, h3⟩ | ⟨k, h2, hk, h3, h4⟩
      · refine .inl ⟨h2, fun t ht he => ?_⟩
        by_cases e2 : t = i
        · rw [e2] at he; exact h1 he
        · exact h3 t (by omega) he
      · refine .inr ⟨k, h2, by omega, h3, fun t ht he => ?_⟩
        by_cases e2 : t = i
        · rw [e2] at he; exact absurd he h1
        · exact h4 t (by omega) he
theorem nextG_lt (l : Nat → Queue.Sub) (j : Nat) (last : Int) (i : Nat) : nextG l j last i = -1 ∨ ∃ k : Nat, nextG l j last i = (k : Int) ∧ k < i := by
  rcases nextG_is l j last i with ⟨h, _⟩ | ⟨k, h, hk, _⟩
  · exact .inl h
  · exact .inr ⟨k, h, hk⟩
def nthN (L : List Nat) (k : Nat) : Nat := L.getD k 0
/-- the order so far: a subscription of each topic, rising -/
structure OrdL (n : Nat) (l : Nat → Queue.Sub) (s : Nat → Spot) (ods : List Nat) (last : Int) : Prop where
  len : ods.length ≤ (cOf n l s).T
  at_ : ∀ k, k < ods.length → nthN ods k < n ∧ (l (nthN ods k)).topic = ((cOf n l s).tp k).n
  last : 0 < ods.length → last = ((cOf n l s).tp (ods.length - 1)).n
theorem OrdL.elig {n : Nat} {l : Nat → Queue.Sub} {s : Nat → Spot} {ods : List Nat} {last : Int} (h : OrdL n l s ods last) (hc : (cOf n l s).Ok) {t : Nat} (ht : t < n) : (ods.length = 0 ∨ last < (l t).topic) ↔ ods.length ≤ (cOf n l s).ix t := by
  obtain ⟨hx, he⟩ := cOf_ix (l := l) (s := s) ht
  have hlen := h.len
  by_cases h0 : ods.length = 0
  · exact ⟨fun _ => by omega, fun _ => .inl h0⟩
  · have hl := h.last (by omega)
    constructor
    · rintro (h1 | h1)
      · exact absurd h1 h0
      · rcases Nat.lt_or_ge ((cOf n l s).ix t) ods.length with h2 | h2
        · exfalso
          rw [← he, hl] at h1
          by_cases e : (cOf n l s).ix t = ods.length - 1
          · rw [e] at h1; omega
          · have := hc.up ((cOf n l s).ix t) (ods.length - 1) (by omega) (by omega); omega
        · exact h2
    · intro h1
      right
      rw [← he, hl]
      exact hc.up (ods.length - 1) ((cOf n l s).ix t) (by omega) hx
theorem OrdL.end_ {n : Nat} {l : Nat → Queue.Sub} {s : Nat → Spot} {ods : List Nat} {last : Int} (h : OrdL n l s ods last) (hc : (cOf n l s).Ok) (hz : nextG l ods.length last n = -1) : ods.length = (cOf n l s).T := by
  have hlen := h.len
  rcases nextG_is l ods.length last n with ⟨_, h2⟩ | ⟨k, h2, _⟩
  · rcases Nat.lt_or_ge ods.length (cOf n l s).T with h3 | h3
    · exfalso
      obtain ⟨i, hi, e⟩ := cOf_mem h3
      obtain ⟨hx, he⟩ := cOf_ix (l := l) (s := s) hi
      refine h2 i hi ((h.elig hc hi).2 ?_)
      have := hc.inj _ _ hx h3 (by rw [he, e])
      omega
    · omega
  · omega
theorem OrdL.push {n : Nat} {l : Nat → Queue.Sub} {s : Nat → Spot} {ods : List Nat} {last : Int} (h : OrdL n l s ods last) (hc : (cOf n l s).Ok) {k : Nat} (hz : nextG l ods.length last n = (k : Int)) : k < n ∧ ods.length < (cOf n l s).T ∧ OrdL n l s (ods ++ [k]) (l k).topic := by
  have hlen := h.len
  rcases nextG_is l ods.length last n with ⟨h2, _⟩ | ⟨k2, h2, hk, h3, h4⟩
  · omega
  · obtain rfl : k = k2 := by omega
    have h5 : ods.length ≤ (cOf n l s).ix k := (h.elig hc hk).1 h3
    obtain ⟨hx, he⟩ := cOf_ix (l := l) (s := s) hk
    have hT : ods.length < (cOf n l s).T := by omega
    have htop : (l k).topic = ((cOf n l s).tp ods.length).n := by
      obtain ⟨i, hi, e⟩ := cOf_mem hT
      obtain ⟨hxi, hei⟩ := cOf_ix (l := l) (s := s) hi
      have hii := hc.inj _ _ hxi hT (by rw [hei, e])
      have h6 := h4 i hi ((h.elig hc hi).2 (by omega))
      have h7 : ((cOf n l s).tp ods.length).n = (l i).topic := by rw [e]
      by_cases e2 : (cOf n l s).ix k = ods.length
      · rw [← he, e2]
      · have := hc.up ods.length ((cOf n l s).ix k) (by omega) hx; omega
    refine ⟨hk, hT, ⟨by simp; omega, fun q hq => ?_, fun _ => ?_⟩⟩
    · simp at hq
      unfold nthN
      rw [List.getD_eq_getElem?_getD]
      by_cases e : q = ods.length
      · subst e
        simp
        exact ⟨hk, htop⟩
      · rw [List.getElem?_append_left (by omega), ← List.getD_eq_getElem?_getD]
        exact h.at_ q (by omega)
    · simp
      exact htop
theorem OrdL.nil (n : Nat) (l : Nat → Queue.Sub) (s : Nat → Spot) (last : Int) : OrdL n l s [] last := ⟨Nat.zero_le _, fun k hk => absurd hk (by simp), fun h => absurd h (by simp)⟩
/-- what the order is good for -/
theorem OrdL.index {n : Nat} {l : Nat → Queue.Sub} {s : Nat → Spot} {od : Nat → Nat} (hc : (cOf n l s).Ok) (h : ∀ k, k < (cOf n l s).T → od k < n ∧ (l (od k)).topic = ((cOf n l s).tp k).n) : ∀ i, i < n → (cOf n l s).ix i < (cOf n l s).T ∧ ∀ k, k < (cOf n l s).T → ((l (od k)).topic = (l i).topic ↔ k = (cOf n l s).ix i) := by
  intro i hi
  obtain ⟨hx, he⟩ := cOf_ix (l := l) (s := s) hi
  refine ⟨hx, fun k hk => ⟨fun e => ?_, fun e => ?_⟩⟩
  · rw [(h k hk).2, ← he] at e
    exact hc.inj _ _ hk hx e
  · rw [(h k hk).2, ← he, e]
theorem OrdL.spot {n m : Nat} {l : Nat → Queue.Sub} {s : Nat → Spot} {od : Nat → Nat} (hf : Fits n m l s) (hc : (cOf n l s).Ok) (h : ∀ k, k < (cOf n l s).T → od k < n ∧ (l (od k)).topic = ((cOf n l s).tp k).n) {k : Nat} (hk : k < (cOf n l s).T) : s (od k) = ((cOf n l s).tp k).spot := by
  obtain ⟨h1, h2⟩ := h k hk
  rw [← cOf_spot hf h1, (hc.inj _ _ (cOf_ix (l := l) (s := s) h1).1 hk ((cOf_ix (l := l) (s := s) h1).2.trans h2) : (cOf n l s).ix (od k) = k)]
end Go.Proofs.Ythcaagkgddeabaa.Bank
