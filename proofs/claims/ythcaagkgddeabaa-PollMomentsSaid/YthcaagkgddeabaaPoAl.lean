/-
  Law 12: a poll alone, step by step, in plain words. No program. By an AI agent.
  Law 12: what a poll alone tells, in plain words. No program. By an AI agent.
-/
import Derived.Test.YthcaagkgddeabaaPoX
namespace Go.Proofs.Ythcaagkgddeabaa.Bank
set_option linter.unusedVariables false
set_option linter.unusedSimpArgs false
open Go Go.RowKit Go.Proofs.Ythcaagkgddeabaa.Base Go.Deep Go.ChangeShapes Go.WideShapes Go.Proofs.Ythcaagkgddeabaa.Queue
/-- all words that a poll may load are there -/
structure Lies (c : PC) (WS : List Int) : Prop where
  few : c.n ≤ 8
  len : WS.length = 60
  fit : ∀ y ∈ WS, 0 ≤ y ∧ y ≤ 18446744073709551615
  seq : ∀ a, a < c.T → 0 ≤ (c.tp a).spot.seq ∧ (c.tp a).spot.seq ≤ 59
  all : ∀ a, a < c.T → (c.tp a).spot.first + (c.tp a).spot.words * (c.tp a).spot.depth ≤ 60
def gOk (c : PC) (WS : List Int) (x : PX) (m : Nat) : Prop := ∀ j, j < m → nth x.gl j = wordF WS (c.tp j).spot.seq / 2
def wOk (WS : List Int) (x : PX) : Prop := ∀ j, j < x.words.length → nth x.words j = wordF WS (x.place + (j : Int))
structure AInv (c : PC) (cu0 : Nat → Cur) (WS : List Int) (tries : Int) (x : PX) (i : Nat) : Prop where
  good : PGood c cu0 x (i : Int)
  steps : x.steps = (i : Int)
  left : x.left = tries
  way : (x.how = 0 ∧ x.round = 1 ∧ x.next = (i : Int) ∧ i < c.T ∧ gOk c WS x i) ∨
    (x.how = 0 ∧ x.round = 2 ∧ (i : Int) = c.T + x.next ∧ x.next < x.size ∧ gOk c WS x c.T ∧ x.begun = (c.T : Int) ∧ wOk WS x) ∨
    (x.how = 0 ∧ x.round = 3 ∧ (i : Int) = c.T + x.size + x.next ∧ x.next < c.T ∧ gOk c WS x c.T ∧ x.begun = (c.T : Int) ∧ wOk WS x) ∨
    (x.how = 1 ∧ (i : Int) = 2 * c.T + x.size ∧ gOk c WS x c.T ∧ x.begun = (c.T : Int) ∧ wOk WS x)
theorem nth_app (xs : List Int) (v : Int) (j : Nat) : nth (xs ++ [v]) j = if j < xs.length then nth xs j else if j = xs.length then v else 0 := by
  unfold nth
  simp only [List.getD_eq_getElem?_getD]
  by_cases h : j < xs.length
  · rw [if_pos h, List.getElem?_append_left h]
  · rw [if_neg h, List.getElem?_append_right (by omega)]
    by_cases e : j = xs.length
    · rw [if_pos e, e]; simp
    · rw [if_neg e, List.getElem?_eq_none (by simp; omega)]; rfl
theorem Chosen.lies {c : PC} {WS : List Int} {x : PX} (h : Chosen c x) (hc : c.Ok) (hl : Lies c WS) {j : Int} (h0 : 0 ≤ j) (h1 : j < x.size) : 0 ≤ x.place + j ∧ x.place + j < 60 := by
  by_cases hz : pickF c x < 0
  · have := (h.none hz).2; omega
  · obtain ⟨_, hp, hs⟩ := h.some hz
    have hk := best_range _ _ _ hz
    have hk' : (pickF c x).toNat < c.n := hk
    have hx := (hc.ix _ hk').1
    have ha := hc.atOk _ hx
    have hall := hl.all _ hx
    rw [hp, atF_ok ha]
    rw [hs] at h1
    generalize (c.tp (c.ix (pickF c x).toNat)).spot = sp at *
    have hb := atF_bounds (gen := x.gen) ha
    have hd := Int.emod_lt_of_pos x.gen (b := sp.depth) (by have := ha.2.1; omega)
    have h5 : (x.gen % sp.depth + 1) * sp.words ≤ sp.depth * sp.words := Int.mul_le_mul_of_nonneg_right (by omega) (by have := ha.1; omega)
    rw [Int.add_mul, Int.one_mul, Int.mul_comm sp.depth] at h5
    have := ha.2.2
    omega
theorem inW_of {WS : List Int} {at_ : Int} (hl : WS.length = 60) (h : 0 ≤ at_ ∧ at_ < 60) : inW WS at_ := by unfold inW; rw [hl]; exact ⟨h.1, by omega⟩
theorem Chosen.size60 {c : PC} {WS : List Int} {x : PX} (h : Chosen c x) (hc : c.Ok) (hl : Lies c WS) : 0 ≤ x.size ∧ x.size ≤ 60 := by
  have hsz := h.size hc
  refine ⟨hsz.1, ?_⟩
  by_cases h0 : x.size = 0
  · omega
  · have h9 := h.lies hc hl (j := x.size - 1) (by omega) (by omega)
    have h8 := (hsz.2.2 h0).1
    omega
theorem AInv.chosen {c : PC} {cu0 : Nat → Cur} {WS : List Int} {tries : Int} {x : PX} {i : Nat} (h : AInv c cu0 WS tries x i) (hh : x.how = 0) (hr : x.round ≠ 1) : Chosen c x ∧ ((x.round = 2 ∧ (x.words.length : Int) = x.next) ∨ (x.round = 3 ∧ (x.words.length : Int) = x.size)) := by
  obtain ⟨_, hw⟩ := h.good.way hh
  rcases hw with ⟨a, _⟩ | ⟨a, _, b, d⟩ | ⟨a, _, b, d⟩
  · exact absurd a hr
  · exact ⟨b, .inr ⟨a, d⟩⟩
  · exact ⟨b, .inl ⟨a, d⟩⟩
theorem AInv.busy {c : PC} {cu0 : Nat → Cur} {WS : List Int} {tries : Int} {x : PX} {i : Nat} (h : AInv c cu0 WS tries x i) (hl : Lies c WS) (hh : x.how = 0) : inW WS (pAtF c x) ∧ i < 100 := by
  have hok := h.good.ok
  have hT : c.T ≤ 8 := Nat.le_trans hok.tn hl.few
  have hnx := h.good.nx
  rcases h.way with ⟨_, hr, hn, hi, _⟩ | ⟨_, hr, hn, hi, _⟩ | ⟨_, hr, hn, hi, _⟩ | ⟨h1, _⟩
  · refine ⟨?_, by omega⟩
    unfold pAtF
    rw [hr, if_neg (by decide)]
    have := hl.seq x.next.toNat (by omega)
    exact inW_of hl.len ⟨this.1, by omega⟩
  · obtain ⟨hch, _⟩ := h.chosen hh (by omega)
    have hpl := hch.lies hok hl (j := x.next) hnx hi
    have := hch.size60 hok hl
    refine ⟨?_, by omega⟩
    unfold pAtF
    rw [hr, if_pos rfl]
    exact inW_of hl.len hpl
  · obtain ⟨hch, _⟩ := h.chosen hh (by omega)
    have := hch.size60 hok hl
    refine ⟨?_, by omega⟩
    unfold pAtF
    rw [hr, if_neg (by decide)]
    have := hl.seq x.next.toNat (by omega)
    exact inW_of hl.len ⟨this.1, by omega⟩
  · omega
theorem AInv.step {c : PC} {cu0 : Nat → Cur} {WS : List Int} {tries : Int} {x : PX} {i : Nat} (h : AInv c cu0 WS tries x i) (hl : Lies c WS) (hh : x.how = 0) : AInv c cu0 WS tries (pStepF c WS x) (i + 1) := by
  have hb := (h.busy hl hh).1
  have hg := h.good.step hl.fit
  have hok := h.good.ok
  have hT := hok.t1
  have hnx := h.good.nx
  have hch0 := fun hr => (h.chosen hh hr)
  have hst := h.steps
  have hlf := h.left
  have hglen := h.good.glen
  have hway := h.way
  have hg' : PGood c cu0 (pStepF c WS x) ((i + 1 : Nat) : Int) := hg
  clear h hg
  obtain ⟨left, round, next, pk, gen, place, size, how, steps, begun, words, gl, cu⟩ := x
  simp only at hh hnx hst hlf hglen hway
  subst hh
  have e : pStepF c WS ⟨left, round, next, pk, gen, place, size, 0, steps, begun, words, gl, cu⟩ = if round = 2 then pRecord ⟨left, round, next, pk, gen, place, size, 0, steps, begun, words, gl, cu⟩ (wordF WS (pAtF c ⟨left, round, next, pk, gen, place, size, 0, steps, begun, words, gl, cu⟩)) else if round = 3 then pSecond c ⟨left, round, next, pk, gen, place, size, 0, steps, begun, words, gl, cu⟩ (wordF WS (pAtF c ⟨left, round, next, pk, gen, place, size, 0, steps, begun, words, gl, cu⟩)) else pFirst c ⟨left, round, next, pk, gen, place, size, 0, steps, begun, words, gl, cu⟩ (wordF WS (pAtF c ⟨left, round, next, pk, gen, place, size, 0, steps, begun, words, gl, cu⟩)) := by
    unfold pStepF
    rw [if_neg (fun h => h rfl), if_neg (fun h => h hb)]
  rcases hway with ⟨_, rfl, hn, hi, hgo⟩ | ⟨_, rfl, hn, hi, hgo, hbg, hwo⟩ | ⟨_, rfl, hn, hi, hgo, hbg, hwo⟩ | ⟨h1, _⟩
  · -- the first round
    subst hn
    rw [if_neg (by decide), if_neg (by decide)] at e
    have hat : pAtF c ⟨left, 1, (i : Int), pk, gen, place, size, 0, steps, begun, words, gl, cu⟩ = (c.tp i).spot.seq := by unfold pAtF; simp
    rw [hat] at e
    unfold pFirst at e
    simp only [Int.toNat_natCast] at e
    have hgo2 : ∀ y : PX, y.gl = gl.set i (wordF WS (c.tp i).spot.seq / 2) → gOk c WS y (i + 1) := fun y hy j hj => by
      rw [hy, nth_set _ _ _ _ (by rw [hglen]; exact hi)]
      by_cases ej : j = i
      · rw [if_pos ej, ej]
      · rw [if_neg ej]; exact hgo j (by omega)
    by_cases hlast : (i : Int) + 1 = c.T
    · rw [if_pos hlast] at e
      unfold firstP at e
      obtain ⟨pk2, gen2, place2, size2, e2⟩ := chooseP_form c ⟨left, 1, (i : Int) + 1, pk, gen, place, size, 0, steps + 1, begun, words, gl.set i (wordF WS (c.tp i).spot.seq / 2), cu⟩
      rw [e2] at e
      simp only at e
      rw [e] at hg' ⊢
      have hgT := hgo2 ⟨left, if size2 = 0 then 3 else 2, 0, pk2, gen2, place2, size2, 0, steps + 1, steps + 1, [], gl.set i (wordF WS (c.tp i).spot.seq / 2), cu⟩ rfl
      have hii : i + 1 = c.T := by omega
      rw [hii] at hgT
      have hsz := (hg'.way rfl).2
      simp only at hsz
      refine ⟨hg', by simp only; omega, hlf, ?_⟩
      by_cases hz : size2 = 0
      · refine .inr (.inr (.inl ⟨rfl, by simp only [if_pos hz], by simp only; omega, by simp only; omega, hgT, by simp only; omega, fun j hj => by simp at hj⟩))
      · rw [if_neg hz] at hsz
        have : 0 < size2 := by
          rcases hsz with ⟨a, _⟩ | ⟨a, _⟩ | ⟨_, a, _⟩
          · omega
          · omega
          · exact a
        refine .inr (.inl ⟨rfl, by simp only [if_neg hz], by simp only; omega, this, hgT, by simp only; omega, fun j hj => by simp at hj⟩)
    · rw [if_neg hlast] at e
      rw [e] at hg' ⊢
      exact ⟨hg', by simp only; omega, hlf, .inl ⟨rfl, rfl, by simp only; omega, by omega, hgo2 _ rfl⟩⟩
  · -- the words
    rw [if_pos rfl] at e
    have hat : pAtF c ⟨left, 2, next, pk, gen, place, size, 0, steps, begun, words, gl, cu⟩ = place + next := rfl
    rw [hat] at e
    unfold pRecord at e
    simp only at e
    obtain ⟨hch, hcw⟩ := hch0 (by simp only; omega)
    simp only at hcw
    have hwl : (words.length : Int) = next := by
      rcases hcw with ⟨_, a⟩ | ⟨a, _⟩
      · exact a
      · omega
    have hwo2 : ∀ y : PX, y.words = words ++ [wordF WS (place + next)] → y.place = place → wOk WS y := fun y hy hp j hj => by
      rw [hy] at hj
      rw [hy, hp, nth_app]
      by_cases h1 : j < words.length
      · rw [if_pos h1]; exact hwo j h1
      · have h2 : j = words.length := by simp at hj; omega
        rw [if_neg h1, if_pos h2, h2, hwl]
    by_cases hlast : next + 1 = size
    · rw [if_pos hlast] at e
      rw [e] at hg' ⊢
      exact ⟨hg', by simp only; omega, hlf, .inr (.inr (.inl ⟨rfl, rfl, by simp only; omega, by simp only; omega, hgo, hbg, hwo2 _ rfl rfl⟩))⟩
    · rw [if_neg hlast] at e
      rw [e] at hg' ⊢
      exact ⟨hg', by simp only; omega, hlf, .inr (.inl ⟨rfl, rfl, by simp only; omega, by simp only; omega, hgo, hbg, hwo2 _ rfl rfl⟩)⟩
  · -- the second round
    rw [if_neg (by decide), if_pos rfl] at e
    have hat : pAtF c ⟨left, 3, next, pk, gen, place, size, 0, steps, begun, words, gl, cu⟩ = (c.tp next.toNat).spot.seq := by unfold pAtF; simp
    rw [hat] at e
    unfold pSecond at e
    simp only at e
    have hk := hgo next.toNat (by omega)
    simp only at hk
    rw [if_pos hk.symm] at e
    by_cases hlast : next + 1 = c.T
    · rw [if_pos hlast] at e
      unfold finishP at e
      rw [e] at hg' ⊢
      exact ⟨hg', by simp only; omega, hlf, .inr (.inr (.inr ⟨rfl, by simp only; omega, hgo, hbg, hwo⟩))⟩
    · rw [if_neg hlast] at e
      rw [e] at hg' ⊢
      exact ⟨hg', by simp only; omega, hlf, .inr (.inr (.inl ⟨rfl, rfl, by simp only; omega, by simp only; omega, hgo, hbg, hwo⟩))⟩
  · omega
theorem AInv.start {c : PC} {cu0 : Nat → Cur} {WS : List Int} {x : PX} (h : PGood c cu0 x 0) (h1 : x.how = 0 ∧ x.round = 1 ∧ x.next = 0 ∧ x.steps = 0) : AInv c cu0 WS x.left x 0 :=
  ⟨h, h1.2.2.2, rfl, .inl ⟨h1.1, h1.2.1, h1.2.2.1, h.ok.t1, fun j hj => absurd hj (by omega)⟩⟩
theorem AInv.tick {c : PC} {cu0 : Nat → Cur} {WS : List Int} {tries : Int} {x : PX} {i : Nat} (h : AInv c cu0 WS tries x i) (hl : Lies c WS) (hh : x.how = 0) {t : Int} (ht : 0 ≤ t ∧ t ≤ 1000) : pTickF c WS x t = t + 1 := by
  unfold pTickF
  rw [if_neg (fun h => h hh), tickF_in (h.busy hl hh).1]
  simp [IntKind.wrap, IntKind.bits, IntKind.signed]
  omega
/-- what a poll alone tells -/
theorem seen_next {c : Cur} {g : Int} : c.next ≤ (Queue.seen c g).next ∨ c.cap < 0 := by
  unfold Queue.seen
  split
  · exact .inl (Int.le_refl _)
  · split
    · rename_i h1 h2
      simp only
      omega
    · exact .inl (Int.le_refl _)
end Go.Proofs.Ythcaagkgddeabaa.Bank
namespace Go.Proofs.Ythcaagkgddeabaa.Bank
set_option linter.unusedVariables false
set_option linter.unusedSimpArgs false
open Go Go.RowKit Go.Proofs.Ythcaagkgddeabaa.Base Go.Deep Go.ChangeShapes Go.WideShapes Go.Proofs.Ythcaagkgddeabaa.Queue
theorem Chosen.genIs {c : PC} {x : PX} (h : Chosen c x) (hc : c.Ok) (hcur : ∀ i, i < c.n → (x.cu i).Right ∧ (x.cu i).Ok) (hgl : ∀ v ∈ x.gl, 0 ≤ v ∧ v < 9223372036854775808) (hlen : x.gl.length = c.T) {k : Nat} (hk : pickF c x = (k : Int)) :
    k < c.n ∧ x.gen = (Queue.seen (x.cu k) (nth x.gl (c.ix k))).next ∧ x.gen ≤ nth x.gl (c.ix k) ∧ (x.cu k).next ≤ x.gen ∧ takeE (x.cu k) (nth x.gl (c.ix k)) = 0 := by
  have hkn : k < c.n := by have := pickF_ge c x; omega
  have hz : ¬ pickF c x < 0 := by omega
  obtain ⟨h1, _, _⟩ := h.some hz
  have e : (pickF c x).toNat = k := by omega
  rw [e] at h1
  have hb := best_has (c.sub x.cu) (gensL c x.gl) c.n (show 0 ≤ best (c.sub x.cu) (gensL c x.gl) c.n from by have : best (c.sub x.cu) (gensL c x.gl) c.n = (k : Int) := hk; omega)
  have e2 : (best (c.sub x.cu) (gensL c x.gl) c.n).toNat = k := e
  rw [e2, gensL_nth c x.gl hkn] at hb
  simp only [PC.sub] at hb
  obtain ⟨hr, ho⟩ := hcur k hkn
  have hg := hgl _ (nth_mem (i := c.ix k) (by rw [hlen]; exact (hc.ix k hkn).1))
  have hm : mayE (x.cu k) (nth x.gl (c.ix k)) = 0 := mayE_yes hr hg.2
  have ht : takeE (x.cu k) (nth x.gl (c.ix k)) = 0 := by unfold takeE; rw [if_pos hm, if_neg hb]
  have hgen : x.gen = (Queue.seen (x.cu k) (nth x.gl (c.ix k))).next := by
    rw [h1]
    unfold genF takeX
    rw [if_pos ht]
  refine ⟨hkn, hgen, by rw [hgen]; omega, ?_, ht⟩
  rw [hgen]
  rcases seen_next (c := x.cu k) (g := nth x.gl (c.ix k)) with h9 | h9
  · exact h9
  · have := hr.1; omega
theorem seqsL_mem (s : Nat → Spot) (k : Nat) (z : Int) : z ∈ seqsL s k ↔ ∃ j, j < k ∧ (s j).seq = z := by
  induction k with
  | zero => simp [seqsL]
  | succ k ih =>
    rw [seqsL_succ]
    by_cases h : (s k).seq ∈ seqsL s k
    · rw [if_pos h, ih]
      constructor
      · rintro ⟨j, hj, e⟩; exact ⟨j, by omega, e⟩
      · rintro ⟨j, hj, e⟩
        by_cases ej : j = k
        · subst ej; rw [← e]; exact (ih.1 (e ▸ h)) |> fun ⟨j', h1, h2⟩ => ⟨j', h1, by rw [h2, e]⟩
        · exact ⟨j, by omega, e⟩
    · rw [if_neg h, List.mem_append, ih]
      constructor
      · rintro (⟨j, hj, e⟩ | h1)
        · exact ⟨j, by omega, e⟩
        · simp at h1; exact ⟨k, by omega, h1.symm⟩
      · rintro ⟨j, hj, e⟩
        by_cases ej : j = k
        · subst ej; exact .inr (by simp [e])
        · exact .inl ⟨j, by omega, e⟩
theorem seqs_tops {n m : Nat} {l : Nat → Queue.Sub} {s : Nat → Spot} (h : Fits n m l s) : ∀ k, k ≤ n → (seqsL s k).length = (topsL l s k).length := by
  intro k
  induction k with
  | zero => intro _; rfl
  | succ k ih =>
    intro hk
    have ih := ih (by omega)
    rw [seqsL_succ]
    show _ = (if (topsL l s k).any (fun t => t.n == (l k).topic) then topsL l s k else topsL l s k ++ [⟨(l k).topic, s k⟩]).length
    have hiff : (s k).seq ∈ seqsL s k ↔ (topsL l s k).any (fun t => t.n == (l k).topic) = true := by
      rw [seqsL_mem, List.any_eq_true]
      constructor
      · rintro ⟨j, hj, e⟩
        have et : (l j).topic = (l k).topic := by
          rcases Int.lt_trichotomy (l j).topic (l k).topic with h1 | h1 | h1
          · exact absurd e (fits_seq h (by omega) (by omega) (by omega))
          · exact h1
          · exact absurd e (fits_seq h (by omega) (by omega) (by omega))
        obtain ⟨t, ht, he⟩ := topsL_has l s k j hj
        exact ⟨t, ht, by simpa using he.trans et⟩
      · rintro ⟨t, ht, he⟩
        obtain ⟨j, hj, rfl⟩ := topsL_mem l s k t ht
        exact ⟨j, hj, by rw [fits_spot h (i := j) (j := k) (by omega) (by omega) (by simpa using he)]⟩
    by_cases hm : (s k).seq ∈ seqsL s k
    · rw [if_pos hm, if_pos (hiff.1 hm)]; exact ih
    · rw [if_neg hm, if_neg (fun h => hm (hiff.2 h))]; simp [ih]
theorem maxW_ge (s : Nat → Spot) {k n : Nat} (h : k < n) : (s k).words ≤ maxW s n := by
  induction n with
  | zero => omega
  | succ n ih =>
    show _ ≤ max (maxW s n) (s n).words
    by_cases e : k = n
    · subst e; omega
    · have := ih (by omega); omega
theorem most_ge {n m : Nat} {l : Nat → Queue.Sub} {s : Nat → Spot} {tries z : Int} (h : Fits n m l s) (ht : 1 ≤ tries ∧ tries ≤ 16) (hz : 0 ≤ z ∧ z ≤ maxW s n) : 2 * ((topsL l s n).length : Int) + z ≤ mostF n s tries := by
  have hok : ∀ i, i < n → (s i).AtOk := fun i hi => (h.2.2 i hi).1
  unfold mostF
  rw [if_pos ⟨h.1, ht, hok⟩, seqs_tops h n (Nat.le_refl n)]
  have h1 := (maxW_range s n hok).1
  have h2 : 1 * (2 * ((topsL l s n).length : Int) + maxW s n) ≤ tries * (2 * ((topsL l s n).length : Int) + maxW s n) := Int.mul_le_mul_of_nonneg_right ht.1 (by omega)
  rw [Int.one_mul] at h2
  omega
/-- what a poll that is done tells of the bank -/
theorem AInv.told {c : PC} {cu0 : Nat → Cur} {WS : List Int} {tries : Int} {x : PX} {j : Nat} (h : AInv c cu0 WS tries x j) (hl : Lies c WS) (h1 : x.how = 1) (hg : gOk c WS x c.T) (hw : wOk WS x) :
    (x.pick = -1 ∧ x.gen = 0 ∧ x.words.length = 0 ∧ x.size = 0) ∨
    ∃ k : Nat, k < c.n ∧ x.pick = (k : Int) ∧ (x.words.length : Int) = (c.tp (c.ix k)).spot.words ∧ x.size = (c.tp (c.ix k)).spot.words ∧ (cu0 k).next ≤ x.gen ∧ x.gen ≤ wordF WS (c.tp (c.ix k)).spot.seq / 2 ∧ (0 ≤ x.gen ∧ x.gen ≤ 18446744073709551615) ∧ (c.tp (c.ix k)).spot.AtOk ∧
      ∀ i, i < x.words.length → nth x.words i = wordF WS (atF (c.tp (c.ix k)).spot x.gen + (i : Int)) ∧ (0 ≤ atF (c.tp (c.ix k)).spot x.gen + (i : Int) ∧ atF (c.tp (c.ix k)).spot x.gen + (i : Int) < 60) := by
  obtain ⟨_, hch, hwl⟩ := h.good.fin h1
  have hok := h.good.ok
  by_cases hz : pickF c { x with cu := cu0 } < 0
  · left
    obtain ⟨a, b⟩ := hch.none hz
    have hp := hch.pick
    have hge := (pickF_ge c { x with cu := cu0 }).1
    try simp only at a
    try simp only at b
    try simp only at hp
    exact ⟨by omega, a, by omega, b⟩
  · right
    obtain ⟨k, hk⟩ : ∃ k : Nat, pickF c { x with cu := cu0 } = (k : Int) := ⟨_, (Int.toNat_of_nonneg (by omega)).symm⟩
    have hs := hch.some hz
    rw [hk] at hs
    simp only [Int.toNat_natCast] at hs
    obtain ⟨hkn, hgen, hle, hge, _⟩ := hch.genIs hok h.good.cur h.good.gl h.good.glen hk
    have hx := hok.ix k hkn
    have hgk := hg (c.ix k) hx.1
    try simp only at hgen
    try simp only at hle
    try simp only at hge
    have h63 := h.good.gl _ (nth_mem (i := c.ix k) (by rw [h.good.glen]; exact hx.1))
    have hn := (h.good.cur k hkn).2.next
    obtain ⟨_, hpl, hsz⟩ := hs
    try simp only at hpl
    try simp only at hsz
    refine ⟨k, hkn, by exact hch.pick.trans hk, by rw [hwl, hsz], hsz, hge, by rw [← hgk]; exact hle, ⟨by omega, by omega⟩, hok.atOk _ hx.1, fun i hi => ?_⟩
    have h9 := hch.lies hok hl (j := (i : Int)) (by omega) (by show (i : Int) < x.size; omega)
    try simp only at h9
    refine ⟨by rw [← hpl]; exact hw i hi, by rw [← hpl]; exact h9⟩
end Go.Proofs.Ythcaagkgddeabaa.Bank
