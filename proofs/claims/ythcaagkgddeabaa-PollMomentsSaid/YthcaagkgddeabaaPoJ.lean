/-
  Law 12: what holds of a poll, step by step, in plain words. No program. By an AI agent.
-/
import Derived.Test.YthcaagkgddeabaaPoH
namespace Go.Proofs.Ythcaagkgddeabaa.Bank
set_option linter.unusedVariables false
set_option linter.unusedSimpArgs false
open Go Go.RowKit Go.Proofs.Ythcaagkgddeabaa.Base Go.Deep Go.ChangeShapes Go.WideShapes Go.Proofs.Ythcaagkgddeabaa.Queue
/-- the record that is loaded is the one that the first round's numbers tell -/
structure Chosen (c : PC) (x : PX) : Prop where
  pick : x.pick = pickF c x
  none : pickF c x < 0 → x.gen = 0 ∧ x.size = 0
  some : ¬ pickF c x < 0 → x.gen = genF c x (pickF c x).toNat ∧ x.place = atF (c.tp (c.ix (pickF c x).toNat)).spot x.gen ∧ x.size = (c.tp (c.ix (pickF c x).toNat)).spot.words
theorem pickF_ge (c : PC) (x : PX) : -1 ≤ pickF c x ∧ pickF c x < c.n := best_lt _ _ _
theorem Chosen.same {c : PC} {x y : PX} (h : Chosen c x) (h1 : y.pick = x.pick) (h2 : y.gen = x.gen) (h3 : y.place = x.place) (h4 : y.size = x.size) (h5 : y.gl = x.gl) (h6 : y.cu = x.cu) : Chosen c y := by
  have e : pickF c y = pickF c x := by unfold pickF; rw [h5, h6]
  have e2 : ∀ k, genF c y k = genF c x k := fun k => by unfold genF; rw [h5, h6]
  exact ⟨by rw [h1, e]; exact h.pick, fun h0 => by rw [h2, h4]; exact h.none (e ▸ h0), fun h0 => by rw [e, e2, h2, h3, h4]; exact h.some (e ▸ h0)⟩
theorem chooseP_chosen (c : PC) (x : PX) : Chosen c (chooseP c x) := by
  unfold chooseP
  by_cases h : pickF c x < 0
  · rw [if_pos h]
    have e : pickF c { x with words := [], size := 0, gen := 0, begun := x.steps, pick := -1 } = pickF c x := rfl
    have := pickF_ge c x
    exact ⟨by rw [e]; show (-1 : Int) = _; omega, fun _ => ⟨rfl, rfl⟩, fun h0 => absurd (e ▸ h) h0⟩
  · rw [if_neg h]
    have e : ∀ ws sz pl bg pk gn, pickF c { x with words := ws, begun := bg, pick := pk, gen := gn, place := pl, size := sz } = pickF c x := fun _ _ _ _ _ _ => rfl
    have e2 : ∀ ws sz pl bg pk gn k, genF c { x with words := ws, begun := bg, pick := pk, gen := gn, place := pl, size := sz } k = genF c x k := fun _ _ _ _ _ _ _ => rfl
    exact ⟨rfl, fun h0 => absurd (e _ _ _ _ _ _ ▸ h0) h, fun _ => by rw [e, e2]; exact ⟨rfl, rfl, rfl⟩⟩
/-- all that holds of a poll -/
structure PGood (c : PC) (cu0 : Nat → Cur) (x : PX) (M : Int) : Prop where
  ok : c.Ok
  cur : ∀ i, i < c.n → (cu0 i).Right ∧ (cu0 i).Ok
  gl : ∀ v ∈ x.gl, 0 ≤ v ∧ v < 9223372036854775808
  glen : x.gl.length = c.T
  left : 0 ≤ x.left ∧ x.left ≤ 16
  st : 0 ≤ x.steps ∧ x.steps ≤ M
  nx : 0 ≤ x.next
  how : x.how = 0 ∨ x.how = 1 ∨ x.how = 2 ∨ x.how = 3
  not : x.how ≠ 1 → x.cu = cu0
  way : x.how = 0 → 1 ≤ x.left ∧ ((x.round = 1 ∧ x.next < c.T) ∨ (x.round = 3 ∧ x.next < c.T ∧ Chosen c x ∧ (x.words.length : Int) = x.size) ∨ (x.round = 2 ∧ x.next < x.size ∧ Chosen c x ∧ (x.words.length : Int) = x.next))
  fin : x.how = 1 → x.cu = curF c { x with cu := cu0 } ∧ Chosen c { x with cu := cu0 } ∧ (x.words.length : Int) = x.size
theorem Chosen.size {c : PC} {x : PX} (h : Chosen c x) (hc : c.Ok) : 0 ≤ x.size ∧ x.size ≤ 64 ∧ (x.size ≠ 0 → 0 ≤ x.place ∧ x.place ≤ 1100000) := by
  by_cases h0 : pickF c x < 0
  · have := (h.none h0).2
    exact ⟨by omega, by omega, fun h => absurd this h⟩
  · have hk := best_range _ _ _ h0
    have ha := hc.atOk _ (hc.ix _ hk).1
    obtain ⟨h1, h2, h3⟩ := h.some h0
    refine ⟨by rw [h3]; have := ha.1; simp only [pickF]; omega, by rw [h3]; have := ha.1; simp only [pickF]; omega, fun _ => ?_⟩
    rw [h2]; exact atF_range ha
theorem PGood.fit {c : PC} {cu0 : Nat → Cur} {x : PX} {M : Int} (h : PGood c cu0 x M) (hh : x.how ≠ 1) : PFit c x := ⟨by rw [h.not hh]; exact h.cur, h.gl, h.glen⟩
theorem PGood.inv {c : PC} {cu0 : Nat → Cur} {x : PX} {M : Int} (h : PGood c cu0 x M) (hM : M ≤ 1099511627776) (hh : x.how = 0) : PInv c x := by
  obtain ⟨h1, hw⟩ := h.way hh
  refine ⟨h.ok, h.fit (by omega), ⟨h1, h.left.2⟩, ⟨h.st.1, by have := h.st.2; omega⟩, h.nx, fun _ => ?_⟩
  rcases hw with ⟨a, b⟩ | ⟨a, b, _⟩ | ⟨a, b, d, e⟩
  · exact .inl ⟨a, b⟩
  · exact .inr (.inl ⟨a, b⟩)
  · have := d.size h.ok
    have hnx := h.nx
    exact .inr (.inr ⟨a, b, this.2.1, (this.2.2 (by omega)).1, (this.2.2 (by omega)).2, e⟩)
theorem half_range {v : Int} (h : 0 ≤ v ∧ v ≤ 18446744073709551615) : 0 ≤ v / 2 ∧ v / 2 < 9223372036854775808 := by omega
theorem wordF_fit {ws : List Int} (h : ∀ y ∈ ws, 0 ≤ y ∧ y ≤ 18446744073709551615) (i : Int) : 0 ≤ wordF ws i ∧ wordF ws i ≤ 18446744073709551615 := by
  unfold wordF
  split
  · rename_i hin
    exact h _ (nth_mem (by unfold inW at hin; omega))
  · omega
theorem PGood.step {c : PC} {cu0 : Nat → Cur} {x : PX} {M : Int} {ws : List Int} (h : PGood c cu0 x M) (hw : ∀ y ∈ ws, 0 ≤ y ∧ y ≤ 18446744073709551615) : PGood c cu0 (pStepF c ws x) (M + 1) := by
  by_cases hh : x.how = 0
  · have hcu := h.not (by omega)
    obtain ⟨hl, hway⟩ := h.way hh
    obtain ⟨left, round, next, pk, gen, place, size, how, steps, begun, words, gl, cu⟩ := x
    simp only at hh hcu hl hway
    subst hh
    subst hcu
    have hgl := h.gl
    have hglen := h.glen
    have hleft := h.left
    have hst := h.st
    have hnx := h.nx
    simp only at hgl hglen hleft hst hnx
    have hv := wordF_fit hw (pAtF c ⟨left, round, next, pk, gen, place, size, 0, steps, begun, words, gl, cu⟩)
    unfold pStepF
    rw [if_neg (fun h => h rfl)]
    generalize wordF ws (pAtF c ⟨left, round, next, pk, gen, place, size, 0, steps, begun, words, gl, cu⟩) = v at hv ⊢
    by_cases hin : inW ws (pAtF c ⟨left, round, next, pk, gen, place, size, 0, steps, begun, words, gl, cu⟩)
    · rw [if_neg (fun h => h hin)]
      simp only
      rcases hway with ⟨rfl, hj⟩ | ⟨rfl, hj, hch, hwl⟩ | ⟨rfl, hj, hch, hwl⟩
      · rw [if_neg (by decide), if_neg (by decide)]
        unfold pFirst
        simp only
        have hgl2 : ∀ u ∈ gl.set next.toNat (v / 2), 0 ≤ u ∧ u < 9223372036854775808 := fun u hu => by
          rcases List.mem_or_eq_of_mem_set hu with h1 | h1
          · exact hgl u h1
          · rw [h1]; exact half_range hv
        by_cases he : next + 1 = c.T
        · rw [if_pos he]
          unfold firstP
          have hch := chooseP_chosen c ⟨left, 1, next + 1, pk, gen, place, size, 0, steps + 1, begun, words, gl.set next.toNat (v / 2), cu⟩
          obtain ⟨pk2, gen2, place2, size2, e⟩ := chooseP_form c ⟨left, 1, next + 1, pk, gen, place, size, 0, steps + 1, begun, words, gl.set next.toNat (v / 2), cu⟩
          rw [e] at hch ⊢
          simp only at hch ⊢
          have hsz := hch.size h.ok
          simp only at hsz
          have ht := h.ok.t1
          refine ⟨h.ok, h.cur, hgl2, by simp only [List.length_set]; exact hglen, hleft, ⟨by simp only; omega, by simp only; omega⟩, Int.le_refl 0, .inl rfl, fun _ => rfl, fun _ => ⟨hl, ?_⟩, (fun h => by cases h)⟩
          by_cases hz : size2 = 0
          · exact .inr (.inl ⟨by simp only [if_pos hz], by simp only; omega, hch.same rfl rfl rfl rfl rfl rfl, by simp only [List.length_nil]; omega⟩)
          · exact .inr (.inr ⟨by simp only [if_neg hz], by simp only; omega, hch.same rfl rfl rfl rfl rfl rfl, by simp only [List.length_nil]; omega⟩)
        · rw [if_neg he]
          exact ⟨h.ok, h.cur, hgl2, by simp only [List.length_set]; exact hglen, hleft, ⟨by simp only; omega, by simp only; omega⟩, by simp only; omega, .inl rfl, fun _ => rfl, fun _ => ⟨hl, .inl ⟨rfl, by simp only; omega⟩⟩, (fun h => by cases h)⟩
      · rw [if_neg (by decide), if_pos rfl]
        unfold pSecond
        simp only
        by_cases hk : v / 2 = nth gl next.toNat
        · rw [if_pos hk]
          by_cases he : next + 1 = c.T
          · rw [if_pos he]
            unfold finishP
            refine ⟨h.ok, h.cur, hgl, hglen, hleft, ⟨by simp only; omega, by simp only; omega⟩, by simp only; omega, .inr (.inl rfl), fun h => absurd rfl h, (fun h => by cases h), fun _ => ⟨?_, hch.same rfl rfl rfl rfl rfl rfl, hwl⟩⟩
            funext i
            rfl
          · rw [if_neg he]
            exact ⟨h.ok, h.cur, hgl, hglen, hleft, ⟨by simp only; omega, by simp only; omega⟩, by simp only; omega, .inl rfl, fun _ => rfl, fun _ => ⟨hl, .inr (.inl ⟨rfl, by simp only; omega, hch.same rfl rfl rfl rfl rfl rfl, hwl⟩)⟩, (fun h => by cases h)⟩
        · rw [if_neg hk]
          have ht := h.ok.t1
          by_cases he : left - 1 = 0
          · rw [if_pos he]
            exact ⟨h.ok, h.cur, hgl, hglen, ⟨by simp only; omega, by simp only; omega⟩, ⟨by simp only; omega, by simp only; omega⟩, Int.le_refl 0, .inr (.inr (.inl rfl)), fun _ => rfl, (fun h => by cases h), (fun h => by cases h)⟩
          · rw [if_neg he]
            exact ⟨h.ok, h.cur, hgl, hglen, ⟨by simp only; omega, by simp only; omega⟩, ⟨by simp only; omega, by simp only; omega⟩, Int.le_refl 0, .inl rfl, fun _ => rfl, fun _ => ⟨by simp only; omega, .inl ⟨rfl, by simp only; omega⟩⟩, (fun h => by cases h)⟩
      · rw [if_pos rfl]
        unfold pRecord
        simp only
        have ht := h.ok.t1
        by_cases he : next + 1 = size
        · rw [if_pos he]
          exact ⟨h.ok, h.cur, hgl, hglen, hleft, ⟨by simp only; omega, by simp only; omega⟩, Int.le_refl 0, .inl rfl, fun _ => rfl, fun _ => ⟨hl, .inr (.inl ⟨rfl, by simp only; omega, hch.same rfl rfl rfl rfl rfl rfl, by simp only [List.length_append, List.length_cons, List.length_nil]; omega⟩)⟩, (fun h => by cases h)⟩
        · rw [if_neg he]
          exact ⟨h.ok, h.cur, hgl, hglen, hleft, ⟨by simp only; omega, by simp only; omega⟩, by simp only; omega, .inl rfl, fun _ => rfl, fun _ => ⟨hl, .inr (.inr ⟨rfl, by simp only; omega, hch.same rfl rfl rfl rfl rfl rfl, by simp only [List.length_append, List.length_cons, List.length_nil]; omega⟩)⟩, (fun h => by cases h)⟩
    · rw [if_pos hin]
      exact ⟨h.ok, h.cur, hgl, hglen, hleft, ⟨hst.1, by simp only; omega⟩, hnx, .inr (.inr (.inr rfl)), fun _ => rfl, (fun h => by cases h), (fun h => by cases h)⟩
  · have es : pStepF c ws x = x := if_pos hh
    rw [es]
    exact ⟨h.ok, h.cur, h.gl, h.glen, h.left, ⟨h.st.1, by have := h.st.2; omega⟩, h.nx, h.how, h.not, h.way, h.fin⟩
/-- the cursors behind a poll that is done are right -/
theorem PGood.behind {c : PC} {cu0 : Nat → Cur} {x : PX} {M : Int} (h : PGood c cu0 x M) (hh : x.how = 1) : ∀ i, i < c.n → (x.cu i).Right ∧ (x.cu i).Ok := by
  obtain ⟨h1, h2, _⟩ := h.fin hh
  intro i hi
  have hg := h.gl _ (nth_mem (i := c.ix i) (by rw [h.glen]; exact (h.ok.ix i hi).1))
  obtain ⟨hr, ho⟩ := h.cur i hi
  rw [h1]
  unfold curF
  simp only
  by_cases e : (i : Int) = x.pick
  · rw [if_pos e]
    refine takeC_fine hr ho hg ?_
    have hp := h2.pick
    simp only at hp
    rw [hp] at e
    have hb := best_has (c.sub cu0) (gensL c x.gl) c.n (show 0 ≤ pickF c { x with cu := cu0 } by omega)
    have hbi : (best (c.sub cu0) (gensL c x.gl) c.n).toNat = i := by
      have : best (c.sub cu0) (gensL c x.gl) c.n = (i : Int) := e.symm
      rw [this, Int.toNat_natCast]
    rw [hbi, gensL_nth c x.gl hi] at hb
    simp only [PC.sub] at hb
    unfold takeE
    rw [if_pos (mayE_yes hr hg.2), if_neg hb]
  · rw [if_neg e]
    exact seeC_fine hr ho hg
end Go.Proofs.Ythcaagkgddeabaa.Bank
