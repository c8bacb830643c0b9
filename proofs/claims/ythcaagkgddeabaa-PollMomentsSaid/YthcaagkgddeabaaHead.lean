/-
  A drawn region whose first operations turn nothing, then one operation that waits for all of them, then operations that turn nothing again, in any order: it is enough to walk them in the order in which they are written. No condition. By an AI agent.
-/
import Derived.Test.YthcaagkgddeabaaBase
import Derived.StillTail
import Derived.StillTailTactics
namespace Go.Proofs.Ythcaagkgddeabaa.Base
set_option linter.unusedVariables false
set_option linter.unusedSimpArgs false
open Go

section
variable {P : Program} {ops : Array Oper} {md : Region.Mode} {w : World}

/-- Behind a normal end K, else Q. -/
def behind (K : Act → World → Prop) (Q : Exit → Act → World → Prop) : Exit → Act → World → Prop
  | .normal, a, w => K a w
  | e, a, w => Q e a w

theorem behind_normal {K : Act → World → Prop} {Q : Exit → Act → World → Prop} {a : Act} {w : World} (h : K a w) : behind K Q .normal a w := h

theorem letsOut_behind {K : Act → World → Prop} {Q : Exit → Act → World → Prop} (h : LetsOut (behind K Q)) : LetsOut Q := by
  obtain ⟨a, w, h⟩ := h
  exact ⟨a, w, h⟩

theorem wpOp_of_behind {i : Nat} {o : Oper} {K : Act → World → Prop} {Q : Exit → Act → World → Prop} {a : Act} (hi : ops[i]? = some o)
    (h : wpList P ops (behind K Q) [o] a w) : wpOp P ops Q i K a w := by
  unfold wpOp
  simp only [hi]
  simp only [wpList] at h
  split
  · rename_i hw
    simp only [hw, if_true] at h
    rcases h with h | ⟨h1, h2⟩
    · left
      unfold Oper.wp at *
      generalize (execOp a.eval o).run P w = r at *
      cases r with
      | ok n w' =>
        cases n <;> simp only [Oper.upon] at h ⊢ <;>
          first
            | exact h
            | exact Calls.mono h (fun e w'' he => by cases e <;> first | exact he | exact letsOut_behind he)
      | halt x w' => cases x <;> simp only [Oper.upon] at h ⊢ <;> exact h
    · exact .inr ⟨h1, letsOut_behind h2⟩
  · rename_i hw
    simp only [hw] at h
    exact h

/-- Each operation behind n waits for one of those from n on. -/
def backB (md : Region.Mode) (ops : Array Oper) (n : Nat) : Bool :=
  (List.range ops.size).all fun t => decide (t ≤ n) || (List.range t).any fun s => decide (n ≤ s) && Region.waitsFor md ops t s

theorem not_yet {n : Nat} {listed : Array Bool} (hs : Region.sinkB md ops n = true) (hc : backB md ops n = true) (inv : HeadInv md ops n listed) :
    ∀ (d i : Nat), n - i = d → i < n → listed.getD i true = false → ∀ t, n ≤ t → t ∉ Region.ready md ops listed := by
  intro d
  induction d using Nat.strongRecOn with
  | _ d ih =>
    intro i hd hi hun t ht hr
    obtain ⟨hut, ot, hot, hall⟩ := mem_ready.1 hr
    have htlt : t < ops.size := (Array.getElem?_eq_some_iff.1 hot).1
    rcases Nat.lt_or_ge n t with hnt | hnt
    · have h1 := List.all_eq_true.1 hc t (List.mem_range.2 htlt)
      simp only [Bool.or_eq_true, decide_eq_true_eq] at h1
      rcases h1 with h1 | h1
      · omega
      · obtain ⟨s, hs1, hs2⟩ := List.any_eq_true.1 h1
        have hst := List.mem_range.1 hs1
        simp only [Bool.and_eq_true, decide_eq_true_eq] at hs2
        obtain ⟨o', ho', e, he, hb, hon⟩ := Region.waitsFor_spec hs2.2
        have e1 : o' = ot := Option.some.inj (ho'.symm.trans hot)
        rw [e1] at he
        have h2 := hall e he hb
        rw [hon, getD_both (inv.tail s hs2.1 (by omega))] at h2
        cases h2
    · have htn : t = n := by omega
      have h1 := List.all_eq_true.1 hs i (List.mem_range.2 hi)
      obtain ⟨j, hj, hj2⟩ := List.any_eq_true.1 h1
      simp only [Bool.and_eq_true, decide_eq_true_eq] at hj2
      obtain ⟨oj, hoj, e, he, hb, hon⟩ := Region.waitsFor_spec hj2.2
      have hjn : j < n + 1 := List.mem_range.1 hj
      by_cases hjt : j = t
      · rw [hjt] at hoj
        have e1 : oj = ot := Option.some.inj (hoj.symm.trans hot)
        rw [e1] at he
        have h2 := hall e he hb
        rw [hon, getD_both hun] at h2
        cases h2
      · cases hl : listed.getD j false with
        | true =>
          have h2 := inv.closed j oj hoj hl e he hb
          rw [hon, getD_both hun] at h2
          cases h2
        | false =>
          have hjs : j < listed.size := by rw [inv.size]; omega
          exact ih (n - j) (by omega) j rfl (by omega) (getD_in hjs hl) t ht hr

/-- An operation of the head that is free may come first of the head. -/
theorem head_first {n i : Nat} {oi : Oper} {v : Value} {L : Array Bool → Act → Prop} (hi : ops[i]? = some oi) (hsel : ∀ (j : Nat) (o : Oper) cs b, ops[j]? = some o → o.op ≠ .select cs b)
    (hs : Region.sinkB md ops n = true) (hc : backB md ops n = true) (hin : i < n) (hdone : ∀ listed a, L listed a → ∀ j ∈ Region.ready md ops listed, n ≤ j) :
    ∀ (f : Nat) (listed : Array Bool) (a : Act), HeadInv md ops n listed →
      (∀ j oj, ops[j]? = some oj → j ≠ i → listed.getD j true = false → (∀ e ∈ oj.after, Region.binds md e = true → e.on ≠ i) → oi.apart ops oj = true) →
      i ∈ Region.ready md ops listed → YieldsAt P ops w oi v a →
      wpAnyL P md ops w n L f (listed.setIfInBounds i true) (a.put oi.dst v) → wpAnyL P md ops w n L (f + 1) listed a := by
  intro f
  induction f with
  | zero =>
    intro listed a inv _ hr hy H
    have hun := (mem_ready.1 hr).1
    refine ⟨fun h => (by rw [h] at hr; cases hr), fun j hj => ⟨?_, ?_⟩⟩
    · exact Nat.lt_of_not_le fun h => not_yet hs hc inv _ i rfl hin hun j h hj
    · by_cases hji : j = i
      · rw [hji]; exact hy.stOp hi H
      · have hjn : j < n := Nat.lt_of_not_le fun h => not_yet hs hc inv _ i rfl hin hun j h hj
        have := hdone _ _ H j (ready_mono hj hji)
        omega
  | succ f ih =>
    intro listed a inv hfree hr hy H
    have hun := (mem_ready.1 hr).1
    refine ⟨fun h => (by rw [h] at hr; cases hr), fun j hj => ?_⟩
    have hjn : j < n := Nat.lt_of_not_le fun h => not_yet hs hc inv _ i rfl hin hun j h hj
    refine ⟨hjn, ?_⟩
    by_cases hji : j = i
    · rw [hji]; exact hy.stOp hi H
    · have h1 := (H.2 j (ready_mono hj hji)).2
      obtain ⟨hjun, oj, hoj, hall⟩ := mem_ready.1 hj
      have hnot : ∀ e ∈ oj.after, Region.binds md e = true → e.on ≠ i := fun e he hb heq => by
        have h1 := hall e he hb
        rw [heq, getD_both hun] at h1
        cases h1
      have h2 := stOp_put hoj (hfree j oj hoj hji hjun hnot) (fun cs b => hsel i oi cs b hi) (fun cs b => hsel j oj cs b hoj) hy h1
      refine stOp_mono (fun a' h3 => ih (listed.setIfInBounds j true) a' (inv.set hj hjn) (fun k ok hk hki hunk hno => ?_) (ready_mono hr (Ne.symm hji)) h3.1 ?_) h2
      · refine hfree k ok hk hki ?_ hno
        by_cases hjk : j = k
        · rw [← hjk]; exact hjun
        · rwa [getD_set_ne true hjk] at hunk
      · rw [Array.setIfInBounds_comm _ _ hji]
        exact h3.2

/-- The head in its order; then T says what is listed. -/
def headB (md : Region.Mode) (ops : Array Oper) (T : Array Bool → Bool) : Nat → Nat → Array Bool → Bool
  | 0, _, listed => T listed
  | f + 1, k, listed => (Region.ready md ops listed).contains k && Region.free md ops listed k && headB md ops T f (k + 1) (listed.setIfInBounds k true)

theorem head_lex {n : Nat} {T : Array Bool → Bool} {Lq : Act → Prop} (hT : ∀ listed, T listed = true → ∀ j ∈ Region.ready md ops listed, n ≤ j)
    (hsel : Region.noSelect ops = true) (hs : Region.sinkB md ops n = true) (hc : backB md ops n = true) (hn : n < ops.size) :
    ∀ (l : List Oper) (k : Nat) (listed : Array Bool) (a : Act), (∀ j, j < l.length → l[j]? = ops[k + j]?) → k + l.length = n → HeadInv md ops n listed →
    headB md ops T l.length k listed = true → wpStill P ops w Lq l a →
    wpAnyL P md ops w n (fun listed' a' => T listed' = true ∧ Lq a') l.length listed a
  | [], k, listed, a, _, hk, _, hB, h => ⟨by simpa [headB] using hB, h⟩
  | o :: l, k, listed, a, hl, hk, inv, hB, h => by
    have h0 : ops[k]? = some o := by simpa using (hl 0 (by simp)).symm
    simp only [List.length_cons, headB, Bool.and_eq_true] at hB
    obtain ⟨⟨hr, hf⟩, hB'⟩ := hB
    have hkn : k < n := by simp only [List.length_cons] at hk; omega
    have hr' : k ∈ Region.ready md ops listed := by simpa using hr
    have hst : stOp P ops w k (wpStill P ops w Lq l) a := by unfold stOp; simp only [h0]; exact h
    obtain ⟨v, hy, hK⟩ := yieldsAt_of_stOp h0 hst
    exact head_first h0 (Region.noSelect_spec hsel) hs hc hkn (fun listed' a' hL => hT _ hL.1) l.length listed a inv (Region.free_spec h0 hf) hr' hy
      (head_lex hT hsel hs hc hn l (k + 1) _ _ (fun j hj => by have := hl (j + 1) (by simp; omega); simpa [Nat.add_assoc, Nat.add_comm 1 j] using this)
        (by simp only [List.length_cons] at hk; omega) (inv.set hr' hkn) hB' hK)

/-- Behind the head the one operation n is ready; behind it the others may come in their order. -/
def onceB (md : Region.Mode) (ops : Array Oper) (n : Nat) (listed : Array Bool) : Bool :=
  decide (Region.ready md ops listed = [n]) && Region.lexFrom md ops (ops.size - (n + 1)) (n + 1) (listed.setIfInBounds n true)

def headCallB (md : Region.Mode) (ops : Array Oper) (n : Nat) : Bool :=
  Region.noSelect ops && decide (n < ops.size) && Region.sinkB md ops n && backB md ops n && headB md ops (onceB md ops n) n 0 (Array.replicate ops.size false)

theorem wp_region_head_call {id : Nat} {Q : Exit → Act → World → Prop} {a : Act} {w : World} {l : List Oper} (n : Nat) (o : Oper) (rest : List Oper) (hm : P.follows .mixedOrders = true)
    (hB : headCallB .any l.toArray n = true) (hl : l.drop n = o :: rest)
    (h : wpStill P l.toArray { w with drawn := w.drawn + 1 } (fun a1 =>
      wpList P l.toArray (behind (fun a2 w2 => wpStill P l.toArray w2 (fun a3 => Q .normal a3 w2) rest a2) Q) [o] a1 { w with drawn := w.drawn + 1 }) (l.take n) a) :
    (Code.region id l.toArray true).wp P Q a w := by
  simp only [headCallB, Bool.and_eq_true, decide_eq_true_eq] at hB
  obtain ⟨⟨⟨⟨hsel, hn⟩, hs⟩, hc⟩, hlex⟩ := hB
  have hn' : n < l.length := by simpa using hn
  have htl : (l.take n).length = n := by simp; omega
  have hget : ∀ j, l.toArray[n + j]? = (o :: rest)[j]? := fun j => by rw [← hl]; simp [List.getElem?_drop]
  have hrl : rest.length = l.toArray.size - (n + 1) := by
    have := congrArg List.length hl
    simp only [List.length_drop, List.length_cons] at this
    simp only [List.size_toArray]
    omega
  have inv0 : HeadInv .any l.toArray n (Array.replicate l.toArray.size false) :=
    ⟨by simp, fun j oj _ hl => (by rw [getD_replicate_false] at hl; cases hl), fun t _ ht => getD_in (by simpa using ht) (getD_replicate_false _ _)⟩
  have H := head_lex (md := .any) (T := onceB .any l.toArray n) (fun listed hT j hj => by
      simp only [onceB, Bool.and_eq_true, decide_eq_true_eq] at hT
      rw [hT.1] at hj
      have : j = n := by simpa using hj
      omega) hsel hs hc hn (l.take n) 0 _ a (fun j hj => by
        have hj' : j < n := by rw [htl] at hj; exact hj
        simp [hj']) (by simpa using htl) inv0 (by rw [htl]; exact hlex) h
  refine wp_region_any hm ?_
  have := wpAny_of_head (Q' := Q) (g := rest.length + 1) (fun listed a' hL => by
    obtain ⟨hT, hL⟩ := hL
    simp only [onceB, Bool.and_eq_true, decide_eq_true_eq] at hT
    obtain ⟨hr, hx⟩ := hT
    refine ⟨fun h0 => (by rw [hr] at h0; cases h0), fun i hi => ?_⟩
    rw [hr] at hi
    have hin : i = n := by simpa using hi
    rw [hin]
    have ho : l.toArray[n]? = some o := by simpa using hget 0
    refine wpOp_mono (fun a2 w2 h2 => ?_) (wpOp_of_behind ho hL)
    refine wpAny_of_still (Q := fun a3 => Q .normal a3 w2) (fun _ h => h) _ _ _ ?_
    exact wpAnyS_lex (md := .any) hsel rest (n + 1) _ a2 (fun j => by have := hget (j + 1); rw [show n + 1 + j = n + (j + 1) by omega, this]; simp) (by rw [hrl]; exact hx) h2) _ _ _ H
  rw [htl, show n + (rest.length + 1) = l.toArray.size by rw [hrl]; omega] at this
  exact this
end

/-! ### the same with a head whose operations only read, and whose callees lead from worlds of a class into worlds of it -/
section
variable {P : Program} {ops : Array Oper} {md : Region.Mode} {C : World → Prop}

def wpHeadQ (P : Program) (md : Region.Mode) (ops : Array Oper) (C : World → Prop) (n : Nat) (L : Array Bool → Act → Prop) : Nat → Array Bool → Act → Prop
  | 0, listed, a => L listed a
  | f + 1, listed, a => Region.ready md ops listed ≠ [] ∧ ∀ i ∈ Region.ready md ops listed, i < n ∧ qOp P ops C i (wpHeadQ P md ops C n L f (listed.setIfInBounds i true)) a

theorem wpAny_of_headQ {n g : Nat} {L : Array Bool → Act → Prop} {Q' : Exit → Act → World → Prop} (hL : ∀ listed a w, C w → L listed a → wpAny P md ops Q' g listed a w) :
    ∀ (f : Nat) (listed : Array Bool) (a : Act) (w : World), C w → wpHeadQ P md ops C n L f listed a → wpAny P md ops Q' (f + g) listed a w
  | 0, listed, a, w, hw, h => by rw [Nat.zero_add]; exact hL _ _ _ hw h
  | f + 1, listed, a, w, hw, h => by
    rw [show f + 1 + g = (f + g) + 1 by omega]
    exact ⟨fun h0 => absurd h0 h.1, fun i hi => wpOp_of_qOp hw (fun a' w' hw' h' => wpAny_of_headQ hL f _ a' w' hw' h') (h.2 i hi).2⟩

theorem headQ_first {n i : Nat} {oi : Oper} {v : Value} {L : Array Bool → Act → Prop} (hi : ops[i]? = some oi) (hsel : ∀ (j : Nat) (o : Oper) cs b, ops[j]? = some o → o.op ≠ .select cs b)
    (hs : Region.sinkB md ops n = true) (hc : backB md ops n = true) (hin : i < n) (hdone : ∀ listed a, L listed a → ∀ j ∈ Region.ready md ops listed, n ≤ j) :
    ∀ (f : Nat) (listed : Array Bool) (a : Act), HeadInv md ops n listed →
      (∀ j oj, ops[j]? = some oj → j ≠ i → listed.getD j true = false → (∀ e ∈ oj.after, Region.binds md e = true → e.on ≠ i) → oi.apart ops oj = true) →
      i ∈ Region.ready md ops listed → YieldsIn P ops C oi v a →
      wpHeadQ P md ops C n L f (listed.setIfInBounds i true) (a.put oi.dst v) → wpHeadQ P md ops C n L (f + 1) listed a := by
  intro f
  induction f with
  | zero =>
    intro listed a inv _ hr hy H
    have hun := (mem_ready.1 hr).1
    refine ⟨fun h => (by rw [h] at hr; cases hr), fun j hj => ⟨?_, ?_⟩⟩
    · exact Nat.lt_of_not_le fun h => not_yet hs hc inv _ i rfl hin hun j h hj
    · by_cases hji : j = i
      · rw [hji]; exact hy.qOp hi H
      · have hjn : j < n := Nat.lt_of_not_le fun h => not_yet hs hc inv _ i rfl hin hun j h hj
        have := hdone _ _ H j (ready_mono hj hji)
        omega
  | succ f ih =>
    intro listed a inv hfree hr hy H
    have hun := (mem_ready.1 hr).1
    refine ⟨fun h => (by rw [h] at hr; cases hr), fun j hj => ?_⟩
    have hjn : j < n := Nat.lt_of_not_le fun h => not_yet hs hc inv _ i rfl hin hun j h hj
    refine ⟨hjn, ?_⟩
    by_cases hji : j = i
    · rw [hji]; exact hy.qOp hi H
    · have h1 := (H.2 j (ready_mono hj hji)).2
      obtain ⟨hjun, oj, hoj, hall⟩ := mem_ready.1 hj
      have hnot : ∀ e ∈ oj.after, Region.binds md e = true → e.on ≠ i := fun e he hb heq => by
        have h1 := hall e he hb
        rw [heq, getD_both hun] at h1
        cases h1
      have h2 := qOp_put hoj (hfree j oj hoj hji hjun hnot) (fun cs b => hsel i oi cs b hi) (fun cs b => hsel j oj cs b hoj) hy h1
      refine qOp_mono (fun a' h3 => ih (listed.setIfInBounds j true) a' (inv.set hj hjn) (fun k ok hk hki hunk hno => ?_) (ready_mono hr (Ne.symm hji)) h3.1 ?_) h2
      · refine hfree k ok hk hki ?_ hno
        by_cases hjk : j = k
        · rw [← hjk]; exact hjun
        · rwa [getD_set_ne true hjk] at hunk
      · rw [Array.setIfInBounds_comm _ _ hji]
        exact h3.2

theorem headQ_lex {n : Nat} {T : Array Bool → Bool} {Lq : Act → Prop} (hT : ∀ listed, T listed = true → ∀ j ∈ Region.ready md ops listed, n ≤ j)
    (hsel : Region.noSelect ops = true) (hs : Region.sinkB md ops n = true) (hc : backB md ops n = true) (hn : n < ops.size) :
    ∀ (l : List Oper) (k : Nat) (listed : Array Bool) (a : Act), (∀ j, j < l.length → l[j]? = ops[k + j]?) → k + l.length = n → HeadInv md ops n listed →
    headB md ops T l.length k listed = true → wpQuiet P ops C Lq l a →
    wpHeadQ P md ops C n (fun listed' a' => T listed' = true ∧ Lq a') l.length listed a
  | [], k, listed, a, _, hk, _, hB, h => ⟨by simpa [headB] using hB, h⟩
  | o :: l, k, listed, a, hl, hk, inv, hB, h => by
    have h0 : ops[k]? = some o := by simpa using (hl 0 (by simp)).symm
    simp only [List.length_cons, headB, Bool.and_eq_true] at hB
    obtain ⟨⟨hr, hf⟩, hB'⟩ := hB
    have hkn : k < n := by simp only [List.length_cons] at hk; omega
    have hr' : k ∈ Region.ready md ops listed := by simpa using hr
    have hst : qOp P ops C k (wpQuiet P ops C Lq l) a := by unfold qOp; simp only [h0]; exact h
    obtain ⟨v, hy, hK⟩ := yieldsIn_of_qOp h0 hst
    exact headQ_first h0 (Region.noSelect_spec hsel) hs hc hkn (fun listed' a' hL => hT _ hL.1) l.length listed a inv (Region.free_spec h0 hf) hr' hy
      (headQ_lex hT hsel hs hc hn l (k + 1) _ _ (fun j hj => by have := hl (j + 1) (by simp; omega); simpa [Nat.add_assoc, Nat.add_comm 1 j] using this)
        (by simp only [List.length_cons] at hk; omega) (inv.set hr' hkn) hB' hK)

/-- A drawn region: n operations that only read, or call what leads from worlds of S into worlds of S; then one operation that waits for all of them; then the rest, that turns nothing. One walk, in the order of the text. -/
theorem drawn_head {S : World → Prop} {id : Nat} {Q : Exit → Act → World → Prop} {a : Act} {w : World} {l : List Oper} (n : Nat) (o : Oper) (rest : List Oper) (hm : P.follows .mixedOrders = true)
    (hB : headCallB .any l.toArray n = true) (hl : l.drop n = o :: rest) (hS : S w.drew)
    (h : wpQuiet P l.toArray (fun w' => ∃ x : Held S, w' = x.w) (fun a1 => ∀ w1, (∃ x : Held S, w1 = x.w) →
      wpList P l.toArray (behind (fun a2 w2 => wpStill P l.toArray w2 (fun a3 => Q .normal a3 w2) rest a2) Q) [o] a1 w1) (l.take n) a) :
    (Code.region id l.toArray true).wp P Q a w := by
  simp only [headCallB, Bool.and_eq_true, decide_eq_true_eq] at hB
  obtain ⟨⟨⟨⟨hsel, hn⟩, hs⟩, hc⟩, hlex⟩ := hB
  have hn' : n < l.length := by simpa using hn
  have htl : (l.take n).length = n := by simp; omega
  have hget : ∀ j, l.toArray[n + j]? = (o :: rest)[j]? := fun j => by rw [← hl]; simp [List.getElem?_drop]
  have hrl : rest.length = l.toArray.size - (n + 1) := by
    have := congrArg List.length hl
    simp only [List.length_drop, List.length_cons] at this
    simp only [List.size_toArray]
    omega
  have inv0 : HeadInv .any l.toArray n (Array.replicate l.toArray.size false) :=
    ⟨by simp, fun j oj _ hl => (by rw [getD_replicate_false] at hl; cases hl), fun t _ ht => getD_in (by simpa using ht) (getD_replicate_false _ _)⟩
  have H := headQ_lex (md := .any) (T := onceB .any l.toArray n) (fun listed hT j hj => by
      simp only [onceB, Bool.and_eq_true, decide_eq_true_eq] at hT
      rw [hT.1] at hj
      have : j = n := by simpa using hj
      omega) hsel hs hc hn (l.take n) 0 _ a (fun j hj => by
        have hj' : j < n := by rw [htl] at hj; exact hj
        simp [hj']) (by simpa using htl) inv0 (by rw [htl]; exact hlex) h
  refine wp_region_any hm ?_
  have := wpAny_of_headQ (Q' := Q) (g := rest.length + 1) (fun listed a' w1 hw1 hL => by
    obtain ⟨hT, hL⟩ := hL
    simp only [onceB, Bool.and_eq_true, decide_eq_true_eq] at hT
    obtain ⟨hr, hx⟩ := hT
    refine ⟨fun h0 => (by rw [hr] at h0; cases h0), fun i hi => ?_⟩
    rw [hr] at hi
    have hin : i = n := by simpa using hi
    rw [hin]
    have ho : l.toArray[n]? = some o := by simpa using hget 0
    refine wpOp_mono (fun a2 w2 h2 => ?_) (wpOp_of_behind ho (hL w1 hw1))
    refine wpAny_of_still (Q := fun a3 => Q .normal a3 w2) (fun _ h => h) _ _ _ ?_
    exact wpAnyS_lex (md := .any) hsel rest (n + 1) _ a2 (fun j => by have := hget (j + 1); rw [show n + 1 + j = n + (j + 1) by omega, this]; simp) (by rw [hrl]; exact hx) h2) _ _ _ { w with drawn := w.drawn + 1 } ⟨⟨w.drew, hS⟩, rfl⟩ H
  rw [htl, show n + (rest.length + 1) = l.toArray.size by rw [hrl]; omega] at this
  exact this
end
end Go.Proofs.Ythcaagkgddeabaa.Base
