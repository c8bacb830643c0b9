/-
  A drawn region whose first operation moves a value and may come at any time, then operations that only read, or call what leads from worlds of a class into worlds of it, then a tail in one forced order: one walk, in the order of the text. No condition. By an AI agent.
-/
import Derived.Test.YthcaagkgddeabaaHead
namespace Go.Proofs.Ythcaagkgddeabaa.Base
set_option linter.unusedVariables false
set_option linter.unusedSimpArgs false
open Go

section
variable {P : Program} {ops : Array Oper} {md : Region.Mode} {C : World → Prop}

/-- Q at a normal end, nothing else. -/
def plainEnd (Q : Exit → Act → World → Prop) : Exit → Act → World → Prop
  | .normal, a, w => Q .normal a w
  | _, _, _ => False
theorem plainEnd_normal {Q : Exit → Act → World → Prop} {a : Act} {w : World} (h : Q .normal a w) : plainEnd Q .normal a w := h

theorem wpOp_of_plain {i : Nat} {K K' : Act → World → Prop} {Q : Exit → Act → World → Prop} {a : Act} {w : World} (hK : ∀ a w, K a w → K' a w)
    (h : wpOp P ops (plainEnd Q) i K a w) : wpOp P ops Q i K' a w := by
  unfold wpOp at *
  split
  · rename_i ho; simp only [ho] at h; exact hK _ _ h
  · rename_i o ho
    simp only [ho] at h
    split
    · rename_i hw
      simp only [hw, if_true] at h
      rcases h with h | ⟨h1, h2⟩
      · left
        unfold Oper.wp at *
        generalize (execOp a.eval o).run P w = r at *
        cases r with
        | ok n w' =>
          cases n <;> simp only [Oper.upon] at h ⊢ <;>
            first
              | exact hK _ _ h
              | exact Calls.mono h (fun e w'' he => by
                  cases e with
                  | returned v => exact hK _ _ he
                  | panicked c => exact he.elim
                  | outgrown => obtain ⟨_, _, h⟩ := he; exact h.elim)
              | exact Rows.mono h (fun _ _ he => hK _ _ he)
        | halt x w' => cases x <;> simp only [Oper.upon] at h ⊢ <;> first | exact h.elim | exact h
      · obtain ⟨_, _, h⟩ := h2; exact h.elim
    · rename_i hw; simp only [hw] at h; exact hK _ _ h

theorem wpAny_of_plain {Q : Exit → Act → World → Prop} : ∀ (f : Nat) (listed : Array Bool) (a : Act) (w : World), wpAny P md ops (plainEnd Q) f listed a w → wpAny P md ops Q f listed a w
  | 0, _, _, _, h => ⟨h.1, h.2⟩
  | f + 1, _, _, _, h => ⟨fun h0 => h.1 h0, fun i hi => wpOp_of_plain (fun a' w' h' => wpAny_of_plain f _ a' w' h') (h.2 i hi)⟩

def sinkFromB (md : Region.Mode) (ops : Array Oper) (m n : Nat) : Bool :=
  (List.range n).all fun i => decide (i < m) || (List.range (n + 1)).any fun j => decide (i < j) && Region.waitsFor md ops j i

theorem not_yetM {m n : Nat} {listed : Array Bool} (hs : sinkFromB md ops m n = true) (hc : backB md ops n = true) (inv : HeadInv md ops n listed) :
    ∀ (d i : Nat), n - i = d → m ≤ i → i < n → listed.getD i true = false → ∀ t, n ≤ t → t ∉ Region.ready md ops listed := by
  intro d
  induction d using Nat.strongRecOn with
  | _ d ih =>
    intro i hd hmi hi hun t ht hr
    obtain ⟨hut, ot, hot, hall⟩ := mem_ready.1 hr
    have htlt : t < ops.size := (Array.getElem?_eq_some_iff.1 hot).1
    rcases Nat.lt_or_ge n t with hnt | hnt
    · have h1 := List.all_eq_true.1 hc t (List.mem_range.2 htlt)
      simp only [Bool.or_eq_true, decide_eq_true_eq] at h1
      rcases h1 with h1 | h1
      · omega
      · obtain ⟨s, hs1, hs2⟩ := List.any_eq_true.1 h1
        have hst := List.mem_range.1 hs1
        simp only [Bool.and_eq_true, decide_eq_true_eq] at hs2
        obtain ⟨o', ho', e, he, hb, hon⟩ := Region.waitsFor_spec hs2.2
        have e1 : o' = ot := Option.some.inj (ho'.symm.trans hot)
        rw [e1] at he
        have h2 := hall e he hb
        rw [hon, getD_both (inv.tail s hs2.1 (by omega))] at h2
        cases h2
    · have htn : t = n := by omega
      have h0 := List.all_eq_true.1 hs i (List.mem_range.2 hi)
      simp only [Bool.or_eq_true, decide_eq_true_eq] at h0
      rcases h0 with h0 | h1
      · omega
      obtain ⟨j, hj, hj2⟩ := List.any_eq_true.1 h1
      simp only [Bool.and_eq_true, decide_eq_true_eq] at hj2
      obtain ⟨oj, hoj, e, he, hb, hon⟩ := Region.waitsFor_spec hj2.2
      have hjn : j < n + 1 := List.mem_range.1 hj
      by_cases hjt : j = t
      · rw [hjt] at hoj
        have e1 : oj = ot := Option.some.inj (hoj.symm.trans hot)
        rw [e1] at he
        have h2 := hall e he hb
        rw [hon, getD_both hun] at h2
        cases h2
      · cases hl : listed.getD j false with
        | true =>
          have h2 := inv.closed j oj hoj hl e he hb
          rw [hon, getD_both hun] at h2
          cases h2
        | false =>
          have hjs : j < listed.size := by rw [inv.size]; omega
          exact ih (n - j) (by omega) j rfl (by omega) (by omega) (getD_in hjs hl) t ht hr

theorem headQ_firstM {m n i : Nat} {oi : Oper} {v : Value} {L : Array Bool → Act → Prop} (hi : ops[i]? = some oi) (hsel : ∀ (j : Nat) (o : Oper) cs b, ops[j]? = some o → o.op ≠ .select cs b)
    (hs : sinkFromB md ops m n = true) (hc : backB md ops n = true) (hmi : m ≤ i) (hin : i < n) (hdone : ∀ listed a, L listed a → ∀ j ∈ Region.ready md ops listed, n ≤ j) :
    ∀ (f : Nat) (listed : Array Bool) (a : Act), HeadInv md ops n listed →
      (∀ j oj, ops[j]? = some oj → j ≠ i → listed.getD j true = false → (∀ e ∈ oj.after, Region.binds md e = true → e.on ≠ i) → oi.apart ops oj = true) →
      i ∈ Region.ready md ops listed → YieldsIn P ops C oi v a →
      wpHeadQ P md ops C n L f (listed.setIfInBounds i true) (a.put oi.dst v) → wpHeadQ P md ops C n L (f + 1) listed a := by
  intro f
  induction f with
  | zero =>
    intro listed a inv _ hr hy H
    have hun := (mem_ready.1 hr).1
    refine ⟨fun h => (by rw [h] at hr; cases hr), fun j hj => ⟨?_, ?_⟩⟩
    · exact Nat.lt_of_not_le fun h => not_yetM hs hc inv _ i rfl hmi hin hun j h hj
    · by_cases hji : j = i
      · rw [hji]; exact hy.qOp hi H
      · have hjn : j < n := Nat.lt_of_not_le fun h => not_yetM hs hc inv _ i rfl hmi hin hun j h hj
        have := hdone _ _ H j (ready_mono hj hji)
        omega
  | succ f ih =>
    intro listed a inv hfree hr hy H
    have hun := (mem_ready.1 hr).1
    refine ⟨fun h => (by rw [h] at hr; cases hr), fun j hj => ?_⟩
    have hjn : j < n := Nat.lt_of_not_le fun h => not_yetM hs hc inv _ i rfl hmi hin hun j h hj
    refine ⟨hjn, ?_⟩
    by_cases hji : j = i
    · rw [hji]; exact hy.qOp hi H
    · have h1 := (H.2 j (ready_mono hj hji)).2
      obtain ⟨hjun, oj, hoj, hall⟩ := mem_ready.1 hj
      have hnot : ∀ e ∈ oj.after, Region.binds md e = true → e.on ≠ i := fun e he hb heq => by
        have h1 := hall e he hb
        rw [heq, getD_both hun] at h1
        cases h1
      have h2 := qOp_put hoj (hfree j oj hoj hji hjun hnot) (fun cs b => hsel i oi cs b hi) (fun cs b => hsel j oj cs b hoj) hy h1
      refine qOp_mono (fun a' h3 => ih (listed.setIfInBounds j true) a' (inv.set hj hjn) (fun k ok hk hki hunk hno => ?_) (ready_mono hr (Ne.symm hji)) h3.1 ?_) h2
      · refine hfree k ok hk hki ?_ hno
        by_cases hjk : j = k
        · rw [← hjk]; exact hjun
        · rwa [getD_set_ne true hjk] at hunk
      · rw [Array.setIfInBounds_comm _ _ hji]
        exact h3.2

theorem headQ_lexM {m n : Nat} {T : Array Bool → Bool} {Lq : Act → Prop} (hT : ∀ listed, T listed = true → ∀ j ∈ Region.ready md ops listed, n ≤ j)
    (hsel : Region.noSelect ops = true) (hs : sinkFromB md ops m n = true) (hc : backB md ops n = true) :
    ∀ (l : List Oper) (k : Nat) (listed : Array Bool) (a : Act), (∀ j, j < l.length → l[j]? = ops[k + j]?) → k + l.length = n → m ≤ k → HeadInv md ops n listed →
    headB md ops T l.length k listed = true → wpQuiet P ops C Lq l a →
    wpHeadQ P md ops C n (fun listed' a' => T listed' = true ∧ Lq a') l.length listed a
  | [], k, listed, a, _, hk, _, _, hB, h => ⟨by simpa [headB] using hB, h⟩
  | o :: l, k, listed, a, hl, hk, hmk, inv, hB, h => by
    have h0 : ops[k]? = some o := by simpa using (hl 0 (by simp)).symm
    simp only [List.length_cons, headB, Bool.and_eq_true] at hB
    obtain ⟨⟨hr, hf⟩, hB'⟩ := hB
    have hkn : k < n := by simp only [List.length_cons] at hk; omega
    have hr' : k ∈ Region.ready md ops listed := by simpa using hr
    have hst : qOp P ops C k (wpQuiet P ops C Lq l) a := by unfold qOp; simp only [h0]; exact h
    obtain ⟨v, hy, hK⟩ := yieldsIn_of_qOp h0 hst
    exact headQ_firstM h0 (Region.noSelect_spec hsel) hs hc hmk hkn (fun listed' a' hL => hT _ hL.1) l.length listed a inv (Region.free_spec h0 hf) hr' hy
      (headQ_lexM hT hsel hs hc l (k + 1) _ _ (fun j hj => by have := hl (j + 1) (by simp; omega); simpa [Nat.add_assoc, Nat.add_comm 1 j] using this)
        (by simp only [List.length_cons] at hk; omega) (by omega) (inv.set hr' hkn) hB' hK)

def floatB (md : Region.Mode) (ops : Array Oper) (n : Nat) : Bool :=
  Region.noSelect ops && decide (n < ops.size) && decide (1 ≤ n) && sinkFromB md ops 1 n && backB md ops n &&
  (Region.ready md ops (Array.replicate ops.size false)).contains 0 && Region.free md ops (Array.replicate ops.size false) 0 &&
  headB md ops (Region.seqB md ops (ops.size - n) n) (n - 1) 1 ((Array.replicate ops.size false).setIfInBounds 0 true)

theorem drawn_float {S : World → Prop} {id : Nat} {Q : Exit → Act → World → Prop} {a : Act} {w : World} {o0 : Oper} {l' : List Oper} (n : Nat) (v0 : Value) (hm : P.follows .mixedOrders = true)
    (hB : floatB .any (o0 :: l').toArray n = true) (hS : S w.drew) (hy : Yields P (o0 :: l').toArray o0 v0 a)
    (h : wpQuiet P (o0 :: l').toArray (fun w' => ∃ x : Held S, w' = x.w) (fun a1 => ∀ w1, (∃ x : Held S, w1 = x.w) →
      wpList P (o0 :: l').toArray (plainEnd Q) (l'.drop (n - 1)) a1 w1) (l'.take (n - 1)) (a.put o0.dst v0)) :
    (Code.region id (o0 :: l').toArray true).wp P Q a w := by
  simp only [floatB, Bool.and_eq_true, decide_eq_true_eq] at hB
  obtain ⟨⟨⟨⟨⟨⟨⟨hsel, hn⟩, hn1⟩, hs⟩, hc⟩, hr0⟩, hf0⟩, hlex⟩ := hB
  have hn' : n < (o0 :: l').length := by simpa using hn
  simp only [List.length_cons] at hn'
  have htl : (l'.take (n - 1)).length = n - 1 := by simp; omega
  have hsz : (o0 :: l').toArray.size = l'.length + 1 := by simp
  have hdl : (l'.drop (n - 1)).length = (o0 :: l').toArray.size - n := by rw [hsz]; simp; omega
  have hget : ∀ j, (o0 :: l').toArray[1 + j]? = l'[j]? := fun j => by rw [Nat.add_comm]; simp
  have h00 : (o0 :: l').toArray[0]? = some o0 := by simp
  have inv0 : HeadInv .any (o0 :: l').toArray n (Array.replicate (o0 :: l').toArray.size false) :=
    ⟨by simp, fun j oj _ hl => (by rw [getD_replicate_false] at hl; cases hl), fun t _ ht => getD_in (by simpa using ht) (getD_replicate_false _ _)⟩
  have hr0' : 0 ∈ Region.ready .any (o0 :: l').toArray (Array.replicate (o0 :: l').toArray.size false) := by simpa using hr0
  have inv1 := inv0.set hr0' (by omega)
  have H := headQ_lexM (md := .any) (T := Region.seqB .any (o0 :: l').toArray ((o0 :: l').toArray.size - n) n) (fun listed hT => seqB_ready hT) hsel hs hc (l'.take (n - 1)) 1 _ _ (fun j hj => by
    have hj' : j < n - 1 := by rw [htl] at hj; exact hj
    rw [hget, List.getElem?_take, if_pos hj']) (by rw [htl]; omega) (Nat.le_refl 1) inv1 (by rw [htl]; exact hlex) h
  refine wp_region_any hm (wpAny_of_plain _ _ _ _ ?_)
  rw [show (o0 :: l').toArray.size = l'.length + 1 from hsz]
  refine wpAny_take (i := 0) (oi := o0) (v := v0) h00 hsel (by rw [← hsz]; exact hf0) (by rw [← hsz]; exact hr0) (fun c a w h => h.elim) hy ?_
  have := wpAny_of_headQ (Q' := plainEnd Q) (g := (l'.drop (n - 1)).length) (fun listed a' w1 hw1 hL =>
    wpAny_of_seq (md := .any) (Q' := plainEnd Q) (l'.drop (n - 1)) n listed a' w1 (fun j => by
      rw [show n + j = 1 + (n - 1 + j) by omega, hget, List.getElem?_drop]) (by rw [hdl]; exact hL.1) (hL.2 w1 hw1)) _ _ _ { w with drawn := w.drawn + 1 } ⟨⟨w.drew, hS⟩, rfl⟩ H
  rw [htl, hdl, hsz, show n - 1 + (l'.length + 1 - n) = l'.length by omega] at this
  rw [← hsz]
  rw [← hsz] at this
  exact this
end
end Go.Proofs.Ythcaagkgddeabaa.Base
