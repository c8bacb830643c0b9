/-
  A drawn region by phases, whose last operations turn what it has read: what is read need not be so any more behind an operation that waits for the reads. No condition. By an AI agent.
-/
import Derived.Test.YthcaagkgddeabaaEx
namespace Go.Proofs.Ythcaagkgddeabaa.Base
set_option linter.unusedVariables false
set_option linter.unusedSimpArgs false
open Go

section
variable {P : Program} {ops : Array Oper} {md : Region.Mode} {S : World → Prop}
/-- Whatever order is picked from here on, and S holds behind each operation that is carried out but those of L. -/
def wpAnyT (P : Program) (md : Region.Mode) (ops : Array Oper) (Q : Exit → Act → World → Prop) (L : List Nat) (S : World → Prop) : Nat → Array Bool → Act → World → Prop
  | 0, listed, a, w => Region.ready md ops listed = [] ∧ Q .normal a w
  | fuel + 1, listed, a, w =>
    (Region.ready md ops listed = [] → Q .normal a w) ∧
    ∀ i ∈ Region.ready md ops listed, wpOp P ops Q i (fun a' w' => (L.contains i = false → S w') ∧ wpAnyT P md ops Q L S fuel (listed.setIfInBounds i true) a' w') a w
theorem wpAny_of_T {Q : Exit → Act → World → Prop} {L : List Nat} : ∀ (fuel : Nat) (listed : Array Bool) (a : Act) (w : World), wpAnyT P md ops Q L S fuel listed a w → wpAny P md ops Q fuel listed a w
  | 0, _, _, _, h => h
  | fuel + 1, _, _, _, h => ⟨h.1, fun i hi => wpOp_mono (fun a' w' h' => wpAny_of_T fuel _ a' w' h'.2) (h.2 i hi)⟩
theorem wpAnyT_mono {S' : World → Prop} {Q : Exit → Act → World → Prop} {L : List Nat} (hS : ∀ w, S' w → S w) : ∀ (f : Nat) (listed : Array Bool) (a : Act) (w : World), wpAnyT P md ops Q L S' f listed a w → wpAnyT P md ops Q L S f listed a w
  | 0, _, _, _, h => h
  | f + 1, _, _, _, h => ⟨h.1, fun i hi => wpOp_mono (fun a' w' h' => ⟨fun hL => hS _ (h'.1 hL), wpAnyT_mono hS f _ a' w' h'.2⟩) (h.2 i hi)⟩
/-- each of L waits for i -/
def waitB (md : Region.Mode) (ops : Array Oper) (L : List Nat) (i : Nat) : Bool := L.all fun j => match ops[j]? with
  | some o => o.after.toList.any fun e => Region.binds md e && e.on == i
  | none => true
theorem wpAnyT_first {Q : Exit → Act → World → Prop} {L : List Nat} {i : Nat} {oi : Oper} {v : Value} (hi : ops[i]? = some oi) (hsel : ∀ (j : Nat) (o : Oper) cs b, ops[j]? = some o → o.op ≠ .select cs b)
    (hQ : ∀ c a w, Q (.panic c) (a.put oi.dst v) w → Q (.panic c) a w) (hL : waitB md ops L i = true) (hLi : L.contains i = false) :
    ∀ (fuel : Nat) (listed : Array Bool) (a : Act) (w : World),
      (∀ j oj, ops[j]? = some oj → j ≠ i → listed.getD j true = false → (∀ e ∈ oj.after, Region.binds md e = true → e.on ≠ i) → oi.apart ops oj = true) →
      i ∈ Region.ready md ops listed → YieldsIf P ops S oi v a → S w →
      wpAnyT P md ops Q L S fuel (listed.setIfInBounds i true) (a.put oi.dst v) w → wpAnyT P md ops Q L S (fuel + 1) listed a w := by
  intro fuel
  induction fuel with
  | zero =>
    intro listed a w _ hr hy hS H
    refine ⟨fun h => (by rw [h] at hr; cases hr), fun j hj => ?_⟩
    by_cases hji : j = i
    · subst hji; exact hy.wpOp hi hS ⟨fun _ => hS, H⟩
    · have := ready_mono hj hji
      rw [H.1] at this
      cases this
  | succ fuel ih =>
    intro listed a w hfree hr hy hS H
    refine ⟨fun h => (by rw [h] at hr; cases hr), fun j hj => ?_⟩
    by_cases hji : j = i
    · subst hji; exact hy.wpOp hi hS ⟨fun _ => hS, H⟩
    · have h1 := H.2 j (ready_mono hj hji)
      obtain ⟨hjun, oj, hoj, hall⟩ := mem_ready.1 hj
      have hnot : ∀ e ∈ oj.after, Region.binds md e = true → e.on ≠ i := fun e he hb heq => by
        have h1 := hall e he hb
        have h0 := (mem_ready.1 hr).1
        rw [heq] at h1
        rcases Nat.lt_or_ge i listed.size with h' | h'
        · simp [h'] at h0 h1; rw [h0] at h1; cases h1
        · simp [Array.getElem?_eq_none h'] at h1
      have hjL : L.contains j = false := by
        cases hc : L.contains j with
        | false => rfl
        | true =>
          have hm : j ∈ L := by simpa using hc
          have h9 := List.all_eq_true.1 hL j hm
          rw [hoj] at h9
          simp only [List.any_eq_true, Bool.and_eq_true, beq_iff_eq] at h9
          obtain ⟨e, he, hb, hon⟩ := h9
          exact absurd hon (hnot e (by simpa using he) hb)
      have h2 := wpOp_putIf hoj (hfree j oj hoj hji hjun hnot) (fun cs b => hsel i oi cs b hi) (fun cs b => hsel j oj cs b hoj) hQ hy h1
      have hfree' : ∀ k ok, ops[k]? = some ok → k ≠ i → (listed.setIfInBounds j true).getD k true = false →
          (∀ e ∈ ok.after, Region.binds md e = true → e.on ≠ i) → oi.apart ops ok = true := fun k ok hk hki hun hno => by
        refine hfree k ok hk hki ?_ hno
        by_cases hjk : j = k
        · subst hjk; exact hjun
        · rw [getD_set_ne true hjk] at hun; exact hun
      refine wpOp_mono (fun a' w' h3 => ⟨fun _ => h3.2.1 hjL, ih (listed.setIfInBounds j true) a' w' hfree' (ready_mono hr (Ne.symm hji)) h3.1 (h3.2.1 hjL) ?_⟩) h2
      rw [Array.setIfInBounds_comm _ _ hji]
      exact h3.2.2
theorem wpAnyT_take {Q : Exit → Act → World → Prop} {L : List Nat} {i : Nat} {oi : Oper} {v : Value} {fuel : Nat} {listed : Array Bool} {a : Act} {w : World} (hi : ops[i]? = some oi)
    (hs : Region.noSelect ops = true) (hf : Region.free md ops listed i = true) (hr : (Region.ready md ops listed).contains i = true)
    (hQ : ∀ c a w, Q (.panic c) (a.put oi.dst v) w → Q (.panic c) a w) (hL : waitB md ops L i = true) (hLi : L.contains i = false) (hy : YieldsIf P ops S oi v a) (hS : S w)
    (h : wpAnyT P md ops Q L S fuel (listed.setIfInBounds i true) (a.put oi.dst v) w) : wpAnyT P md ops Q L S (fuel + 1) listed a w :=
  wpAnyT_first hi (Region.noSelect_spec hs) hQ hL hLi fuel listed a w (Region.free_spec hi hf) (by simpa using hr) hy hS h
theorem tail_hoist {Q : Exit → Act → World → Prop} {L : List Nat} {l : List Oper} {f : Nat} {w : World} (hsel : Region.noSelect l.toArray = true) {T : Array Bool → Bool} :
    ∀ (s : List Nat) (listed : Array Bool) (a : Act), (s = [] ∨ S w) → (s.all fun i => waitB md l.toArray L i && !L.contains i) = true → schedB md l.toArray T true s listed = true →
    wpQuiet P l.toArray (fun w' => ∃ x : Held S, w' = x.w) (fun a1 => ∀ listed', listed' = lay s listed → T listed' = true → wpAnyT P md l.toArray (plainEnd Q) L S f listed' a1 w) (pick l s) a →
    wpAnyT P md l.toArray (plainEnd Q) L S (f + s.length) listed a w
  | [], listed, a, _, _, hB, h => h _ rfl (by simpa [schedB] using hB)
  | i :: s, listed, a, hS, hW, hB, h => by
    have hS : S w := hS.elim (fun h => by cases h) id
    simp only [schedB, Bool.and_eq_true, decide_eq_true_eq, Bool.not_true, Bool.false_or] at hB
    obtain ⟨⟨⟨⟨hi, hr⟩, hf⟩, hrd⟩, hB'⟩ := hB
    simp only [List.all_cons, Bool.and_eq_true] at hW
    have h0 : l.toArray[i]? = some ((l[i]?).getD default) := by
      have : i < l.length := by simpa using hi
      simp [this]
    rw [h0, Option.getD_some] at hrd
    have hst : qOp P l.toArray (fun w' => ∃ x : Held S, w' = x.w) i (wpQuiet P l.toArray (fun w' => ∃ x : Held S, w' = x.w) (fun a1 => ∀ listed', listed' = lay (i :: s) listed → T listed' = true → wpAnyT P md l.toArray (plainEnd Q) L S f listed' a1 w) (pick l s)) a := by
      unfold qOp
      simp only [h0]
      exact h
    obtain ⟨v, hy, hK⟩ := yieldsIn_of_qOp h0 hst
    have hy' := yieldsIf_of_in hrd hy
    have hy2 : YieldsIf P l.toArray S ((l[i]?).getD default) v a := hy'.imp (fun ⟨h1, h2⟩ => ⟨h1, fun w hw => h2 w ⟨⟨w, hw⟩, rfl⟩⟩) id
    exact wpAnyT_take h0 hsel hf hr (fun _ _ _ h => h) hW.1.1 (by simpa using hW.1.2) hy2 hS (tail_hoist hsel s _ _ (.inr hS) hW.2 hB' hK)
theorem tail_bar {Q : Exit → Act → World → Prop} {L : List Nat} {l : List Oper} {f : Nat} {w : World} {listed : Array Bool} {a : Act} (n : Nat) (o : Oper) (hr : Region.ready md l.toArray listed = [n]) (ho : l[n]? = some o)
    (h : wpList P l.toArray (behind (fun a' w' => (L.contains n = false → S w') ∧ wpAnyT P md l.toArray (plainEnd Q) L S f (listed.setIfInBounds n true) a' w') (plainEnd Q)) [o] a w) :
    wpAnyT P md l.toArray (plainEnd Q) L S (f + 1) listed a w := by
  refine ⟨fun h0 => absurd (hr ▸ h0) (by simp), hr ▸ fun i hi => ?_⟩
  have : i = n := by simpa using hi
  subst this
  exact wpOp_of_behind (by simpa using ho) h
/-- Phases: some that only read, one that then comes alone, again and again; behind one of L nothing more is read ahead. -/
def PhasedT (P : Program) (l : List Oper) (Q : Exit → Act → World → Prop) (L : List Nat) : List (List Nat × Nat) → (World → Prop) → Act → World → Prop
  | [], S, a, w => Q .normal a w
  | (s, n) :: ph, S, a, w => wpQuiet P l.toArray (fun w' => ∃ x : Held S, w' = x.w) (fun a1 => wpList P l.toArray (behind (fun a2 w2 => ∃ S1 : World → Prop, (∀ W, S1 W → S W) ∧ (L.contains n = false → S1 w2) ∧ PhasedT P l Q L ph S1 a2 w2) (plainEnd Q)) (pick l [n]) a1 w) (pick l s) a
def schedT (md : Region.Mode) (ops : Array Oper) (L : List Nat) : List (List Nat × Nat) → Bool → Array Bool → Bool
  | [], _, b => decide (Region.ready md ops b = [])
  | (s, n) :: ph, gone, b => (s.isEmpty || !gone) && (s.all fun i => waitB md ops L i && !L.contains i) && schedB md ops (fun b => decide (n < ops.size) && decide (Region.ready md ops b = [n]) && schedT md ops L ph (gone || L.contains n) (b.setIfInBounds n true)) true s b
def cntT : List (List Nat × Nat) → Nat
  | [] => 0
  | (s, _) :: ph => cntT ph + 1 + s.length
theorem phasedT_any {L : List Nat} {l : List Oper} {Q : Exit → Act → World → Prop} (hsel : Region.noSelect l.toArray = true) : ∀ (ph : List (List Nat × Nat)) (gone : Bool) (S : World → Prop) (listed : Array Bool) (a : Act) (w : World),
    schedT md l.toArray L ph gone listed = true → (gone = true ∨ S w) → PhasedT P l Q L ph S a w → wpAnyT P md l.toArray (plainEnd Q) L S (cntT ph) listed a w
  | [], gone, S, listed, a, w, hB, hS, h => ⟨by simpa [schedT] using hB, plainEnd_normal h⟩
  | (s, n) :: ph, gone, S, listed, a, w, hB, hS, h => by
    simp only [schedT, Bool.and_eq_true, Bool.or_eq_true, List.isEmpty_iff, Bool.not_eq_true'] at hB
    obtain ⟨⟨hg, hw⟩, hB⟩ := hB
    refine tail_hoist hsel (f := cntT ph + 1) s _ a (hg.elim .inl (fun hg => .inr (hS.elim (fun h9 => by rw [hg] at h9; cases h9) id))) (by simpa using hw) hB ?_
    refine wpQuiet_mono (fun a1 h1 => ?_) _ _ h
    intro listed' _ hT
    simp only [Bool.and_eq_true, decide_eq_true_eq] at hT
    have hn : n < l.length := by simpa using hT.1.1
    refine tail_bar n ((l[n]?).getD default) hT.1.2 (by simp [hn]) ?_
    refine wpList_one_mono (fun a2 w2 hh => ?_) h1
    obtain ⟨S1, hSS, hS1, h2⟩ := hh
    refine ⟨fun hL => hSS _ (hS1 hL), wpAnyT_mono hSS _ _ _ _ (phasedT_any hsel ph _ S1 _ a2 w2 hT.2 ?_ h2)⟩
    cases hc : L.contains n with
    | true => exact .inl (by simp)
    | false => exact .inr (hS1 hc)
theorem drawn_tail {S : World → Prop} {id : Nat} {Q : Exit → Act → World → Prop} {a : Act} {w : World} {l : List Oper} (L : List Nat) (ph : List (List Nat × Nat)) (hm : P.follows .mixedOrders = true)
    (hsel : Region.noSelect l.toArray = true) (hB : schedT .any l.toArray L ph false (Array.replicate l.length false) = true) (hlen : l.length = cntT ph) (hS : S w.drew) (h : PhasedT P l Q L ph S a w.drew) :
    (Code.region id l.toArray true).wp P Q a w := by
  refine wp_region_any hm (wpAny_of_plain _ _ _ _ (wpAny_of_T (S := S) (L := L) _ _ _ _ ?_))
  rw [show l.toArray.size = cntT ph by simpa using hlen]
  rw [show Array.replicate (cntT ph) false = Array.replicate l.length false by rw [hlen]]
  exact phasedT_any hsel ph false S _ a _ hB (.inr hS) h
theorem PhasedT.go {l : List Oper} {Q : Exit → Act → World → Prop} {L s : List Nat} {n : Nat} {ph : List (List Nat × Nat)} {S : World → Prop} {a : Act} {w : World}
    (h : wpQuiet P l.toArray (fun w' => ∃ x : Held S, w' = x.w) (fun a1 => wpList P l.toArray (behind (fun a2 w2 => ∃ S1 : World → Prop, (∀ W, S1 W → S W) ∧ (L.contains n = false → S1 w2) ∧ PhasedT P l Q L ph S1 a2 w2) (plainEnd Q)) (pick l [n]) a1 w) (pick l s) a) :
    PhasedT P l Q L ((s, n) :: ph) S a w := h
theorem PhasedT.end_ {l : List Oper} {Q : Exit → Act → World → Prop} {L : List Nat} {S : World → Prop} {a : Act} {w : World} (h : Q .normal a w) : PhasedT P l Q L [] S a w := h
end
end Go.Proofs.Ythcaagkgddeabaa.Base
