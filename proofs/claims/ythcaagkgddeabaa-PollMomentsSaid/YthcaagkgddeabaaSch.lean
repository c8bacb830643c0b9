/-
  A drawn region by a schedule: some that only read, then one that comes alone, or one of two, whichever (a call, and a variable that is made); at the end what turns nothing. No condition. By an AI agent.
-/
import Derived.Test.YthcaagkgddeabaaTail
namespace Go.Proofs.Ythcaagkgddeabaa.Base
set_option linter.unusedVariables false
set_option linter.unusedSimpArgs false
open Go

inductive Sch where
  | fin (s : List Nat)
  | bar (s : List Nat) (n : Nat) (k : Sch)
  | two (s : List Nat) (n1 : Nat) (k1 : Sch) (n2 : Nat) (k2 : Sch)
section
variable {P : Program} {ops : Array Oper} {md : Region.Mode} {S C : World → Prop}
def Sch.cnt : Sch → Nat
  | .fin s => s.length
  | .bar s _ k => k.cnt + 1 + s.length
  | .two s _ k1 _ _ => k1.cnt + 1 + s.length
def schB (md : Region.Mode) (ops : Array Oper) (L : List Nat) : Sch → Bool → Array Bool → Bool
  | .fin s, gone, b => (s.isEmpty || !gone) && schedB md ops (fun b => decide (Region.ready md ops b = [])) false s b
  | .bar s n k, gone, b => (s.isEmpty || !gone) && (s.all fun i => waitB md ops L i && !L.contains i) && schedB md ops (fun b => decide (n < ops.size) && decide (Region.ready md ops b = [n]) && schB md ops L k (gone || L.contains n) (b.setIfInBounds n true)) true s b
  | .two s n1 k1 n2 k2, gone, b => (s.isEmpty || !gone) && (s.all fun i => waitB md ops L i && !L.contains i) && decide (k1.cnt = k2.cnt) && schedB md ops (fun b => decide (n1 < ops.size) && decide (n2 < ops.size) && decide (Region.ready md ops b = [n1, n2]) && schB md ops L k1 (gone || L.contains n1) (b.setIfInBounds n1 true) && schB md ops L k2 (gone || L.contains n2) (b.setIfInBounds n2 true)) true s b
def PhasedC (P : Program) (l : List Oper) (Q : Exit → Act → World → Prop) (L : List Nat) : Sch → (World → Prop) → Act → World → Prop
  | .fin s, S, a, w => wpQuiet P l.toArray (fun w' => ∃ x : Held (fun W => W = w), w' = x.w) (fun a' => Q .normal a' w) (pick l s) a
  | .bar s n k, S, a, w => wpQuiet P l.toArray (fun w' => ∃ x : Held S, w' = x.w) (fun a1 => wpList P l.toArray (behind (fun a2 w2 => ∃ S1 : World → Prop, (∀ W, S1 W → S W) ∧ (L.contains n = false → S1 w2) ∧ PhasedC P l Q L k S1 a2 w2) (plainEnd Q)) (pick l [n]) a1 w) (pick l s) a
  | .two s n1 k1 n2 k2, S, a, w => wpQuiet P l.toArray (fun w' => ∃ x : Held S, w' = x.w) (fun a1 =>
      wpList P l.toArray (behind (fun a2 w2 => ∃ S1 : World → Prop, (∀ W, S1 W → S W) ∧ (L.contains n1 = false → S1 w2) ∧ PhasedC P l Q L k1 S1 a2 w2) (plainEnd Q)) (pick l [n1]) a1 w ∧
      wpList P l.toArray (behind (fun a2 w2 => ∃ S1 : World → Prop, (∀ W, S1 W → S W) ∧ (L.contains n2 = false → S1 w2) ∧ PhasedC P l Q L k2 S1 a2 w2) (plainEnd Q)) (pick l [n2]) a1 w) (pick l s) a
theorem wpAnyT_of_quiet {L : List Nat} {Q : Act → Prop} {Q' : Exit → Act → World → Prop} (hCS : ∀ w, C w → S w) (hQ : ∀ a w, C w → Q a → Q' .normal a w) : ∀ (fuel : Nat) (listed : Array Bool) (a : Act) (w : World), C w →
    wpAnyQ P md ops C Q fuel listed a → wpAnyT P md ops Q' L S fuel listed a w
  | 0, _, _, _, hw, h => ⟨h.1, hQ _ _ hw h.2⟩
  | fuel + 1, _, _, _, hw, h => ⟨fun h0 => hQ _ _ hw (h.1 h0), fun i hi => wpOp_of_qOp hw (fun a' w' hw' h' => ⟨fun _ => hCS _ hw', wpAnyT_of_quiet hCS hQ fuel _ a' w' hw' h'⟩) (h.2 i hi)⟩
theorem tail_two {Q : Exit → Act → World → Prop} {L : List Nat} {l : List Oper} {f : Nat} {w : World} {listed : Array Bool} {a : Act} (n1 n2 : Nat) (o1 o2 : Oper) (hr : Region.ready md l.toArray listed = [n1, n2]) (ho1 : l[n1]? = some o1) (ho2 : l[n2]? = some o2)
    (h1 : wpList P l.toArray (behind (fun a' w' => (L.contains n1 = false → S w') ∧ wpAnyT P md l.toArray (plainEnd Q) L S f (listed.setIfInBounds n1 true) a' w') (plainEnd Q)) [o1] a w)
    (h2 : wpList P l.toArray (behind (fun a' w' => (L.contains n2 = false → S w') ∧ wpAnyT P md l.toArray (plainEnd Q) L S f (listed.setIfInBounds n2 true) a' w') (plainEnd Q)) [o2] a w) :
    wpAnyT P md l.toArray (plainEnd Q) L S (f + 1) listed a w := by
  refine ⟨fun h0 => absurd (hr ▸ h0) (by simp), hr ▸ fun i hi => ?_⟩
  have : i = n1 ∨ i = n2 := by simpa using hi
  rcases this with rfl | rfl
  · exact wpOp_of_behind (by simpa using ho1) h1
  · exact wpOp_of_behind (by simpa using ho2) h2
theorem phasedC_any {L : List Nat} {l : List Oper} {Q : Exit → Act → World → Prop} (hsel : Region.noSelect l.toArray = true) : ∀ (c : Sch) (gone : Bool) (S : World → Prop) (listed : Array Bool) (a : Act) (w : World),
    schB md l.toArray L c gone listed = true → (gone = true ∨ S w) → PhasedC P l Q L c S a w → wpAnyT P md l.toArray (plainEnd Q) L S c.cnt listed a w
  | .fin s, gone, S, listed, a, w, hB, hS, h => by
    simp only [schB, Bool.and_eq_true, Bool.or_eq_true, List.isEmpty_iff, Bool.not_eq_true'] at hB
    obtain ⟨hg, hB⟩ := hB
    rcases hg with rfl | hg
    · refine ⟨by simpa [schedB] using hB, plainEnd_normal ?_⟩
      exact h
    · have hSw : S w := hS.elim (fun h9 => by rw [hg] at h9; cases h9) id
      refine wpAnyT_of_quiet (C := fun w' => ∃ x : Held (fun W => W = w), w' = x.w) (fun W ⟨x, hx⟩ => by rw [hx, x.ok]; exact hSw) (Q := fun a' => Q .normal a' w) (fun a W hC h9 => plainEnd_normal ?_) _ _ _ _ ⟨⟨w, rfl⟩, rfl⟩ (wpAnyQ_sched hsel s _ _ hB h)
      obtain ⟨x, hx⟩ := hC
      rw [hx, x.ok]; exact h9
  | .bar s n k, gone, S, listed, a, w, hB, hS, h => by
    simp only [schB, Bool.and_eq_true, Bool.or_eq_true, List.isEmpty_iff, Bool.not_eq_true'] at hB
    obtain ⟨⟨hg, hw⟩, hB⟩ := hB
    refine tail_hoist hsel (f := k.cnt + 1) s _ a (hg.elim .inl (fun hg => .inr (hS.elim (fun h9 => by rw [hg] at h9; cases h9) id))) (by simpa using hw) hB ?_
    refine wpQuiet_mono (fun a1 h1 => ?_) _ _ h
    intro listed' _ hT
    simp only [Bool.and_eq_true, decide_eq_true_eq] at hT
    have hn : n < l.length := by simpa using hT.1.1
    refine tail_bar n ((l[n]?).getD default) hT.1.2 (by simp [hn]) ?_
    refine wpList_one_mono (fun a2 w2 hh => ?_) h1
    obtain ⟨S1, hSS, hS1, h2⟩ := hh
    refine ⟨fun hL => hSS _ (hS1 hL), wpAnyT_mono hSS _ _ _ _ (phasedC_any hsel k _ S1 _ a2 w2 hT.2 ?_ h2)⟩
    cases hc : L.contains n with
    | true => exact .inl (by simp)
    | false => exact .inr (hS1 hc)
  | .two s n1 k1 n2 k2, gone, S, listed, a, w, hB, hS, h => by
    simp only [schB, Bool.and_eq_true, Bool.or_eq_true, List.isEmpty_iff, Bool.not_eq_true', decide_eq_true_eq] at hB
    obtain ⟨⟨⟨hg, hw⟩, hcnt⟩, hB⟩ := hB
    refine tail_hoist hsel (f := k1.cnt + 1) s _ a (hg.elim .inl (fun hg => .inr (hS.elim (fun h9 => by rw [hg] at h9; cases h9) id))) (by simpa using hw) hB ?_
    refine wpQuiet_mono (fun a1 h1 => ?_) _ _ h
    intro listed' _ hT
    simp only [Bool.and_eq_true, decide_eq_true_eq] at hT
    obtain ⟨⟨⟨⟨hn1, hn2⟩, hr⟩, hb1⟩, hb2⟩ := hT
    have hn1 : n1 < l.length := by simpa using hn1
    have hn2 : n2 < l.length := by simpa using hn2
    refine tail_two n1 n2 ((l[n1]?).getD default) ((l[n2]?).getD default) hr (by simp [hn1]) (by simp [hn2]) ?_ ?_
    · refine wpList_one_mono (fun a2 w2 hh => ?_) h1.1
      obtain ⟨S1, hSS, hS1, h2⟩ := hh
      refine ⟨fun hL => hSS _ (hS1 hL), wpAnyT_mono hSS _ _ _ _ (phasedC_any hsel k1 _ S1 _ a2 w2 hb1 ?_ h2)⟩
      cases hc : L.contains n1 with
      | true => exact .inl (by simp)
      | false => exact .inr (hS1 hc)
    · refine wpList_one_mono (fun a2 w2 hh => ?_) h1.2
      obtain ⟨S1, hSS, hS1, h2⟩ := hh
      rw [hcnt]
      refine ⟨fun hL => hSS _ (hS1 hL), wpAnyT_mono hSS _ _ _ _ (phasedC_any hsel k2 _ S1 _ a2 w2 hb2 ?_ h2)⟩
      cases hc : L.contains n2 with
      | true => exact .inl (by simp)
      | false => exact .inr (hS1 hc)
theorem drawn_sch {S : World → Prop} {id : Nat} {Q : Exit → Act → World → Prop} {a : Act} {w : World} {l : List Oper} (L : List Nat) (c : Sch) (hm : P.follows .mixedOrders = true)
    (hsel : Region.noSelect l.toArray = true) (hB : schB .any l.toArray L c false (Array.replicate l.length false) = true) (hlen : l.length = c.cnt) (hS : S w.drew) (h : PhasedC P l Q L c S a w.drew) :
    (Code.region id l.toArray true).wp P Q a w := by
  refine wp_region_any hm (wpAny_of_plain _ _ _ _ (wpAny_of_T (S := S) (L := L) _ _ _ _ ?_))
  rw [show l.toArray.size = c.cnt by simpa using hlen]
  rw [show Array.replicate c.cnt false = Array.replicate l.length false by rw [hlen]]
  exact phasedC_any hsel c false S _ a _ hB (.inr hS) h
theorem PhasedC.bar_ {l : List Oper} {Q : Exit → Act → World → Prop} {L s : List Nat} {n : Nat} {k : Sch} {S : World → Prop} {a : Act} {w : World}
    (h : wpQuiet P l.toArray (fun w' => ∃ x : Held S, w' = x.w) (fun a1 => wpList P l.toArray (behind (fun a2 w2 => ∃ S1 : World → Prop, (∀ W, S1 W → S W) ∧ (L.contains n = false → S1 w2) ∧ PhasedC P l Q L k S1 a2 w2) (plainEnd Q)) (pick l [n]) a1 w) (pick l s) a) :
    PhasedC P l Q L (.bar s n k) S a w := h
theorem PhasedC.two_ {l : List Oper} {Q : Exit → Act → World → Prop} {L s : List Nat} {n1 n2 : Nat} {k1 k2 : Sch} {S : World → Prop} {a : Act} {w : World}
    (h : wpQuiet P l.toArray (fun w' => ∃ x : Held S, w' = x.w) (fun a1 =>
      wpList P l.toArray (behind (fun a2 w2 => ∃ S1 : World → Prop, (∀ W, S1 W → S W) ∧ (L.contains n1 = false → S1 w2) ∧ PhasedC P l Q L k1 S1 a2 w2) (plainEnd Q)) (pick l [n1]) a1 w ∧
      wpList P l.toArray (behind (fun a2 w2 => ∃ S1 : World → Prop, (∀ W, S1 W → S W) ∧ (L.contains n2 = false → S1 w2) ∧ PhasedC P l Q L k2 S1 a2 w2) (plainEnd Q)) (pick l [n2]) a1 w) (pick l s) a) :
    PhasedC P l Q L (.two s n1 k1 n2 k2) S a w := h
theorem PhasedC.fin_ {l : List Oper} {Q : Exit → Act → World → Prop} {L s : List Nat} {S : World → Prop} {a : Act} {w : World}
    (h : wpQuiet P l.toArray (fun w' => ∃ x : Held (fun W => W = w), w' = x.w) (fun a' => Q .normal a' w) (pick l s) a) : PhasedC P l Q L (.fin s) S a w := h
end
end Go.Proofs.Ythcaagkgddeabaa.Base
