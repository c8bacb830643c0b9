/-
  A reading beside publishings: what it has of the generation that it began with, and how many records were published for each try. No program. By an AI agent.
-/
import Derived.Test.YtihogagnjikghaaTI
import Derived.Test.YtihogagnjikghaaRdS
namespace Go.Proofs.Ytihogagnjikghaa.Bank
set_option linter.unusedVariables false
set_option linter.unusedSimpArgs false
open Go Go.RowKit Go.Proofs.Ytihogagnjikghaa.Base

def gnth (l : List Nat) (i : Nat) : Nat := l.getD i 0
theorem gnth_push (l : List Nat) (x i : Nat) : gnth (l ++ [x]) i = if i < l.length then gnth l i else if i = l.length then x else 0 := by
  unfold gnth
  rw [List.getD_eq_getElem?_getD, List.getD_eq_getElem?_getD, List.getElem?_append]
  split
  · rfl
  · rename_i h
    split
    · rename_i h2; subst h2; simp
    · rw [List.getElem?_eq_none (by simp; omega)]; rfl
structure RI (d : Nat) (tries : Int) (recs : Nat → List Int) (N nw : Nat) (x : RS) (got : List Int) (nl : List Nat) : Prop where
  busy : x.how = 0
  steps : x.steps = nl.length
  begun : x.next ≠ 0 → 1 ≤ x.begun ∧ x.begun ≤ nl.length ∧ x.gen = gnth nl (x.begun - 1).toNat ∧ x.gen ≤ N
  fails : 0 < nl.length → (gnth nl 0 : Int) + x.had * ((d : Int) - 1) ≤ (if x.next = 0 then (N : Int) else x.gen)
  has : x.next ≠ 0 → (nw : Int) < x.gen + d → ∀ j : Nat, (j : Int) < x.n → nth got j = nth (recs x.gen.toNat) j
theorem RI.zero (d : Nat) (tries : Int) (recs : Nat → List Int) (N nw : Nat) (got : List Int) : RI d tries recs N nw RS.zero got [] :=
  ⟨rfl, rfl, fun h => by simp [RS.zero] at h, fun h => by simp at h, fun h => by simp [RS.zero] at h⟩
theorem RI.mono {d : Nat} {tries : Int} {recs recs' : Nat → List Int} {N N' nw nw' : Nat} {x : RS} {got : List Int} {nl : List Nat} (h : RI d tries recs N nw x got nl) (hN : N ≤ N') (hw : nw ≤ nw') (hr : ∀ g, g ≤ N → recs' g = recs g) : RI d tries recs' N' nw' x got nl := by
  refine ⟨h.busy, h.steps, fun hx => ?_, fun h0 => ?_, fun hx hl j hj => ?_⟩
  · obtain ⟨a, b, c, e⟩ := h.begun hx; exact ⟨a, b, c, by omega⟩
  · have := h.fails h0
    split
    · rename_i h1; rw [if_pos h1] at this; omega
    · rename_i h1; rw [if_neg h1] at this; exact this
  · have hg := (h.begun hx).2.2.2
    rw [hr _ (by omega)]
    exact h.has hx (by omega) j hj
theorem RI.step {b m d nk N : Nat} {recs mine : Nat → List Int} {xs : PXs} {holder : Int} {ws : List Int} (h : TI b m d nk recs mine xs holder N ws) (hm : 1 ≤ m ∧ m ≤ 64) (hd : 2 ≤ d ∧ d ≤ 16) (hb : b ≤ 1000000) (hN : N ≤ 1000000) {tries : Int} {x : RS} {got : List Int} {nl : List Nat}
    (hR : RI d tries recs N (newTI N holder) x got nl) (hi : RInv (spotB b m d) tries x got) (hlr : ∀ g, g ≤ N → (recs g).length = m) (t : Int) {x' : RS} {got' : List Int} {t' : Int} (he : rdStep (spotB b m d) tries x got ws t = (x', got', t')) :
    x'.steps = nl.length + 1 ∧
    ((x'.how = 0 ∧ RI d tries recs N (newTI N holder) x' got' (nl ++ [N])) ∨
     (x'.how = 1 ∧ 1 ≤ x'.begun ∧ x'.begun ≤ nl.length + 1 ∧ x'.gen = gnth (nl ++ [N]) (x'.begun - 1).toNat ∧ x'.gen ≤ N ∧ got' = recs x'.gen.toNat) ∨
     (x'.how = 2 ∧ (gnth (nl ++ [N]) 0 : Int) + tries * ((d : Int) - 1) ≤ N)) := by
  have hS : (spotB b m d).seq = ((b + 1 : Nat) : Int) := rfl
  have hD : (spotB b m d).depth = d := rfl
  have hlen := h.len
  have hmd := Nat.mul_le_mul hm.1 hd.1
  have hlt1 : b + 1 < ws.length := by omega
  have hin : inW ws ((b + 1 : Nat) : Int) := inW_nat _ _ hlt1
  have hw1 : wordF ws ((b + 1 : Nat) : Int) = nth ws (b + 1) := wordF_nat _ _ hlt1
  have hseq : nth ws (b + 1) / 2 = N ∧ newF (nth ws (b + 1)) = newTI N holder ∧ 0 ≤ nth ws (b + 1) ∧ nth ws (b + 1) ≤ 3000000 := by
    unfold newF newTI
    rcases Int.lt_or_le holder 0 with h0 | h0
    · have := (h.free h0).2; rw [if_pos h0]; omega
    · obtain ⟨_, _, _, h3, _⟩ := h.held h0; rw [if_neg (by omega)]; omega
  have hnx := hi.next
  have hn := hi.n
  have hgl := hi.len
  have hhad := hi.had
  have hsw : (spotB b m d).words = m := rfl
  obtain ⟨busy, st, bg, fa, has⟩ := hR
  obtain ⟨how, next, had, gen, nn, begun, steps⟩ := x
  simp only at busy st bg fa has hnx hn hhad
  subst busy
  have e1 : x' = (rdStep (spotB b m d) tries ⟨0, next, had, gen, nn, begun, steps⟩ got ws t).1 := by rw [he]
  have e2 : got' = (rdStep (spotB b m d) tries ⟨0, next, had, gen, nn, begun, steps⟩ got ws t).2.1 := by rw [he]
  clear he
  have hN0 : nl = [] ∨ 0 < nl.length := by cases nl <;> simp
  have hz : gnth (nl ++ [N]) 0 = if 0 < nl.length then gnth nl 0 else N := by
    rw [gnth_push]
    rcases hN0 with rfl | h0
    · rfl
    · rw [if_pos h0, if_pos h0]
  rcases hnx with rfl | rfl | rfl
  · have e : rdStep (spotB b m d) tries ⟨0, 0, had, gen, nn, begun, steps⟩ got ws t = (⟨0, 1, had, N, 0, steps + 1, steps + 1⟩, got, tickF ws ((b + 1 : Nat) : Int) t) := by
      unfold rdStep; simp only [ne_eq, not_true, if_false, if_true, show ((0 : Int) = 1) = False by simp]; rw [hS, if_pos hin, hw1, hseq.1]
    rw [e] at e1 e2
    subst e1 e2
    refine ⟨by simp only; omega, .inl ⟨rfl, rfl, by simp; omega, fun _ => ⟨by simp only; omega, by simp; omega, ?_, by simp only; omega⟩, fun _ => ?_, fun _ _ j hj => by simp only at hj; omega⟩⟩
    · simp only
      rw [gnth_push, if_neg (by omega), if_pos (by omega)]
    · simp only [show ((1 : Int) = 0) = False by simp, if_false]
      rw [hz]
      rcases hN0 with h0 | h0
      · subst h0
        have hst0 : steps = 0 := by simpa using st
        have hsteps := hi.steps rfl
        simp only [if_true] at hsteps
        have hh0 : had = 0 := by
          have h9 : ((spotB b m d).words + 2) * had = 0 := by omega
          rw [hsw] at h9
          rcases Int.mul_eq_zero.1 h9 with h8 | h8
          · omega
          · exact h8
        subst hh0
        simp
      · have := fa h0
        simp only [if_true] at this
        rw [if_pos h0]
        exact this
  · obtain ⟨b1, b2, b3, b4⟩ := bg (by decide)
    obtain ⟨g, rfl⟩ : ∃ g : Nat, gen = g := ⟨_, b3⟩
    have hnn := hn.2.2.1 rfl rfl
    rw [hsw] at hnn hgl
    obtain ⟨j, rfl⟩ : ∃ j : Nat, nn = j := ⟨nn.toNat, by omega⟩
    have hfit := plB_fit (m := m) b (show 1 ≤ d by omega) g
    have hlt : plB b m d g + j < ws.length := by omega
    have e0 : placeR (spotB b m d) g (j : Int) = ((plB b m d g + j : Nat) : Int) := by
      unfold placeR
      rw [plB_at hm hd hb]
      push_cast; rfl
    have e : rdStep (spotB b m d) tries ⟨0, 1, had, g, j, begun, steps⟩ got ws t = (⟨0, if (j : Int) + 1 = (got.length : Int) then 2 else 1, had, g, j + 1, begun, steps + 1⟩, got.set j (nth ws (plB b m d g + j)), tickF ws (placeR (spotB b m d) g j) t) := by
      unfold rdStep; simp only [ne_eq, not_true, if_false, if_true]
      rw [e0, if_pos (inW_nat _ _ hlt), wordF_nat _ _ hlt, Int.toNat_natCast]
    rw [e] at e1 e2
    subst e1 e2
    have hb5 : gnth (nl ++ [N]) (begun - 1).toNat = gnth nl (begun - 1).toNat := by rw [gnth_push, if_pos (by omega)]
    have hnx2 : (if (j : Int) + 1 = (got.length : Int) then (2 : Int) else 1) ≠ 0 := by split <;> decide
    refine ⟨by simp only; omega, .inl ⟨rfl, rfl, by simp; omega, fun _ => ⟨b1, by simp; omega, by simp only; rw [hb5]; exact b3, b4⟩, fun _ => ?_, fun _ hl i hi2 => ?_⟩⟩
    · simp only
      rw [if_neg hnx2]
      have h0 : 0 < nl.length := by omega
      rw [hz, if_pos h0]
      have := fa h0
      simp only [show ((1 : Int) = 0) = False by simp, if_false] at this
      exact this
    · simp only at hl hi2 ⊢
      rw [nth_set _ _ _ _ (by omega)]
      by_cases hij : i = j
      · subst hij
        rw [if_pos rfl, Int.toNat_natCast]
        exact h.whole g (by omega) (by omega) i (by omega)
      · rw [if_neg hij]
        exact has (by decide) (by omega) i (by omega)
  · obtain ⟨b1, b2, b3, b4⟩ := bg (by decide)
    obtain ⟨g, rfl⟩ : ∃ g : Nat, gen = g := ⟨_, b3⟩
    have hnn := hn.2.2.2 rfl rfl
    rw [hsw] at hnn hgl
    have hb5 : gnth (nl ++ [N]) (begun - 1).toNat = gnth nl (begun - 1).toNat := by rw [gnth_push, if_pos (by omega)]
    have h0 : 0 < nl.length := by omega
    have hfa := fa h0
    simp only [show ((2 : Int) = 0) = False by simp, if_false] at hfa
    have hnw : (newTI N holder : Int) - g ≤ 1000001 ∧ N ≤ newTI N holder ∧ newTI N holder ≤ N + 1 := by unfold newTI; split <;> omega
    have hk : keptB (nth ws (b + 1)) g d = decide ((newTI N holder : Int) < g + d) := by
      unfold keptB
      rw [hseq.2.1, hseq.1, decide_eq_true (show (2 : Int) ≤ d ∧ (d : Int) ≤ 16 by omega), decide_eq_true (show (g : Int) ≤ N by omega), ti_wrap _ (by omega), Bool.true_and, Bool.true_and]
      congr 1
      exact propext ⟨fun h => by omega, fun h => by omega⟩
    by_cases hkp : (newTI N holder : Int) < g + d
    · have e : rdStep (spotB b m d) tries ⟨0, 2, had, g, nn, begun, steps⟩ got ws t = (⟨1, 2, had, g, nn, begun, steps + 1⟩, got, tickF ws ((b + 1 : Nat) : Int) t) := by
        unfold rdStep; simp only [ne_eq, not_true, if_false, if_true, show ((2 : Int) = 1) = False by simp, show ((2 : Int) = 0) = False by simp]
        rw [hS, hD, if_pos hin, hw1, hk, decide_eq_true hkp, if_pos rfl]
      rw [e] at e1 e2
      subst e1 e2
      refine ⟨by simp only; omega, .inr (.inl ⟨rfl, b1, by simp only; omega, by simp only; rw [hb5]; exact b3, by simp only; omega, ?_⟩)⟩
      have hlg := hlr g (by omega)
      refine List.ext_getElem (by simp only [Int.toNat_natCast]; omega) fun i h1 h2 => ?_
      have := has (by decide) hkp i (by omega)
      simp only [Int.toNat_natCast] at this h2 ⊢
      simpa [nth, List.getD_eq_getElem?_getD, List.getElem?_eq_getElem h1, List.getElem?_eq_getElem h2] using this
    · have e : rdStep (spotB b m d) tries ⟨0, 2, had, g, nn, begun, steps⟩ got ws t = (⟨if had + 1 = tries then 2 else 0, 0, had + 1, g, nn, begun, steps + 1⟩, got, tickF ws ((b + 1 : Nat) : Int) t) := by
        unfold rdStep; simp only [ne_eq, not_true, if_false, if_true, show ((2 : Int) = 1) = False by simp, show ((2 : Int) = 0) = False by simp]
        rw [hS, hD, if_pos hin, hw1, hk, decide_eq_false hkp, if_neg (by simp)]
      rw [e] at e1 e2
      subst e1 e2
      have hup : (gnth (nl ++ [N]) 0 : Int) + (had + 1) * ((d : Int) - 1) ≤ N := by
        rw [hz, if_pos h0, Int.add_mul, Int.one_mul]
        omega
      by_cases hsp : had + 1 = tries
      · exact ⟨by simp only; omega, .inr (.inr ⟨by simp only; rw [if_pos hsp], by rw [← hsp]; exact hup⟩)⟩
      · refine ⟨by simp only; omega, .inl ⟨by simp only; rw [if_neg hsp], by simp only; rw [if_neg hsp], by simp; omega, fun h => by simp at h, fun _ => ?_, fun h => by simp at h⟩⟩
        simp only [if_true]
        exact hup
end Go.Proofs.Ytihogagnjikghaa.Bank
