/-
  Law 15: what an operation makes alone, and against others, with no program in sight. By an AI agent.
-/
import Derived.Test.YtkmlikohgilnbaaDoorArbL
namespace Go.Proofs.YtkmlikohgilnbaaDoor.Arb
set_option linter.unusedVariables false
set_option linter.unusedSimpArgs false
open Go Go.RowKit Go.Proofs.YtkmlikohgilnbaaDoor.Base Go.Proofs.YtkmlikohgilnbaaDoor.Reg
open Go.Proofs.YtkmlikohgilnbaaDoor.Bank (BankAt inW wordF setF tickF errF casB errF_in errF_out wordF_in wordF_out tickF_in tickF_out setF_in setF_out casB_out casB_in wordF_range Load_any CAS_any Load_nil New_in Store_any Peek_any Touches_any zeros)
open Go.Proofs.YtkmlikohgilnbaaDoor.Modes (Tab)

theorem un_word {s : St} (h : s.Ok) (h0 : mayE s = 0) : unS (wordI s) = s ∧ unE (wordI s) = 0 := by
  have e := partsOf_word (mayE_zero.1 h0).1 h
  unfold unS unE
  rw [e, if_pos h0, if_pos h0]
  exact ⟨rfl, rfl⟩
theorem in1 (u : Int) : inW [u] 0 := ⟨by decide, by simp⟩
theorem word1 (u : Int) : wordF [u] 0 = u := wordF_in (in1 u)
theorem set1 (u x : Int) : setF [u] 0 x = [x] := setF_in (in1 u)
theorem cas1 (u x : Int) : casB [u] 0 x = (u == x) := casB_in (in1 u)
theorem tick1 (u t : Int) (h : -9223372036854775808 ≤ t ∧ t < 9223372036854775807) : tickF [u] 0 t = t + 1 := by
  rw [tickF_in (in1 u), IntKind.wrap_i64]
  omega
theorem found_word {k : Kd} {s : St} (hs : s.Ok) (h0 : mayE s = 0) (x : AX) : aFound k (wordI s) x = if k.isRead = true ∨ k.E s ≠ 0 then ⟨1, x.swaps, x.word, x.next, s, k.E s, x.left, x.steps⟩ else ⟨x.how, true, wordI s, k.S s, x.st, x.err, x.left, x.steps⟩ := by
  obtain ⟨e1, e2⟩ := un_word hs h0
  unfold aFound
  rw [e1, e2, if_neg (by simp)]
  by_cases hr : k.isRead = true
  · rw [if_pos hr, if_pos (.inl hr)]
    cases k with
    | read => rfl
    | req a => simp [Kd.isRead] at hr
    | tell f => simp [Kd.isRead] at hr
  · rw [if_neg hr]
    by_cases hE : k.E s ≠ 0
    · rw [if_pos hE, if_pos (.inr hE)]
    · rw [if_neg hE, if_neg (by simp [hr, hE])]
/-- the first step, over a right state's word -/
theorem step_word {k : Kd} {s : St} (hs : s.Ok) (h0 : mayE s = 0) {x : AX} (hh : x.how = 0) (hw : x.swaps = false) : aStep k 0 [wordI s] x = (if k.isRead = true ∨ k.E s ≠ 0 then ⟨1, false, x.word, x.next, s, k.E s, x.left, x.steps + 1⟩ else ⟨0, true, wordI s, k.S s, x.st, x.err, x.left, x.steps + 1⟩) ∧ aWs 0 [wordI s] x = [wordI s] := by
  constructor
  · unfold aStep
    rw [if_neg (by simpa using hh), if_pos hw, if_pos (in1 _), word1, found_word hs h0]
    simp only [hh, hw]
  · unfold aWs
    rw [if_neg (by simp [hw])]
/-- the second step, the word as it was -/
theorem step_hit {k : Kd} {u : Int} {x : AX} (hh : x.how = 0) (hw : x.swaps = true) (hu : x.word = u) : aStep k 0 [u] x = ⟨1, false, x.word, x.next, x.next, 0, x.left - 1, x.steps + 1⟩ ∧ aWs 0 [u] x = [wordI x.next] := by
  have hc : casB [u] 0 x.word = true := by rw [cas1, hu]; simp
  unfold aStep aWs
  rw [if_neg (by simpa using hh), if_neg (by simp [hw]), if_neg (by simpa using in1 u), if_pos hc, if_pos ⟨hh, hw, hc⟩, set1]
  exact ⟨rfl, rfl⟩
/-- the second step, the word another one -/
theorem step_miss {k : Kd} {u : Int} {x : AX} (hh : x.how = 0) (hw : x.swaps = true) (hu : u ≠ x.word) : aStep k 0 [u] x = (if x.left = 1 then ⟨2, false, x.word, x.next, St.zero, 20, x.left - 1, x.steps + 1⟩ else ⟨0, false, x.word, x.next, x.st, x.err, x.left - 1, x.steps + 1⟩) ∧ aWs 0 [u] x = [u] := by
  have hc : ¬ casB [u] 0 x.word = true := by rw [cas1]; simpa using hu
  constructor
  · unfold aStep
    rw [if_neg (by simpa using hh), if_neg (by simp [hw]), if_neg (by simpa using in1 u), if_neg hc]
  · unfold aWs
    rw [if_neg (fun h => hc h.2.2)]
theorem at_live {x : AX} {u t : Int} (hh : x.how = 0) (h : -9223372036854775808 ≤ t ∧ t < 9223372036854775807) : aT 0 [u] x t = t + 1 := by
  unfold aT
  rw [if_pos hh, tick1 _ _ h]
theorem alone_stay {k : Kd} {n : Int} {s : St} {t : Int} (hs : s.Ok) (h0 : mayE s = 0) (ht : 0 ≤ t ∧ t < 1000) (h : k.isRead = true ∨ k.E s ≠ 0) :
    aRun k 0 40 (AX.zero n, [wordI s], t) = (⟨1, false, 0, St.zero, s, k.E s, n, 1⟩, [wordI s], t + 1) := by
  have e : aRun k 0 1 (AX.zero n, [wordI s], t) = (⟨1, false, 0, St.zero, s, k.E s, n, 1⟩, [wordI s], t + 1) := by
    show aSt k 0 (AX.zero n, [wordI s], t) = _
    unfold aSt
    have := step_word (k := k) hs h0 (x := AX.zero n) rfl rfl
    simp only
    rw [this.1, this.2, if_pos h, at_live rfl (by omega)]
    rfl
  rw [aRun_still (i := 1) (by rw [e]; simp) 40 (by omega), e]
theorem alone_turn {k : Kd} {n : Int} {s : St} {t : Int} (hs : s.Ok) (h0 : mayE s = 0) (ht : 0 ≤ t ∧ t < 1000) (h : ¬ (k.isRead = true ∨ k.E s ≠ 0)) :
    aRun k 0 40 (AX.zero n, [wordI s], t) = (⟨1, false, wordI s, k.S s, k.S s, 0, n - 1, 2⟩, [wordI (k.S s)], t + 2) := by
  have e : aRun k 0 1 (AX.zero n, [wordI s], t) = (⟨0, true, wordI s, k.S s, St.zero, 0, n, 1⟩, [wordI s], t + 1) := by
    show aSt k 0 (AX.zero n, [wordI s], t) = _
    unfold aSt
    have := step_word (k := k) hs h0 (x := AX.zero n) rfl rfl
    simp only
    rw [this.1, this.2, if_neg h, at_live rfl (by omega)]
    rfl
  have e2 : aRun k 0 2 (AX.zero n, [wordI s], t) = (⟨1, false, wordI s, k.S s, k.S s, 0, n - 1, 2⟩, [wordI (k.S s)], t + 2) := by
    show aSt k 0 (aRun k 0 1 (AX.zero n, [wordI s], t)) = _
    rw [e]
    unfold aSt
    have := step_hit (k := k) (u := wordI s) (x := ⟨0, true, wordI s, k.S s, St.zero, 0, n, 1⟩) rfl rfl rfl
    simp only at this ⊢
    rw [this.1, this.2, at_live rfl (by omega)]
    simp only [Prod.mk.injEq, true_and]
    exact ⟨by simp, by omega⟩
  rw [aRun_still (i := 2) (by rw [e2]; simp) 40 (by omega), e2]
theorem still_step {k : Kd} {at_ : Int} {ws : List Int} {t : Int} {x : AX} (h : x.how ≠ 0) : aStep k at_ ws x = x ∧ aWs at_ ws x = ws ∧ aT at_ ws x t = t := by
  unfold aStep aWs aT
  rw [if_pos h, if_neg (fun q => h q.1), if_neg h]
  exact ⟨rfl, rfl, rfl⟩
/-- a telling of health over a state of few epochs -/
theorem tell_S {f fl e : Int} (hf : 0 ≤ f ∧ f ≤ 63) (hl : 0 ≤ fl ∧ fl ≤ 63) (he : 0 ≤ e ∧ e < 1000) : St.Ok ⟨0, 0, false, fl, e⟩ ∧ mayE ⟨0, 0, false, fl, e⟩ = 0 ∧ (Kd.tell f).E ⟨0, 0, false, fl, e⟩ = 0 ∧ (Kd.tell f).S ⟨0, 0, false, fl, e⟩ = ⟨0, 0, false, f, e + 1⟩ ∧ ¬ ((Kd.tell f).isRead = true ∨ (Kd.tell f).E ⟨0, 0, false, fl, e⟩ ≠ 0) := by
  have h1 : mayE ⟨0, 0, false, fl, e⟩ = 0 := mayE_zero.2 ⟨⟨by simp, by simp, hl, by simp; omega⟩, by unfold St.Held; simp⟩
  have h2 : healthE ⟨0, 0, false, fl, e⟩ f = 0 := by
    unfold healthE lastE
    rw [if_neg (by simpa using h1), if_neg (by simpa using hf), if_neg (by simp; omega)]
  refine ⟨⟨by simp, by simp, by simp; omega, by simp; omega⟩, h1, h2, ?_, ?_⟩
  · show healthS _ f = _
    unfold healthS
    rw [if_pos h2]
  · show ¬ (false = true ∨ healthE _ f ≠ 0)
    rw [h2]
    simp
theorem At_done (o b : Nat) (k : Kd) (at_ : Int) (x : AX) (w : World) (h : ArbAt w o b k at_ x) (hh : x.how = 1) :
    Calls Tryd.prog 15 #[.pointer (some ⟨o, 0, none⟩)] w fun e w' => e = .returned (.int .i64 x.steps) ∧ w = w' := by
  have := At_any o b k at_ x w h
  rw [if_pos hh] at this
  exact this
theorem At_not (o b : Nat) (k : Kd) (at_ : Int) (x : AX) (w : World) (h : ArbAt w o b k at_ x) (hh : x.how ≠ 1) :
    Calls Tryd.prog 15 #[.pointer (some ⟨o, 0, none⟩)] w fun e w' => e = .returned (.int .i64 0) ∧ w = w' := by
  have := At_any o b k at_ x w h
  rw [if_neg hh] at this
  exact this
end Go.Proofs.YtkmlikohgilnbaaDoor.Arb
