/-
  A publishing's step, whole: the plain function, that the code computes it, and what it keeps; what is told of it. Conditions stand at each. By an AI agent.
-/
import Derived.Test.YtihogagnjikghaaWrT
import Derived.Test.YtihogagnjikghaaWrU
namespace Go.Proofs.Ytihogagnjikghaa.Bank
set_option linter.unusedVariables false
set_option linter.unusedSimpArgs false
open Go Go.RowKit Go.Proofs.Ytihogagnjikghaa.Base

/-- where the next word of the record goes -/
def placeF (s : Spot) (sq n : Int) : Int := atF s (IntKind.u64.wrap (sq / 2 + 1)) + n
/-- what a step makes of the publishing, the words, and how many accesses there were -/
def wStep (s : Spot) (rec : List Int) (tries : Int) (x : WS) (ws : List Int) (t : Int) : WS × List Int × Int :=
  if x.how ≠ 0 then (x, ws, t)
  else if x.next = 0 then
    if inW ws s.seq then
      if wordF ws s.seq % 2 = 0 then (⟨0, 1, x.had, x.steps + 1, wordF ws s.seq, x.n⟩, ws, tickF ws s.seq t)
      else (WS.again tries ⟨0, 0, x.had, x.steps, wordF ws s.seq, x.n⟩, ws, tickF ws s.seq t)
    else (⟨3, 0, x.had, x.steps, 0, x.n⟩, ws, tickF ws s.seq t)
  else if x.next = 1 then
    if inW ws s.seq then
      if casB ws s.seq x.sq = true then (⟨0, 2, x.had, x.steps + 1, x.sq, x.n⟩, setF ws s.seq (IntKind.u64.wrap (x.sq + 1)), tickF ws s.seq t)
      else (WS.again tries ⟨0, 1, x.had, x.steps, x.sq, x.n⟩, ws, tickF ws s.seq t)
    else (⟨3, 1, x.had, x.steps, x.sq, x.n⟩, ws, tickF ws s.seq t)
  else if x.next = 2 then
    if inW ws (placeF s x.sq x.n) then
      (⟨0, if x.n + 1 = (rec.length : Int) then 3 else 2, x.had, x.steps + 1, x.sq, x.n + 1⟩, setF ws (placeF s x.sq x.n) (nth rec x.n.toNat), tickF ws (placeF s x.sq x.n) t)
    else (⟨3, 2, x.had, x.steps, x.sq, x.n⟩, ws, tickF ws (placeF s x.sq x.n) t)
  else
    if inW ws s.seq then (⟨1, 3, x.had, x.steps + 1, x.sq, x.n⟩, setF ws s.seq (IntKind.u64.wrap (x.sq + 2)), tickF ws s.seq t)
    else (⟨3, 3, x.had, x.steps, x.sq, x.n⟩, ws, tickF ws s.seq t)

set_option maxRecDepth 100000 in
theorem S_done (g h o r cc : Nat) (ws : List Int) (t : Int) (s : Spot) (rec : List Int) (tries : Int) (x : WS) (v : Value) (w : World) (ho : OpAt w o r cc s rec tries x) (hh : x.how ≠ 0) :
    Calls Try.prog 24 #[.pointer (some ⟨o, 0, none⟩), v] w fun e w' => e = .returned (.int .i64 x.how) ∧ w = w' := by
  have q0 := ho.head.cell 0
  simp only [opCs, List.getElem?_toArray, List.getElem?_cons_succ, List.getElem?_cons_zero] at q0
  have hd : (x.how != 0) = true := by simpa using hh
  clear ho hh
  go_enter Try.func24, Try.ntmps24
  go_wp2_with fail
  refine wp_scope_ahead 2 (fun c0 HC => ?_)
  go_wp2_with fail
  first | rw [goOn_ret] | skip
  go_ret
  exact ⟨rfl, rfl⟩
set_option maxRecDepth 100000 in
theorem S_none (v : Value) (w : World) :
    Calls Try.prog 24 #[.pointer none, v] w fun e w' => e = .returned (.int .i64 3) ∧ w = w' := by
  go_enter Try.func24, Try.ntmps24
  go_wp2_with fail
  refine wp_scope_ahead 2 (fun c0 HC => ?_)
  go_wp2_with fail
  first | rw [goOn_ret] | skip
  go_ret
  exact ⟨rfl, rfl⟩

theorem WStep_any (g h o r cc : Nat) (ws : List Int) (t : Int) (s : Spot) (rec : List Int) (tries : Int) (x : WS) (w : World) (hb : BankAt w g h ws t) (ho : OpAt w o r cc s rec tries x) (hi : WInv s rec tries x)
    (ne : o ≠ g ∧ o ≠ h ∧ r ≠ g ∧ r ≠ h) :
    Calls Try.prog 24 #[.pointer (some ⟨o, 0, none⟩), .pointer (some ⟨g, 0, none⟩)] w fun e w' => e = .returned (.int .i64 (wStep s rec tries x ws t).1.how) ∧ BankAt w' g h (wStep s rec tries x ws t).2.1 (wStep s rec tries x ws t).2.2 ∧ OpAt w' o r cc s rec tries (wStep s rec tries x ws t).1 ∧ Ex (fun k => k = g ∨ k = h ∨ k = o) w w' := by
  by_cases hh : x.how = 0
  · have hnx := hi.next
    obtain ⟨how, next, had, steps, sq, nn⟩ := x
    simp only at hh hnx
    subst hh
    rcases hnx with rfl | rfl | rfl | rfl
    · by_cases hin : inW ws s.seq
      · by_cases hv : wordF ws s.seq % 2 = 0
        · have := S_look_even g h o r cc ws t s rec tries had steps sq nn w hb ho hi ne hin hv
          simpa [wStep, hin, hv] using this
        · have hv1 : wordF ws s.seq % 2 = 1 := by omega
          have := S_look_odd g h o r cc ws t s rec tries had steps sq nn w hb ho hi ne hin hv1
          simpa [wStep, hin, hv] using this
      · have := S_look_out g h o r cc ws t s rec tries had steps sq nn w hb ho hi ne hin
        simpa [wStep, hin] using this
    · by_cases hin : inW ws s.seq
      · cases hv : casB ws s.seq sq with
        | true =>
          have := S_take_hit g h o r cc ws t s rec tries had steps sq nn w hb ho hi ne hin hv
          simpa [wStep, hin, hv] using this
        | false =>
          have := S_take_miss g h o r cc ws t s rec tries had steps sq nn w hb ho hi ne hin hv
          simpa [wStep, hin, hv] using this
      · have := S_take_out g h o r cc ws t s rec tries had steps sq nn w hb ho hi ne hin
        simpa [wStep, hin] using this
    · by_cases hin : inW ws (placeF s sq nn)
      · by_cases hv : nn + 1 = (rec.length : Int)
        · have := S_fill_last g h o r cc ws t s rec tries had steps sq nn w hb ho hi ne hin hv
          rw [show wStep s rec tries ⟨0, 2, had, steps, sq, nn⟩ ws t = (⟨0, 3, had, steps + 1, sq, nn + 1⟩, setF ws (placeF s sq nn) (nth rec nn.toNat), tickF ws (placeF s sq nn) t) from by simp [wStep, hin, hv]]
          exact this
        · have := S_fill_more g h o r cc ws t s rec tries had steps sq nn w hb ho hi ne hin hv
          rw [show wStep s rec tries ⟨0, 2, had, steps, sq, nn⟩ ws t = (⟨0, 2, had, steps + 1, sq, nn + 1⟩, setF ws (placeF s sq nn) (nth rec nn.toNat), tickF ws (placeF s sq nn) t) from by simp [wStep, hin, hv]]
          exact this
      · have := S_fill_out g h o r cc ws t s rec tries had steps sq nn w hb ho hi ne hin
        rw [show wStep s rec tries ⟨0, 2, had, steps, sq, nn⟩ ws t = (⟨3, 2, had, steps, sq, nn⟩, ws, tickF ws (placeF s sq nn) t) from by simp [wStep, hin]]
        exact this
    · by_cases hin : inW ws s.seq
      · have := S_give g h o r cc ws t s rec tries had steps sq nn w hb ho hi ne hin
        simpa [wStep, hin] using this
      · have := S_give_out g h o r cc ws t s rec tries had steps sq nn w hb ho hi ne hin
        simpa [wStep, hin] using this
  · have e : wStep s rec tries x ws t = (x, ws, t) := by unfold wStep; rw [if_pos hh]
    rw [e]
    exact (S_done g h o r cc ws t s rec tries x _ w ho hh).mono fun _ _ ⟨he, hw⟩ => ⟨he, hw ▸ hb, hw ▸ ho, hw ▸ Ex.refl _ w⟩

theorem setF_len (ws : List Int) (a x : Int) : (setF ws a x).length = ws.length := by unfold setF; split <;> simp
/-- what a step keeps -/
theorem WInv.step {s : Spot} {rec : List Int} {tries : Int} {x : WS} (ws : List Int) (t : Int) (hf : ∀ y ∈ ws, 0 ≤ y ∧ y ≤ 18446744073709551615) (h : WInv s rec tries x) : WInv s rec tries (wStep s rec tries x ws t).1 := by
  have hw : ∀ i, 0 ≤ wordF ws i ∧ wordF ws i ≤ 18446744073709551615 := fun i => by
    unfold wordF
    split
    · rename_i hi
      exact hf _ (nth_mem (by have := hi.1; have := hi.2; omega))
    · omega
  obtain ⟨right, tr, len, next, how, had, sq, n, zero, steps, fit⟩ := h
  obtain ⟨xhow, xnext, xhad, xsteps, xsq, xn⟩ := x
  simp only at *
  have hr := right.1
  have hws := hw s.seq
  unfold wStep
  simp only
  split
  · exact ⟨right, tr, len, next, how, had, sq, n, zero, steps, fit⟩
  · rename_i h0
    have h0' : xhow = 0 := by omega
    subst h0'
    clear h0 how
    simp only [true_implies, forall_const] at had n zero steps
    split
    · rename_i h1
      subst h1
      clear next
      split
      · split
        · refine ⟨right, tr, len, ?_, ?_, ?_, ?_, ?_, ?_, ?_, fit⟩ <;> simp only <;> repeat' (first | omega | (simp; done) | refine And.intro ?_ ?_ | intro _)
        · unfold WS.again
          simp only
          split <;> refine ⟨right, tr, len, ?_, ?_, ?_, ?_, ?_, ?_, ?_, fit⟩ <;> simp only <;> repeat' (first | omega | (simp; done) | refine And.intro ?_ ?_ | intro _)
      · refine ⟨right, tr, len, ?_, ?_, ?_, ?_, ?_, ?_, ?_, fit⟩ <;> simp only <;> repeat' (first | omega | (simp; done) | refine And.intro ?_ ?_ | intro _)
    · split
      · rename_i h2 h1
        subst h1
        clear next
        split
        · split
          · refine ⟨right, tr, len, ?_, ?_, ?_, ?_, ?_, ?_, ?_, fit⟩ <;> simp only <;> repeat' (first | omega | (simp; done) | refine And.intro ?_ ?_ | intro _)
          · unfold WS.again
            simp only
            split <;> refine ⟨right, tr, len, ?_, ?_, ?_, ?_, ?_, ?_, ?_, fit⟩ <;> simp only <;> repeat' (first | omega | (simp; done) | refine And.intro ?_ ?_ | intro _)
        · refine ⟨right, tr, len, ?_, ?_, ?_, ?_, ?_, ?_, ?_, fit⟩ <;> simp only <;> repeat' (first | omega | (simp; done) | refine And.intro ?_ ?_ | intro _)
      · split
        · rename_i h3 h2 h1
          subst h1
          clear next
          split
          · split <;> refine ⟨right, tr, len, ?_, ?_, ?_, ?_, ?_, ?_, ?_, fit⟩ <;> simp only <;> repeat' (first | omega | (simp; done) | refine And.intro ?_ ?_ | intro _)
          · refine ⟨right, tr, len, ?_, ?_, ?_, ?_, ?_, ?_, ?_, fit⟩ <;> simp only <;> repeat' (first | omega | (simp; done) | refine And.intro ?_ ?_ | intro _)
        · split <;> refine ⟨right, tr, len, ?_, ?_, ?_, ?_, ?_, ?_, ?_, fit⟩ <;> simp only <;> repeat' (first | omega | (simp; done) | refine And.intro ?_ ?_ | intro _)
theorem WInv.zero_ {s : Spot} {rec : List Int} {tries : Int} (hm : mayF s tries = true) (hl : (rec.length : Int) = s.words) (hf : ∀ y ∈ rec, 0 ≤ y ∧ y ≤ 18446744073709551615) : WInv s rec tries WS.zero := by
  have h : s.Right ∧ 1 ≤ tries ∧ tries ≤ 16 := of_decide_eq_true hm
  have := h.1.1
  refine ⟨h.1, h.2, hl, ?_, ?_, ?_, ?_, ?_, ?_, ?_, hf⟩ <;> simp only [WS.zero] <;> repeat' (first | omega | (simp; done) | refine And.intro ?_ ?_ | intro _)
/-- the generation that was published -/
def WS.gen (x : WS) : Int := if x.how = 1 then IntKind.u64.wrap (x.sq / 2 + 1) else 0
theorem WGen_any (o r cc : Nat) (s : Spot) (rec : List Int) (tries : Int) (x : WS) (w : World) (ho : OpAt w o r cc s rec tries x) :
    Calls Try.prog 25 #[.pointer (some ⟨o, 0, none⟩)] w fun e w' => e = .returned (.int .u64 x.gen) ∧ w = w' := by
  have q0 := ho.head.cell 0
  have q10 := ho.head.cell 10
  simp only [opCs, List.getElem?_toArray, List.getElem?_cons_succ, List.getElem?_cons_zero] at q0 q10
  unfold WS.gen
  by_cases hh : x.how = 1
  · have hd : (x.how != 1) = false := by simpa using hh
    rw [if_pos hh]
    clear ho hh
    go_enter Try.func25, Try.ntmps25
    go_wp2_with fail
    refine (Gen_any _ _).mono ?_; rintro e w2 ⟨rfl, rfl⟩
    go_wp2_with fail
    go_ret
    exact ⟨rfl, rfl⟩
  · have hd : (x.how != 1) = true := by simpa using hh
    rw [if_neg hh]
    clear ho hh
    go_enter Try.func25, Try.ntmps25
    go_wp2_with fail
    go_ret
    exact ⟨rfl, rfl⟩
theorem WGen_none (w : World) : Calls Try.prog 25 #[.pointer none] w fun e w' => e = .returned (.int .u64 0) ∧ w = w' := by
  go_enter Try.func25, Try.ntmps25
  go_wp2_with fail
  go_ret
  exact ⟨rfl, rfl⟩
end Go.Proofs.Ytihogagnjikghaa.Bank
