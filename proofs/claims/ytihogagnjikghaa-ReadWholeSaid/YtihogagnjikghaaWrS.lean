/-
  A publishing's step: what it does to the bank's words, and how the publishing stands behind it. Conditions stand at each. By an AI agent.
-/
import Derived.Test.YtihogagnjikghaaWrN
namespace Go.Proofs.Ytihogagnjikghaa.Bank
set_option linter.unusedVariables false
set_option linter.unusedSimpArgs false
open Go Go.RowKit Go.Proofs.Ytihogagnjikghaa.Base

/-- a try that failed, and that step -/
def WS.again (tries : Int) (x : WS) : WS := ⟨if x.had + 1 = tries then 2 else x.how, 0, x.had + 1, x.steps + 1, x.sq, x.n⟩
structure WInv (s : Spot) (rec : List Int) (tries : Int) (x : WS) : Prop where
  right : s.Right
  tr : 1 ≤ tries ∧ tries ≤ 16
  len : (rec.length : Int) = s.words
  next : x.next = 0 ∨ x.next = 1 ∨ x.next = 2 ∨ x.next = 3
  how : x.how = 0 ∨ x.how = 1 ∨ x.how = 2 ∨ x.how = 3
  had : 0 ≤ x.had ∧ (x.how = 0 → x.had < tries)
  sq : 0 ≤ x.sq ∧ x.sq ≤ 18446744073709551615
  n : 0 ≤ x.n ∧ (x.how = 0 → x.next = 2 → x.n < s.words)
  zero : x.how = 0 → x.next < 2 → x.n = 0
  steps : 0 ≤ x.steps ∧ (x.how = 0 → x.next < 2 → x.steps ≤ 2 * x.had + x.next) ∧ (x.how = 0 → x.next = 2 → x.steps ≤ 2 * x.had + 2 + x.n) ∧ (x.how = 0 → x.next = 3 → x.steps ≤ 2 * x.had + 2 + s.words) ∧ x.steps ≤ 2 * tries + s.words + 1
  fit : ∀ y ∈ rec, 0 ≤ y ∧ y ≤ 18446744073709551615

theorem wordF_range {w : World} {g h : Nat} {ws : List Int} {t : Int} (b : BankAt w g h ws t) (i : Int) : 0 ≤ wordF ws i ∧ wordF ws i ≤ 18446744073709551615 := by
  unfold wordF
  split
  · exact b.range _
  · omega
theorem WInv.wst {s : Spot} {rec : List Int} {tries a b c d e f : Int} (h : WInv s rec tries ⟨a, b, c, d, e, f⟩) : wrap64 (d + 1) = d + 1 := by
  have h1 := h.steps
  have h2 := h.tr
  have h3 := h.right.1
  simp only at h1
  exact wrap64_in _ (by omega)
theorem WInv.wn {s : Spot} {rec : List Int} {tries c d e f : Int} (h : WInv s rec tries ⟨0, 2, c, d, e, f⟩) : wrap64 (f + 1) = f + 1 := by
  have h1 := h.n
  have h3 := h.right.1
  simp only at h1
  have := h1.2 trivial trivial
  exact wrap64_in _ (by omega)
theorem WInv.gen {s : Spot} {rec : List Int} {tries a b c d e f : Int} (h : WInv s rec tries ⟨a, b, c, d, e, f⟩) : IntKind.u64.wrap (e / 2 + 1) = e / 2 + 1 := by
  have h1 := h.sq
  simp only at h1
  exact u64_wrap_in (by omega)
theorem WInv.place {s : Spot} {rec : List Int} {tries c d e f : Int} (h : WInv s rec tries ⟨0, 2, c, d, e, f⟩) : wrap64 (atF s (IntKind.u64.wrap (e / 2 + 1)) + f) = atF s (IntKind.u64.wrap (e / 2 + 1)) + f := by
  have h1 := h.n
  have h3 := h.right.1
  have h4 := h.right.2.2.2.2
  simp only at h1
  have := h1.2 trivial trivial
  have h5 := atF_bounds (s := s) (gen := IntKind.u64.wrap (e / 2 + 1)) h.right.atOk
  rw [atF_ok h.right.atOk]
  exact wrap64_in _ (by omega)
theorem BankAt.ex {T : Nat → Prop} {w w' : World} {g h : Nat} {ws : List Int} {t : Int} (b : BankAt w g h ws t) (p : Ex T w w') (hg : ¬ T g) (hh : ¬ T h) : BankAt w' g h ws t := ⟨b.head.ex p hg, b.row.ex p hh, b.len, b.fit⟩
def WS.again0 (tries : Int) (x : WS) : WS := ⟨if x.had + 1 = tries then 2 else x.how, 0, x.had + 1, x.steps, x.sq, x.n⟩
/-- (*run).again: what it leaves -/
theorem again_any (o : Nat) (s : Spot) (tries : Int) (r n cc : Nat) (x : WS) (w : World) (hb : Blk w o 99 (opCs s tries r n cc x)) (hl : 0 ≤ x.had ∧ x.had < tries ∧ tries ≤ 16) :
    Calls Try.prog 47 #[.pointer (some ⟨o, 0, none⟩)] w fun e w' => e = .returned (.tuple #[]) ∧ Blk w' o 99 (opCs s tries r n cc (x.again0 tries)) ∧ Ex (fun k => k = o) w w' := by
  have f0 := hb.frozen 0
  have f1 := hb.frozen 1
  have f2 := hb.frozen 2
  have c0 := hb.cell 0
  have c1 := hb.cell 1
  have c2 := hb.cell 2
  have e1 := hb.set_ 1 (.int .i64 0)
  have e2 := e1.set_ 2 (.int .i64 (tries - x.had - 1))
  have e3 := e2.set_ 0 (.int .i64 2)
  have x1 := (((Ex.refl (fun k => k = o) w).setCell (q := ⟨o, 1, none⟩) (.inl rfl) (.int .i64 0)).setCell (q := ⟨o, 2, none⟩) (.inl rfl) (.int .i64 (tries - x.had - 1)))
  have x2 := x1.setCell (q := ⟨o, 0, none⟩) (.inl rfl) (.int .i64 2)
  obtain ⟨how, next, had, steps, sq, nn⟩ := x
  unfold opCs at c0 c1 c2 e1 e2 e3
  simp only [List.getElem?_toArray, List.getElem?_cons_succ, List.getElem?_cons_zero] at c0 c1 c2
  simp only [List.setIfInBounds_toArray, List.set_cons_succ, List.set_cons_zero] at e1 e2 e3
  simp only at x1 x2 hl
  have hw : wrap64 (tries - had - 1) = tries - had - 1 := wrap64_in _ (by omega)
  have he : tries - had - 1 = tries - (had + 1) := by omega
  have E2 := Lib.hid e2
  have E3 := Lib.hid e3
  have X1 := Lib.hid x1
  have X2 := Lib.hid x2
  have HE := Lib.hid he
  clear e1 e2 e3 x1 x2 hb he
  unfold WS.again0 opCs
  simp only
  rw [← HE.out]
  by_cases hd : tries - had - 1 = 0
  · have hd1 : (tries - had - 1 == 0) = true := by simpa using hd
    have hd2 : had + 1 = tries := by omega
    rw [if_pos hd2]
    clear hd hd2
    go_enter Try.func47, Try.ntmps47
    go_wp2_with fail
    go_end0
    exact ⟨rfl, E3.out, X2.out⟩
  · have hd1 : (tries - had - 1 == 0) = false := by simpa using hd
    have hd2 : ¬ had + 1 = tries := by omega
    rw [if_neg hd2]
    clear hd hd2
    go_enter Try.func47, Try.ntmps47
    go_wp2_with fail
    go_end0
    exact ⟨rfl, E2.out, X1.out⟩
end Go.Proofs.Ytihogagnjikghaa.Bank
