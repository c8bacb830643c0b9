/-
  Law 10: what a snapshot tells: At, Steps; Got where it is not done. Conditions stand at each. By an AI agent.
-/
import Derived.Test.YtjdalllfnlpmnaaSnP
namespace Go.Proofs.Ytjdalllfnlpmnaa.Bank
set_option linter.unusedVariables false
set_option linter.unusedSimpArgs false
open Go Go.RowKit Go.Proofs.Ytjdalllfnlpmnaa.Base
theorem SnAt_none (w : World) : Calls Try.prog 21 #[.pointer none] w fun e w' => e = .returned (.int .i64 0) ∧ w = w' := by
  go_enter Try.func21, Try.ntmps21
  go_wp2_with fail
  go_ret
  exact ⟨rfl, rfl⟩
theorem SnSteps_none (w : World) : Calls Try.prog 18 #[.pointer none] w fun e w' => e = .returned (.int .i64 0) ∧ w = w' := by
  go_enter Try.func18, Try.ntmps18
  go_wp2_with fail
  go_ret
  exact ⟨rfl, rfl⟩
theorem SnGot_none (w : World) : Calls Try.prog 19 #[.pointer none] w fun e w' => e = .returned (.tuple #[.slice none 0 0, .slice none 0 0]) ∧ w = w' := by
  go_enter Try.func19, Try.ntmps19
  go_wp2_with fail
  go_ret2
  exact ⟨rfl, rfl⟩
theorem SnSteps_any (o rs cs rg rw n m : Nat) (l : Nat → Spot) (tries kk begun steps how : Int) (gl wl : List Int) (w : World) (ho : SnAt w o rs cs rg rw n m l tries kk begun steps how gl wl) : Calls Try.prog 18 #[.pointer (some ⟨o, 0, none⟩)] w fun e w' => e = .returned (.int .i64 steps) ∧ w = w' := by
  have q0 := ho.box.cell 0
  have q6 := ho.box.cell 6
  simp only [List.getElem?_toArray, List.getElem?_cons_succ, List.getElem?_cons_zero] at q0 q6
  clear ho
  go_enter Try.func18, Try.ntmps18
  go_wp2_with fail
  go_ret
  exact ⟨rfl, rfl⟩
theorem SnAt_any (o rs cs rg rw n m : Nat) (l : Nat → Spot) (tries kk begun steps how : Int) (gl wl : List Int) (w : World) (ho : SnAt w o rs cs rg rw n m l tries kk begun steps how gl wl) : Calls Try.prog 21 #[.pointer (some ⟨o, 0, none⟩)] w fun e w' => e = .returned (.int .i64 (if how = 1 then begun else 0)) ∧ w = w' := by
  have q0 := ho.box.cell 0
  have q5 := ho.box.cell 5
  have q7 := ho.box.cell 7
  simp only [List.getElem?_toArray, List.getElem?_cons_succ, List.getElem?_cons_zero] at q0 q5 q7
  clear ho
  by_cases h : how = 1
  · rw [if_pos h]
    have kh : (how != 1) = false := by simpa using h
    clear h
    go_enter Try.func21, Try.ntmps21
    go_wp2_with fail
    go_ret
    exact ⟨rfl, rfl⟩
  · rw [if_neg h]
    have kh : (how != 1) = true := by simpa using h
    clear h
    go_enter Try.func21, Try.ntmps21
    go_wp2_with fail
    go_ret
    exact ⟨rfl, rfl⟩
theorem SnGot_not (o rs cs rg rw n m : Nat) (l : Nat → Spot) (tries kk begun steps how : Int) (gl wl : List Int) (w : World) (ho : SnAt w o rs cs rg rw n m l tries kk begun steps how gl wl) (h : how ≠ 1) : Calls Try.prog 19 #[.pointer (some ⟨o, 0, none⟩)] w fun e w' => e = .returned (.tuple #[.slice none 0 0, .slice none 0 0]) ∧ w = w' := by
  have q0 := ho.box.cell 0
  have q7 := ho.box.cell 7
  simp only [List.getElem?_toArray, List.getElem?_cons_succ, List.getElem?_cons_zero] at q0 q7
  clear ho
  have kh : (how != 1) = true := by simpa using h
  clear h
  go_enter Try.func19, Try.ntmps19
  go_wp2_with fail
  go_ret2
  exact ⟨rfl, rfl⟩
end Go.Proofs.Ytjdalllfnlpmnaa.Bank
