/-
  Reg: a path that grows; which state may not come behind which. Condition: the table of ways lies in block 0. By an AI agent.
-/
import Derived.Test.YtjnhmoafljfnkaaDoorRegA
import Derived.Test.YtjnhmoafljfnkaaDoorForW
import Derived.Test.YtjnhmoafljfnkaaDoorPath14
namespace Go.Proofs.YtjnhmoafljfnkaaDoor.Reg
set_option linter.unusedVariables false
set_option linter.unusedSimpArgs false
open Go Go.RowKit Go.Proofs.YtjnhmoafljfnkaaDoor.Base Go.Proofs.YtjnhmoafljfnkaaDoor.Modes Go.Deep

structure PathOK (l : List Int) (m : Int) : Prop where
  ne : l ≠ []
  last : nth l (l.length - 1) = m
  good : ∀ j, j < l.length → badAt l j = false
theorem nth_app {l : List Int} {x : Int} {j : Nat} (h : j < l.length) : nth (l ++ [x]) j = nth l j := by
  unfold nth
  simp [List.getD_eq_getElem?_getD, List.getElem?_append_left h]
theorem nth_app_last {l : List Int} {x : Int} : nth (l ++ [x]) l.length = x := by
  unfold nth
  simp [List.getD_eq_getElem?_getD]
theorem PathOK.one : PathOK [0] 0 := ⟨by simp, rfl, fun j hj => by
  have : j = 0 := by simpa using hj
  subst this; rfl⟩
theorem PathOK.snoc {l : List Int} {m x : Int} (h : PathOK l m) (hw : wayB m x = true) : PathOK (l ++ [x]) x := by
  have hpos : 0 < l.length := List.length_pos_iff.2 h.ne
  refine ⟨by simp, ?_, fun j hj => ?_⟩
  · simp only [List.length_append, List.length_singleton, Nat.add_sub_cancel]
    exact nth_app_last
  · simp only [List.length_append, List.length_singleton] at hj
    by_cases hjl : j < l.length
    · have := h.good j hjl
      unfold badAt at this ⊢
      by_cases h0 : j = 0
      · rw [if_pos h0] at this ⊢; rw [nth_app (by omega)]; exact this
      · rw [if_neg h0] at this ⊢; rw [nth_app (by omega), nth_app hjl]; exact this
    · obtain rfl : j = l.length := by omega
      unfold badAt
      rw [if_neg (by omega), nth_app (by omega), nth_app_last, h.last, hw]
      rfl
theorem FolRes.is_true {s t : St} {e : Ending} (h : Fol s t) (hr : FolRes s t e) : e = .returned (.bool true) := by
  obtain ⟨b, rfl, hb⟩ := hr
  rw [hb.2 h]
theorem FolRes.is_false {s t : St} {e : Ending} (h : ¬ Fol s t) (hr : FolRes s t e) : e = .returned (.bool false) := by
  obtain ⟨b, rfl, hb⟩ := hr
  cases b with
  | false => rfl
  | true => exact absurd (hb.1 rfl) h
theorem fol_back {s t : St} (h : t.epoch = s.epoch + 1) : ¬ Fol t s := by
  rintro (⟨h1, h2⟩ | ⟨k, b, _, h1, h2⟩)
  · unfold healthS at h2
    rw [if_pos h1] at h2
    have := congrArg St.epoch h2
    simp only at this
    omega
  · have h3 : decideS t ⟨k, s.mode, b⟩ = nextS t ⟨k, s.mode, b⟩ := by unfold decideS; rw [if_pos h1]
    rw [h3] at h2
    have := congrArg St.epoch h2
    unfold nextS at this
    split at this
    · simp only at this; omega
    · split at this <;> (simp only at this; omega)
theorem next_form (s : St) (a : Ask) : ∃ (nso : Int) (nho : Bool), nextS s a = ⟨a.mode, nso, nho, s.flags, s.epoch + 1⟩ := by
  unfold nextS
  split
  · rename_i h; exact ⟨3, true, by rw [h.2]⟩
  · split
    · exact ⟨_, _, rfl⟩
    · exact ⟨_, _, rfl⟩
theorem decide_way {s : St} {a : Ask} (h : decideE s a = 0) : wayB s.mode a.mode = true ∧ guardB s a = true := by
  unfold decideE at h
  split at h
  · cases h
  · split at h
    · cases h
    · split at h
      · cases h
      · split at h
        · cases h
        · split at h
          · cases h
          · split at h
            · cases h
            · rename_i h1 h2
              exact ⟨by simpa using h1, by simpa using h2⟩
end Go.Proofs.YtjnhmoafljfnkaaDoor.Reg
