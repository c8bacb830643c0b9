/-
  Law 6: config.Name tells what a name is. Conditions stand at each. By an AI agent.
-/
import Derived.Test.YtgdfhgoenemanaaDoorPlA
namespace Go.Proofs.YtgdfhgoenemanaaDoor.Plan
set_option linter.unusedVariables false
set_option linter.unusedSimpArgs false
open Go Go.RowKit Go.Proofs.YtgdfhgoenemanaaDoor.Base
theorem cut_byte (b : UInt8) : cutL.contains b = (letterN b.toNat || digitN b.toNat) := by
  have h : ∀ n, n < 256 → cutL.contains (UInt8.ofNat n) = (letterN (UInt8.ofNat n).toNat || digitN (UInt8.ofNat n).toNat) := by decide +kernel
  have h2 := h b.toNat b.toNat_lt
  rw [UInt8.ofNat_toNat] at h2
  exact h2
theorem drop_nil_iff {α : Type} (p : α → Bool) (l : List α) : l.dropWhile p = [] ↔ ∀ x ∈ l, p x = true := by
  induction l with
  | nil => simp
  | cons a l ih =>
    rw [List.dropWhile_cons]
    cases h : p a
    · simp [h]
    · simp [h, ih]
theorem drop_head {α : Type} (p : α → Bool) (l : List α) : ∀ x r, l.dropWhile p = x :: r → p x = false ∧ x ∈ l := by
  induction l with
  | nil => intro x r h; simp at h
  | cons a l ih =>
    intro x r h
    rw [List.dropWhile_cons] at h
    cases ha : p a
    · rw [ha] at h
      simp at h
      obtain ⟨rfl, _⟩ := h
      exact ⟨ha, by simp⟩
    · rw [ha] at h
      simp at h
      obtain ⟨h1, h2⟩ := ih x r h
      exact ⟨h1, by simp [h2]⟩
theorem trim_nil_iff (l cs : List UInt8) : Lib.trimS l cs = [] ↔ ∀ x ∈ l, cs.contains x = true := by
  unfold Lib.trimS Lib.trimLeftS Lib.trimRightS
  rw [drop_nil_iff]
  constructor
  · intro h
    have h2 : l.reverse.dropWhile (cs.contains ·) = [] := by
      cases hd : l.reverse.dropWhile (cs.contains ·) with
      | nil => rfl
      | cons x r =>
        obtain ⟨h3, _⟩ := drop_head _ _ _ _ hd
        have := h x (by rw [hd]; simp)
        rw [h3] at this
        cases this
    rw [drop_nil_iff] at h2
    exact fun x hx => h2 x (by simpa using hx)
  · intro h x hx
    have := List.dropWhile_sublist (l := l.reverse) (cs.contains ·)
    exact h x (by have h4 := this.subset (List.mem_reverse.1 hx); simpa using h4)
/-- a name, by its first byte and by what is left of it when letters and digits are cut off at both ends -/
theorem nameB_trim {s : ByteArray} (h1 : 1 ≤ s.size) (h2 : s.size ≤ 16) (h3 : letterN (byteN s 0) = true) : nameB s = (Lib.trimS s.data.toList cutL).isEmpty := by
  have hl : s.data.toList.length = s.size := by simp
  rw [Bool.eq_iff_iff, List.isEmpty_iff, trim_nil_iff]
  unfold nameB
  rw [decide_eq_true ⟨h1, h2⟩, Bool.true_and, List.all_eq_true]
  constructor
  · intro h x hx
    obtain ⟨i, hi, rfl⟩ := List.mem_iff_getElem.1 hx
    have h4 := h i (List.mem_range.2 (by omega))
    rw [cut_byte]
    unfold okAt byteN at h4
    rw [List.getD_eq_getElem?_getD, List.getElem?_eq_getElem hi] at h4
    simp only [Option.getD_some] at h4
    cases hq : letterN (s.data.toList[i]).toNat
    · rw [hq] at h4
      simp at h4
      simp [h4.1]
    · simp
  · intro h i hi
    have hi := List.mem_range.1 hi
    have h4 := h (s.data.toList[i]'(by omega)) (List.getElem_mem _)
    rw [cut_byte] at h4
    by_cases e : i = 0
    · subst e
      unfold okAt
      rw [h3]
      rfl
    · unfold okAt byteN
      rw [List.getD_eq_getElem?_getD, List.getElem?_eq_getElem (by omega)]
      simp only [Option.getD_some, ne_eq, e, not_false_eq_true, decide_true, Bool.and_true]
      exact h4
theorem nameB_first {s : ByteArray} (h1 : 1 ≤ s.size) (h3 : letterN (byteN s 0) = false) : nameB s = false :=
  nameB_no (i := 0) (by omega) (by unfold okAt; rw [h3]; simp)
set_option maxRecDepth 100000 in
theorem Name_any (s : ByteArray) (w : World) (hs : s.size ≤ maxLen) : Calls Tryd.prog 34 #[.string s] w fun e w' => e = .returned (.bool (nameB s)) ∧ Below w.heap.size w w' := by
  have hl : s.data.toList.length = s.size := by simp
  by_cases h1 : s.size < 1
  · have k1 : s.toList.isEmpty = true := by
      rw [ByteArray.toList_eq, List.isEmpty_iff]
      exact List.eq_nil_of_length_eq_zero (by omega)
    have HR := Lib.hid (show nameB s = false by unfold nameB; rw [decide_eq_false (by omega)]; rfl)
    clear hl
    go_enter Tryd.func34, Tryd.ntmps34
    go_wp2_with fail
    go_ret
    exact ⟨by rw [HR.out]; rfl, Below.refl _ _⟩
  have k1 : s.toList.isEmpty = false := by
    rw [ByteArray.toList_eq]
    cases h : s.data.toList with
    | nil => rw [h] at hl; simp at hl; omega
    | cons a r => rfl
  by_cases h2 : 16 < s.size
  · have k2 : decide ((s.size : Int) > 16) = true := decide_eq_true (by omega)
    have HR := Lib.hid (show nameB s = false by unfold nameB; rw [decide_eq_false (by omega)]; rfl)
    clear hl
    go_enter Tryd.func34, Tryd.ntmps34
    go_wp2_with fail
    go_ret
    exact ⟨by rw [HR.out]; rfl, Below.refl _ _⟩
  have k2 : decide ((s.size : Int) > 16) = false := decide_eq_false (by omega)
  have hx : ∀ W, (Instr.index 9 (.string s) (.int .i64 0)).run Tryd.prog W = .ok (.int .u8 (byteN s 0 : Int)) W := fun W => run_at Tryd.prog W 9 s 0 Tryd.underlying9 (by omega)
  obtain ⟨b, hb⟩ : ∃ b : Int, (byteN s 0 : Int) = b := ⟨_, rfl⟩
  rw [hb] at hx
  have HS := Lib.hid (show 1 ≤ s.size ∧ s.size ≤ 16 by omega)
  have HB := Lib.hid hb
  clear hl h1 h2 hb
  have hx0 := hx w
  by_cases h3 : b < 97
  · have q0 : decide (b < 97) = true := decide_eq_true h3
    have HR := Lib.hid (nameB_first HS.out.1 (by have := HB.out; unfold letterN; simp; omega))
    clear h3 hx
    go_enter Tryd.func34, Tryd.ntmps34
    go_wp2_with fail
    go_ret
    exact ⟨by rw [HR.out]; rfl, Below.refl _ _⟩
  have q0 : decide (b < 97) = false := decide_eq_false h3
  by_cases h4 : b > 122
  · have q1 : decide (b > 122) = true := decide_eq_true h4
    have HR := Lib.hid (nameB_first HS.out.1 (by have := HB.out; unfold letterN; simp; omega))
    clear h3 h4 hx
    go_enter Tryd.func34, Tryd.ntmps34
    go_wp2_with fail
    go_ret
    exact ⟨by rw [HR.out]; rfl, Below.refl _ _⟩
  have q1 : decide (b > 122) = false := decide_eq_false h4
  have HR := Lib.hid (nameB_trim HS.out.1 HS.out.2 (by have := HB.out; unfold letterN; simp; omega))
  have HT := Lib.hid (Trim_any s w (by unfold maxLen at hs; omega))
  obtain ⟨L, hL⟩ : ∃ L, Lib.trimS s.data.toList cutL = L := ⟨_, rfl⟩
  rw [hL] at HR HT
  clear h3 h4 hx hL hs
  go_enter Tryd.func34, Tryd.ntmps34
  go_wp2_with fail
  refine HT.out.mono ?_; rintro e w' ⟨rfl, hw⟩
  have HW := Lib.hid hw
  clear hw
  cases L with
  | nil =>
    go_wp2_with fail
    go_ret
    exact ⟨by rw [HR.out]; rfl, HW.out⟩
  | cons a r =>
    go_wp2_with fail
    go_ret
    exact ⟨by rw [HR.out]; rfl, HW.out⟩
end Go.Proofs.YtgdfhgoenemanaaDoor.Plan
