/-
  Law 6: what a name is; config.Name and the document's Name tell so. Conditions stand at each. By an AI agent.
-/
import Derived.Test.YtgdfhgoenemanaaDoorPlTr
import Derived.Test.YtgdfhgoenemanaaDoorEx
import Derived.Test.YtgdfhgoenemanaaDoorGoto
namespace Go.Proofs.YtgdfhgoenemanaaDoor.Plan
set_option linter.unusedVariables false
set_option linter.unusedSimpArgs false
open Go Go.RowKit Go.Proofs.YtgdfhgoenemanaaDoor.Base
/-- the byte at a place -/
def byteN (s : ByteArray) (i : Nat) : Nat := (s.data.toList.getD i 0).toNat
def letterN (b : Nat) : Bool := decide (97 ≤ b ∧ b ≤ 122)
def digitN (b : Nat) : Bool := decide (48 ≤ b ∧ b ≤ 57)
/-- the i-th byte may be in a name -/
def okAt (s : ByteArray) (i : Nat) : Bool := letterN (byteN s i) || (digitN (byteN s i) && decide (i ≠ 0))
def nameB (s : ByteArray) : Bool := decide (1 ≤ s.size ∧ s.size ≤ 16) && (List.range s.size).all (okAt s)
theorem run_at (P : Program) (w : World) (t : TypeId) (s : ByteArray) (i : Nat) (h : P.underlying t = some .string) (hi : i < s.size) :
    (Instr.index t (.string s) (.int .i64 (i : Int))).run P w = .ok (.int .u8 (byteN s i : Int)) w := by
  rw [run_index_string w t s .i64 i h, dif_pos (by omega)]
  have e : (s[(i : Int).toNat]'(by omega)).toNat = byteN s i := by
    have h1 : (i : Int).toNat = i := by omega
    simp only [h1]
    unfold byteN
    have h2 : i < s.data.toList.length := by simpa using hi
    rw [List.getD_eq_getElem?_getD, List.getElem?_eq_getElem h2]
    rfl
  rw [e]
theorem nameB_no {s : ByteArray} {i : Nat} (hi : i < s.size) (h : okAt s i = false) : nameB s = false := by
  unfold nameB
  rw [Bool.and_eq_false_iff]
  right
  rw [List.all_eq_false]
  exact ⟨i, List.mem_range.2 hi, by rw [h]; simp⟩
set_option maxRecDepth 100000 in
theorem refName_any (s : ByteArray) (w : World) : Calls Tryd.prog 29 #[.string s] w fun e w' => e = .returned (.bool (nameB s)) ∧ w = w' := by
  by_cases h1 : s.size < 1
  · have k1 : decide ((s.size : Int) < 1) = true := decide_eq_true (by omega)
    have hr : nameB s = false := by unfold nameB; rw [decide_eq_false (by omega)]; rfl
    rw [hr]
    clear hr
    go_enter Tryd.func29, Tryd.ntmps29
    go_wp2_with fail
    go_ret
    exact ⟨rfl, rfl⟩
  have k1 : decide ((s.size : Int) < 1) = false := decide_eq_false (by omega)
  by_cases h2 : 16 < s.size
  · have k2 : decide ((s.size : Int) > 16) = true := decide_eq_true (by omega)
    have hr : nameB s = false := by unfold nameB; rw [decide_eq_false (by omega)]; rfl
    rw [hr]
    clear hr
    go_enter Tryd.func29, Tryd.ntmps29
    go_wp2_with fail
    go_ret
    exact ⟨rfl, rfl⟩
  have k2 : decide ((s.size : Int) > 16) = false := decide_eq_false (by omega)
  have HS := Lib.hid (show 1 ≤ s.size ∧ s.size ≤ 16 by omega)
  have HX := Lib.hid (fun (i : Nat) (hi : i < s.size) => run_at Tryd.prog w 9 s i Tryd.underlying9 hi)
  clear h1 h2
  go_enter Tryd.func29, Tryd.ntmps29
  go_wp2_with fail
  clear k1 k2
  go_loopw [3, 4, 5] (fun s3 s4 s5 wr => ∃ (i : Nat), i ≤ s.size ∧ s3 = .int .i64 i ∧ (∀ j, j < i → okAt s j = true) ∧ w = wr) (fun s3 s4 s5 _ => s.size + 1 - (intOf s3).toNat)
  case atStart => exact ⟨0, by omega, rfl, fun j hj => absurd hj (by omega), rfl⟩
  case round =>
    obtain ⟨i, hi, rfl, hok, hw⟩ := hrel
    subst hw
    have HOK := Lib.hid hok
    clear hok
    by_cases hlt : i < s.size
    · have kd : decide ((i : Int) < (s.size : Int)) = true := decide_eq_true (by omega)
      have ki0 : (0 : Int) ≤ (i : Int) := by omega
      have ki5 : (i : Int) ≤ 16 := by have := HS.out; omega
      have hx := HX.out i hlt
      have HI := Lib.hid hlt
      obtain ⟨b, hb⟩ : ∃ b : Int, (byteN s i : Int) = b := ⟨_, rfl⟩
      rw [hb] at hx
      have HB := Lib.hid hb
      have kdn : decide (i < s.size) = true := decide_eq_true HI.out
      have kdm : i < s.size := HI.out
      have kb0 : (0 : Int) ≤ b := by omega
      clear hi hlt hb
      -- ROUND
      rcases (show (97 ≤ b ∧ b ≤ 122) ∨ (122 < b) ∨ (57 < b ∧ b < 97) ∨ (48 ≤ b ∧ b ≤ 57 ∧ i ≠ 0) ∨ (48 ≤ b ∧ b ≤ 57 ∧ i = 0) ∨ (b < 48) by omega) with hc | hc | hc | hc | hc | hc
      · skip
        have q0 : decide (b ≥ 97) = true := decide_eq_true (by omega)
        have q1 : decide (b ≤ 122) = true := decide_eq_true (by omega)
        have q2 : decide (b ≥ 48) = true := decide_eq_true (by omega)
        have q3 : decide (b ≤ 57) = false := decide_eq_false (by omega)
        have hoki : okAt s i = true := by have := HB.out; unfold okAt letterN digitN; simp; omega
        have HO := Lib.hid hoki
        clear hoki hc
        go_wp2_with fail
        exact ⟨⟨i + 1, HI.out, by go_num, fun j hj => if e : j = i then by rw [e]; exact HO.out else HOK.out j (by omega), by first | rfl | trivial⟩, by have := HI.out; simp [intOf]; omega⟩
      · skip
        have q0 : decide (b ≥ 97) = true := decide_eq_true (by omega)
        have q1 : decide (b ≤ 122) = false := decide_eq_false (by omega)
        have q2 : decide (b ≥ 48) = true := decide_eq_true (by omega)
        have q3 : decide (b ≤ 57) = false := decide_eq_false (by omega)
        have hoki : okAt s i = false := by have := HB.out; unfold okAt letterN digitN; simp; omega
        have HO := Lib.hid (nameB_no HI.out hoki)
        clear hoki hc
        go_wp2_with fail
        go_ret
        exact ⟨by rw [HO.out]; rfl, rfl⟩
      · skip
        have q0 : decide (b ≥ 97) = false := decide_eq_false (by omega)
        have q1 : decide (b ≥ 48) = true := decide_eq_true (by omega)
        have q2 : decide (b ≤ 57) = false := decide_eq_false (by omega)
        have hoki : okAt s i = false := by have := HB.out; unfold okAt letterN digitN; simp; omega
        have HO := Lib.hid (nameB_no HI.out hoki)
        clear hoki hc
        go_wp2_with fail
        go_ret
        exact ⟨by rw [HO.out]; rfl, rfl⟩
      · skip
        have q0 : decide (b ≥ 97) = false := decide_eq_false (by omega)
        have q1 : decide (b ≥ 48) = true := decide_eq_true (by omega)
        have q2 : decide (b ≤ 57) = true := decide_eq_true (by omega)
        have qi : ((i : Int) == 0) = false := beq_eq_false_iff_ne.2 (by omega)
        have hoki : okAt s i = true := by have := HB.out; unfold okAt letterN digitN; simp; omega
        have HO := Lib.hid hoki
        clear hoki hc
        go_wp2_with fail
        exact ⟨⟨i + 1, HI.out, by go_num, fun j hj => if e : j = i then by rw [e]; exact HO.out else HOK.out j (by omega), by first | rfl | trivial⟩, by have := HI.out; simp [intOf]; omega⟩
      · skip
        have q0 : decide (b ≥ 97) = false := decide_eq_false (by omega)
        have q1 : decide (b ≥ 48) = true := decide_eq_true (by omega)
        have q2 : decide (b ≤ 57) = true := decide_eq_true (by omega)
        have qi : ((i : Int) == 0) = true := by rw [hc.2.2]; rfl
        have hoki : okAt s i = false := by have := HB.out; unfold okAt letterN digitN; simp; omega
        have HO := Lib.hid (nameB_no HI.out hoki)
        clear hoki hc
        go_wp2_with fail
        go_ret
        exact ⟨by rw [HO.out]; rfl, rfl⟩
      · skip
        have q0 : decide (b ≥ 97) = false := decide_eq_false (by omega)
        have q1 : decide (b ≥ 48) = false := decide_eq_false (by omega)
        have hoki : okAt s i = false := by have := HB.out; unfold okAt letterN digitN; simp; omega
        have HO := Lib.hid (nameB_no HI.out hoki)
        clear hoki hc
        go_wp2_with fail
        go_ret
        exact ⟨by rw [HO.out]; rfl, rfl⟩
      -- END
    · have he : i = s.size := by omega
      have kdn : decide (i < s.size) = false := decide_eq_false hlt
      have kdm : ¬ i < s.size := hlt
      have kd : decide ((i : Int) < (s.size : Int)) = false := decide_eq_false (by omega)
      have hr : nameB s = true := by
        unfold nameB
        rw [decide_eq_true HS.out]
        exact List.all_eq_true.2 fun j hj => HOK.out j (by have := List.mem_range.1 hj; omega)
      have HR := Lib.hid hr
      clear hr hi hlt he
      go_wp2_with fail
      go_ret
      exact ⟨by rw [HR.out]; rfl, rfl⟩
end Go.Proofs.YtgdfhgoenemanaaDoor.Plan
