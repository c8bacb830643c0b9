/-
  The reference's bank in memory, and contracts of its New, Do, Peek. Conditions stand at each. By an AI agent; the first part by a program out of Bank's.
-/
import Derived.Test.YtabhkplcigdafaaBankD
namespace Go.Proofs.Ytabhkplcigdafaa.Bank
set_option linter.unusedVariables false
set_option linter.unusedSimpArgs false
open Go Go.RowKit Go.Proofs.Ytabhkplcigdafaa.Base

structure RefAt (w : World) (g h : Nat) (ws : List Int) (t : Int) : Prop where
  head : Blk w g 57 #[.slice (some ⟨h, 0, none⟩) ws.length ws.length, .int .i64 t]
  row : Blk w h 28 (ws.map (Value.int .u64)).toArray
  len : ws.length ≤ 1048576
  fit : ∀ x ∈ ws, 0 ≤ x ∧ x ≤ 18446744073709551615
theorem RefAt.ne {w : World} {g h : Nat} {ws : List Int} {t : Int} (b : RefAt w g h ws t) : g ≠ h := by
  rintro rfl
  have h1 := b.head
  have h2 := b.row
  unfold Blk at h1 h2
  rw [h1] at h2
  injection h2 with h2
  injection h2 with _ ht _
  exact absurd ht (by decide)
theorem RefAt.below {w w' : World} {g h : Nat} {ws : List Int} {t : Int} (b : RefAt w g h ws t) (hb : Below w.heap.size w w') : RefAt w' g h ws t := ⟨b.head.bl hb, b.row.bl hb, b.len, b.fit⟩
theorem RefAt.drewN {w : World} {g h : Nat} {ws : List Int} {t : Int} (b : RefAt w g h ws t) (n : Nat) : RefAt (w.drewN n) g h ws t := ⟨b.head, b.row, b.len, b.fit⟩
theorem RefAt.other {w w' : World} {g h g' h' : Nat} {ws : List Int} {t : Int} (b : RefAt w g h ws t) (q : Ex2 g' h' w w') (h1 : g ≠ g') (h2 : g ≠ h') (h3 : h ≠ g') (h4 : h ≠ h') : RefAt w' g h ws t :=
  ⟨q.blk b.head h1 h2, q.blk b.row h3 h4, b.len, b.fit⟩
theorem RefAt.touched {w : World} {g h : Nat} {ws : List Int} {t : Int} (b : RefAt w g h ws t) (u : Int) : RefAt (w.setCell ⟨g, 1, none⟩ (.int .i64 u)) g h ws u :=
  ⟨by have := b.head.set_ 1 (.int .i64 u); simpa using this, b.row.far (p := ⟨g, 1, none⟩) (Ne.symm b.ne) _, b.len, b.fit⟩
theorem RefAt.stored {w : World} {g h : Nat} {ws : List Int} {t : Int} (b : RefAt w g h ws t) (i : Nat) (x : Int) (hx : 0 ≤ x ∧ x ≤ 18446744073709551615) : RefAt (w.setCell ⟨h, i, none⟩ (.int .u64 x)) g h (ws.set i x) t :=
  ⟨by rw [List.length_set]; exact b.head.far (p := ⟨h, i, none⟩) b.ne _, by
    have := b.row.set_ i (.int .u64 x)
    have e : ((ws.map (Value.int .u64)).toArray.setIfInBounds i (.int .u64 x)) = ((ws.set i x).map (Value.int .u64)).toArray := by
      rw [List.setIfInBounds_toArray, List.map_set]
    rwa [e] at this, by rw [List.length_set]; exact b.len, fun y hy => by
    rcases List.mem_or_eq_of_mem_set hy with h1 | h1
    · exact b.fit y h1
    · subst h1; exact hx⟩
theorem RefAt.word {w : World} {g h : Nat} {ws : List Int} {t : Int} (b : RefAt w g h ws t) {i : Nat} (hi : i < ws.length) : w.cell? ⟨h, i, none⟩ = some (.int .u64 (nth ws i)) := by
  rw [b.row.cell i]
  simp [nth, List.getD_eq_getElem?_getD, List.getElem?_eq_getElem hi]
theorem RefAt.range {w : World} {g h : Nat} {ws : List Int} {t : Int} (b : RefAt w g h ws t) (i : Nat) : 0 ≤ nth ws i ∧ nth ws i ≤ 18446744073709551615 := by
  by_cases hi : i < ws.length
  · exact b.fit _ (nth_mem hi)
  · have : nth ws i = 0 := by unfold nth; rw [List.getD_eq_getElem?_getD, List.getElem?_eq_none (by omega)]; rfl
    omega


theorem refPeek_any (g h : Nat) (ws : List Int) (t at_ : Int) (w : World) (hb : RefAt w g h ws t) :
    Calls Try.prog 23 #[.pointer (some ⟨g, 0, none⟩), .int .i64 at_] w fun e w' => e = .returned (.int .u64 (wordF ws at_)) ∧ w = w' := by
  have c0 := hb.head.cell 0
  simp only [List.getElem?_toArray, List.getElem?_cons_zero] at c0
  have hlen := hb.len
  by_cases hin : inW ws at_
  · rw [wordF_in hin]
    obtain ⟨h0, h1⟩ := hin
    obtain ⟨i, rfl⟩ : ∃ i : Nat, at_ = (i : Int) := ⟨at_.toNat, by omega⟩
    rw [show ((i : Int)).toNat = i from rfl]
    have hi : i < ws.length := by omega
    have hw := hb.word hi
    have t1 : ¬ (i : Int) < 0 := by omega
    have t2 : ¬ (i : Int) ≥ (ws.length : Int) := by omega
    clear hb
    go_enter Try.func23, Try.ntmps23
    go_wp2_with fail
    go_ret
    exact ⟨rfl, rfl⟩
  · have ho : at_ < 0 ∨ (¬ at_ < 0 ∧ at_ ≥ (ws.length : Int)) := by unfold inW at hin; omega
    rw [show wordF ws at_ = 0 from if_neg hin]
    clear hb hin
    rcases ho with h0 | ⟨h0, h1⟩
    all_goals
      go_enter Try.func23, Try.ntmps23
      go_wp2_with fail
      go_ret
      exact ⟨rfl, rfl⟩
theorem refDo_out (g h : Nat) (ws : List Int) (t : Int) (a : Act) (w : World) (hb : RefAt w g h ws t) (hin : ¬ inW ws a.at_) :
    Calls Try.prog 22 #[.pointer (some ⟨g, 0, none⟩), .int .i64 a.kind, .int .i64 a.at_, .int .u64 a.x, .int .u64 a.y] w fun e w' => e = .returned (.tuple #[.int .u64 0, .int .i64 10]) ∧ w = w' := by
  obtain ⟨kind, at_, x, y⟩ := a
  simp only at hin
  have c0 := hb.head.cell 0
  simp only [List.getElem?_toArray, List.getElem?_cons_zero] at c0
  have hlen := hb.len
  have ho : at_ < 0 ∨ (¬ at_ < 0 ∧ at_ ≥ (ws.length : Int)) := by unfold inW at hin; omega
  clear hb hin
  rcases ho with h0 | ⟨h0, h1⟩
  all_goals
    go_enter Try.func22, Try.ntmps22
    go_wp2_with fail
    go_ret2
    exact ⟨rfl, rfl⟩
theorem refNew (n : Nat) (h2 : n ≤ 1048576) (w : World) :
    Calls Try.prog 21 #[.int .i64 n] w fun e w' => e = .returned (.pointer (some ⟨w.heap.size + 1, 0, none⟩)) ∧ RefAt w' (w.heap.size + 1) w.heap.size (zeros n) 0 ∧ Below w.heap.size w w' := by
  have hmk := make_words n h2 w
  have hbk : RefAt ((w.alloc (.cells ((zeros n).map (Value.int .u64)).toArray 28)).alloc (.cells #[.slice (some ⟨w.heap.size, 0, none⟩) n n, .int .i64 0] 57)) (w.heap.size + 1) w.heap.size (zeros n) 0 := by
    refine ⟨?_, (Blk.new w _ _).alloc _, by rw [zeros_len]; exact h2, zeros_fit n⟩
    rw [zeros_len]
    have := Blk.new (w.alloc (.cells ((zeros n).map (Value.int .u64)).toArray 28)) 57 #[.slice (some ⟨w.heap.size, 0, none⟩) n n, .int .i64 0]
    rwa [World.size_alloc] at this
  have HBK := Lib.hid hbk
  clear hbk
  go_enter Try.func21, Try.ntmps21
  go_wp2_with fail
  go_ret
  exact ⟨rfl, HBK.out, ((Below.refl _ _).alloc (Nat.le_refl _) _).alloc (by simp) _⟩
end Go.Proofs.Ytabhkplcigdafaa.Bank
