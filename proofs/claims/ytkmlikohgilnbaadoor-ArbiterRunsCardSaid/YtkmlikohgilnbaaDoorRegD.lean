/-
  Reg: the walk through Decide. Conditions stand at each. By an AI agent.
-/
import Derived.Test.YtkmlikohgilnbaaDoorRegP
namespace Go.Proofs.YtkmlikohgilnbaaDoor.Reg
set_option linter.unusedVariables false
set_option linter.unusedSimpArgs false
open Go Go.RowKit Go.Proofs.YtkmlikohgilnbaaDoor.Base Go.Proofs.YtkmlikohgilnbaaDoor.Modes Go.Deep

/-- what is told by each part, in order -/
def codeE (s : St) (a : Ask) : Nat → Int
  | 0 => argsE s
  | 1 => rangesE a
  | 2 => holdE s a
  | 3 => rankE s a
  | 4 => wayE s a
  | 5 => guardE s a
  | _ => fullE s
def partF : Nat → FuncId
  | 0 => 48
  | 1 => 49
  | 2 => 50
  | 3 => 51
  | 4 => 52
  | 5 => 53
  | _ => 54
theorem part_calls (s : St) (h : s.Ok) (a : Ask) (ha : a.Ok) (k : Nat) (w : World) (ht : Tab w) : Calls Tryd.prog (partF k) #[mval s a] w fun e w' => e = .returned (.int .i64 (codeE s a k)) ∧ Below w.heap.size w w' := by
  match k with
  | 0 => exact margs_any s h a ha w ht
  | 1 => exact mranges_any s h a ha w ht
  | 2 => exact mhold_any s h a ha w ht
  | 3 => exact mrank_any s h a ha w ht
  | 4 => exact mway_any s h a ha w ht
  | 5 => exact mguard_any s h a ha w ht
  | 6 => exact mfull_any s h a ha w ht
  | n + 7 => exact mfull_any s h a ha w ht
theorem ifz {p : Prop} [Decidable p] {c : Int} (hc : c ≠ 0) (h : (if p then c else 0) = 0) : ¬ p := by
  intro hp
  rw [if_pos hp] at h
  exact hc h
theorem ifnz {p : Prop} [Decidable p] {c : Int} (h : (if p then c else 0) ≠ 0) : p := by
  by_cases hp : p
  · exact hp
  · rw [if_neg hp] at h
    exact absurd rfl h
theorem decide_at {s : St} {a : Ask} {k : Nat} (hk : k < 7) (h0 : ∀ j, j < k → codeE s a j = 0) (h1 : codeE s a k ≠ 0) : decideE s a = codeE s a k := by
  unfold decideE
  have c0 : 0 < k → ¬ (mayE s ≠ 0) := fun h => ifz (c := 1) (by decide) (h0 0 h)
  have c1 : 1 < k → ¬ (¬ a.In) := fun h => ifz (c := 10) (by decide) (h0 1 h)
  have c2 : 2 < k → ¬ (s.hold = true ∧ a.source ≠ 3) := fun h => ifz (c := 23) (by decide) (h0 2 h)
  have c3 : 3 < k → ¬ (a.source < s.source ∧ s.mode ≠ 0) := fun h => ifz (c := 24) (by decide) (h0 3 h)
  have c4 : 4 < k → ¬ (wayB s.mode a.mode = false) := fun h => ifz (c := 21) (by decide) (h0 4 h)
  have c5 : 5 < k → ¬ (guardB s a = false) := fun h => ifz (c := 22) (by decide) (h0 5 h)
  rcases (show k = 0 ∨ k = 1 ∨ k = 2 ∨ k = 3 ∨ k = 4 ∨ k = 5 ∨ k = 6 by omega) with rfl | rfl | rfl | rfl | rfl | rfl | rfl
  · have hp : mayE s ≠ 0 := ifnz (c := 1) h1
    rw [if_pos hp]
    exact (if_pos (c := mayE s ≠ 0) hp).symm
  · have hp : ¬ a.In := ifnz (c := 10) h1
    rw [if_neg (c0 (by decide)), if_pos hp]
    exact (if_pos (c := ¬ a.In) hp).symm
  · have hp : s.hold = true ∧ a.source ≠ 3 := ifnz (c := 23) h1
    rw [if_neg (c0 (by decide)), if_neg (c1 (by decide)), if_pos hp]
    exact (if_pos (c := s.hold = true ∧ a.source ≠ 3) hp).symm
  · have hp : a.source < s.source ∧ s.mode ≠ 0 := ifnz (c := 24) h1
    rw [if_neg (c0 (by decide)), if_neg (c1 (by decide)), if_neg (c2 (by decide)), if_pos hp]
    exact (if_pos (c := a.source < s.source ∧ s.mode ≠ 0) hp).symm
  · have hp : wayB s.mode a.mode = false := ifnz (c := 21) h1
    rw [if_neg (c0 (by decide)), if_neg (c1 (by decide)), if_neg (c2 (by decide)), if_neg (c3 (by decide)), if_pos hp]
    exact (if_pos (c := wayB s.mode a.mode = false) hp).symm
  · have hp : guardB s a = false := ifnz (c := 22) h1
    rw [if_neg (c0 (by decide)), if_neg (c1 (by decide)), if_neg (c2 (by decide)), if_neg (c3 (by decide)), if_neg (c4 (by decide)), if_pos hp]
    exact (if_pos (c := guardB s a = false) hp).symm
  · have hp : s.epoch = lastE := ifnz (c := 16) h1
    rw [if_neg (c0 (by decide)), if_neg (c1 (by decide)), if_neg (c2 (by decide)), if_neg (c3 (by decide)), if_neg (c4 (by decide)), if_neg (c5 (by decide)), if_pos hp]
    exact (if_pos (c := s.epoch = lastE) hp).symm
theorem decide_none {s : St} {a : Ask} (h0 : ∀ j, j < 7 → codeE s a j = 0) : decideE s a = 0 ∧ s.epoch < 4503599627370495 ∧ mayE s = 0 ∧ a.In := by
  have c0 : ¬ (mayE s ≠ 0) := ifz (c := 1) (by decide) (h0 0 (by decide))
  have c1 : ¬ (¬ a.In) := ifz (c := 10) (by decide) (h0 1 (by decide))
  have c2 : ¬ (s.hold = true ∧ a.source ≠ 3) := ifz (c := 23) (by decide) (h0 2 (by decide))
  have c3 : ¬ (a.source < s.source ∧ s.mode ≠ 0) := ifz (c := 24) (by decide) (h0 3 (by decide))
  have c4 : ¬ (wayB s.mode a.mode = false) := ifz (c := 21) (by decide) (h0 4 (by decide))
  have c5 : ¬ (guardB s a = false) := ifz (c := 22) (by decide) (h0 5 (by decide))
  have c6 : ¬ (s.epoch = lastE) := ifz (c := 16) (by decide) (h0 6 (by decide))
  have q0 : mayE s = 0 := by simpa using c0
  refine ⟨?_, ?_, q0, by simpa using c1⟩
  · unfold decideE
    rw [if_neg c0, if_neg c1, if_neg c2, if_neg c3, if_neg c4, if_neg c5, if_neg c6]
  · have := (mayE_zero.1 q0).1.2.2.2
    unfold lastE at c6
    omega

theorem bl0 {w W0 wr : World} (h : Below w.heap.size w W0) (k : Below W0.heap.size W0 wr) : Below w.heap.size w wr := bl h k

set_option maxRecDepth 100000 in
set_option maxHeartbeats 16000000 in
theorem Decide_any (s : St) (h : s.Ok) (a : Ask) (ha : a.Ok) (w : World) (ht : Tab w) : Calls Tryd.prog 25 #[s.val, a.val] w fun e w' => e = .returned (.tuple #[(decideS s a).val, .int .i64 (decideE s a)]) ∧ Below w.heap.size w w' := by
  have HP := Lib.hid (part_calls s h a ha)
  have HT := Lib.hid ht
  obtain ⟨e0, e1⟩ := h.epoch
  clear ht
  unfold St.val Ask.val
  go_enter Tryd.func25, Tryd.ntmps25
  have hW0 : Below w.heap.size w (((((w.alloc (.cells #[.int .i64 s.mode, .int .i64 s.source, .bool s.hold, .int .i64 s.flags, .int .u64 s.epoch] 34)).alloc (.cells #[.int .i64 a.source, .int .i64 a.mode, .bool a.free] 67)).alloc (.cells #[.int .i64 0, .int .i64 0, .bool false, .int .i64 0, .int .u64 0] 34)).alloc (.cells #[.int .i64 s.mode, .int .i64 s.source, .bool s.hold, .int .i64 s.flags, .int .u64 s.epoch, .int .i64 a.source, .int .i64 a.mode, .bool a.free] 112)).alloc (.cells #[.func (Fn.func 48) #[.agg #[.int .i64 s.mode, .int .i64 s.source, .bool s.hold, .int .i64 s.flags, .int .u64 s.epoch, .int .i64 a.source, .int .i64 a.mode, .bool a.free]] #[], .func (Fn.func 49) #[.agg #[.int .i64 s.mode, .int .i64 s.source, .bool s.hold, .int .i64 s.flags, .int .u64 s.epoch, .int .i64 a.source, .int .i64 a.mode, .bool a.free]] #[], .func (Fn.func 50) #[.agg #[.int .i64 s.mode, .int .i64 s.source, .bool s.hold, .int .i64 s.flags, .int .u64 s.epoch, .int .i64 a.source, .int .i64 a.mode, .bool a.free]] #[], .func (Fn.func 51) #[.agg #[.int .i64 s.mode, .int .i64 s.source, .bool s.hold, .int .i64 s.flags, .int .u64 s.epoch, .int .i64 a.source, .int .i64 a.mode, .bool a.free]] #[], .func (Fn.func 52) #[.agg #[.int .i64 s.mode, .int .i64 s.source, .bool s.hold, .int .i64 s.flags, .int .u64 s.epoch, .int .i64 a.source, .int .i64 a.mode, .bool a.free]] #[], .func (Fn.func 53) #[.agg #[.int .i64 s.mode, .int .i64 s.source, .bool s.hold, .int .i64 s.flags, .int .u64 s.epoch, .int .i64 a.source, .int .i64 a.mode, .bool a.free]] #[], .func (Fn.func 54) #[.agg #[.int .i64 s.mode, .int .i64 s.source, .bool s.hold, .int .i64 s.flags, .int .u64 s.epoch, .int .i64 a.source, .int .i64 a.mode, .bool a.free]] #[]] 113)) := by
    exact ((((((Below.refl w.heap.size w).alloc (Nat.le_refl _) _).alloc (by simp) _).alloc (by simp; omega) _).alloc (by simp; omega) _).alloc (by simp; omega) _)
  have hS : Blk (((((w.alloc (.cells #[.int .i64 s.mode, .int .i64 s.source, .bool s.hold, .int .i64 s.flags, .int .u64 s.epoch] 34)).alloc (.cells #[.int .i64 a.source, .int .i64 a.mode, .bool a.free] 67)).alloc (.cells #[.int .i64 0, .int .i64 0, .bool false, .int .i64 0, .int .u64 0] 34)).alloc (.cells #[.int .i64 s.mode, .int .i64 s.source, .bool s.hold, .int .i64 s.flags, .int .u64 s.epoch, .int .i64 a.source, .int .i64 a.mode, .bool a.free] 112)).alloc (.cells #[.func (Fn.func 48) #[.agg #[.int .i64 s.mode, .int .i64 s.source, .bool s.hold, .int .i64 s.flags, .int .u64 s.epoch, .int .i64 a.source, .int .i64 a.mode, .bool a.free]] #[], .func (Fn.func 49) #[.agg #[.int .i64 s.mode, .int .i64 s.source, .bool s.hold, .int .i64 s.flags, .int .u64 s.epoch, .int .i64 a.source, .int .i64 a.mode, .bool a.free]] #[], .func (Fn.func 50) #[.agg #[.int .i64 s.mode, .int .i64 s.source, .bool s.hold, .int .i64 s.flags, .int .u64 s.epoch, .int .i64 a.source, .int .i64 a.mode, .bool a.free]] #[], .func (Fn.func 51) #[.agg #[.int .i64 s.mode, .int .i64 s.source, .bool s.hold, .int .i64 s.flags, .int .u64 s.epoch, .int .i64 a.source, .int .i64 a.mode, .bool a.free]] #[], .func (Fn.func 52) #[.agg #[.int .i64 s.mode, .int .i64 s.source, .bool s.hold, .int .i64 s.flags, .int .u64 s.epoch, .int .i64 a.source, .int .i64 a.mode, .bool a.free]] #[], .func (Fn.func 53) #[.agg #[.int .i64 s.mode, .int .i64 s.source, .bool s.hold, .int .i64 s.flags, .int .u64 s.epoch, .int .i64 a.source, .int .i64 a.mode, .bool a.free]] #[], .func (Fn.func 54) #[.agg #[.int .i64 s.mode, .int .i64 s.source, .bool s.hold, .int .i64 s.flags, .int .u64 s.epoch, .int .i64 a.source, .int .i64 a.mode, .bool a.free]] #[]] 113)) w.heap.size 34 _ := ((((Blk.new w 34 _).alloc (.cells #[.int .i64 a.source, .int .i64 a.mode, .bool a.free] 67)).alloc (.cells #[.int .i64 0, .int .i64 0, .bool false, .int .i64 0, .int .u64 0] 34)).alloc (.cells #[.int .i64 s.mode, .int .i64 s.source, .bool s.hold, .int .i64 s.flags, .int .u64 s.epoch, .int .i64 a.source, .int .i64 a.mode, .bool a.free] 112)).alloc (.cells #[.func (Fn.func 48) #[.agg #[.int .i64 s.mode, .int .i64 s.source, .bool s.hold, .int .i64 s.flags, .int .u64 s.epoch, .int .i64 a.source, .int .i64 a.mode, .bool a.free]] #[], .func (Fn.func 49) #[.agg #[.int .i64 s.mode, .int .i64 s.source, .bool s.hold, .int .i64 s.flags, .int .u64 s.epoch, .int .i64 a.source, .int .i64 a.mode, .bool a.free]] #[], .func (Fn.func 50) #[.agg #[.int .i64 s.mode, .int .i64 s.source, .bool s.hold, .int .i64 s.flags, .int .u64 s.epoch, .int .i64 a.source, .int .i64 a.mode, .bool a.free]] #[], .func (Fn.func 51) #[.agg #[.int .i64 s.mode, .int .i64 s.source, .bool s.hold, .int .i64 s.flags, .int .u64 s.epoch, .int .i64 a.source, .int .i64 a.mode, .bool a.free]] #[], .func (Fn.func 52) #[.agg #[.int .i64 s.mode, .int .i64 s.source, .bool s.hold, .int .i64 s.flags, .int .u64 s.epoch, .int .i64 a.source, .int .i64 a.mode, .bool a.free]] #[], .func (Fn.func 53) #[.agg #[.int .i64 s.mode, .int .i64 s.source, .bool s.hold, .int .i64 s.flags, .int .u64 s.epoch, .int .i64 a.source, .int .i64 a.mode, .bool a.free]] #[], .func (Fn.func 54) #[.agg #[.int .i64 s.mode, .int .i64 s.source, .bool s.hold, .int .i64 s.flags, .int .u64 s.epoch, .int .i64 a.source, .int .i64 a.mode, .bool a.free]] #[]] 113)
  have hA : Blk (((((w.alloc (.cells #[.int .i64 s.mode, .int .i64 s.source, .bool s.hold, .int .i64 s.flags, .int .u64 s.epoch] 34)).alloc (.cells #[.int .i64 a.source, .int .i64 a.mode, .bool a.free] 67)).alloc (.cells #[.int .i64 0, .int .i64 0, .bool false, .int .i64 0, .int .u64 0] 34)).alloc (.cells #[.int .i64 s.mode, .int .i64 s.source, .bool s.hold, .int .i64 s.flags, .int .u64 s.epoch, .int .i64 a.source, .int .i64 a.mode, .bool a.free] 112)).alloc (.cells #[.func (Fn.func 48) #[.agg #[.int .i64 s.mode, .int .i64 s.source, .bool s.hold, .int .i64 s.flags, .int .u64 s.epoch, .int .i64 a.source, .int .i64 a.mode, .bool a.free]] #[], .func (Fn.func 49) #[.agg #[.int .i64 s.mode, .int .i64 s.source, .bool s.hold, .int .i64 s.flags, .int .u64 s.epoch, .int .i64 a.source, .int .i64 a.mode, .bool a.free]] #[], .func (Fn.func 50) #[.agg #[.int .i64 s.mode, .int .i64 s.source, .bool s.hold, .int .i64 s.flags, .int .u64 s.epoch, .int .i64 a.source, .int .i64 a.mode, .bool a.free]] #[], .func (Fn.func 51) #[.agg #[.int .i64 s.mode, .int .i64 s.source, .bool s.hold, .int .i64 s.flags, .int .u64 s.epoch, .int .i64 a.source, .int .i64 a.mode, .bool a.free]] #[], .func (Fn.func 52) #[.agg #[.int .i64 s.mode, .int .i64 s.source, .bool s.hold, .int .i64 s.flags, .int .u64 s.epoch, .int .i64 a.source, .int .i64 a.mode, .bool a.free]] #[], .func (Fn.func 53) #[.agg #[.int .i64 s.mode, .int .i64 s.source, .bool s.hold, .int .i64 s.flags, .int .u64 s.epoch, .int .i64 a.source, .int .i64 a.mode, .bool a.free]] #[], .func (Fn.func 54) #[.agg #[.int .i64 s.mode, .int .i64 s.source, .bool s.hold, .int .i64 s.flags, .int .u64 s.epoch, .int .i64 a.source, .int .i64 a.mode, .bool a.free]] #[]] 113)) (w.heap.size + 1) 67 _ := (((blk_new' (w.alloc (.cells #[.int .i64 s.mode, .int .i64 s.source, .bool s.hold, .int .i64 s.flags, .int .u64 s.epoch] 34)) (g := w.heap.size + 1) (by simp) 67 _).alloc (.cells #[.int .i64 0, .int .i64 0, .bool false, .int .i64 0, .int .u64 0] 34)).alloc (.cells #[.int .i64 s.mode, .int .i64 s.source, .bool s.hold, .int .i64 s.flags, .int .u64 s.epoch, .int .i64 a.source, .int .i64 a.mode, .bool a.free] 112)).alloc (.cells #[.func (Fn.func 48) #[.agg #[.int .i64 s.mode, .int .i64 s.source, .bool s.hold, .int .i64 s.flags, .int .u64 s.epoch, .int .i64 a.source, .int .i64 a.mode, .bool a.free]] #[], .func (Fn.func 49) #[.agg #[.int .i64 s.mode, .int .i64 s.source, .bool s.hold, .int .i64 s.flags, .int .u64 s.epoch, .int .i64 a.source, .int .i64 a.mode, .bool a.free]] #[], .func (Fn.func 50) #[.agg #[.int .i64 s.mode, .int .i64 s.source, .bool s.hold, .int .i64 s.flags, .int .u64 s.epoch, .int .i64 a.source, .int .i64 a.mode, .bool a.free]] #[], .func (Fn.func 51) #[.agg #[.int .i64 s.mode, .int .i64 s.source, .bool s.hold, .int .i64 s.flags, .int .u64 s.epoch, .int .i64 a.source, .int .i64 a.mode, .bool a.free]] #[], .func (Fn.func 52) #[.agg #[.int .i64 s.mode, .int .i64 s.source, .bool s.hold, .int .i64 s.flags, .int .u64 s.epoch, .int .i64 a.source, .int .i64 a.mode, .bool a.free]] #[], .func (Fn.func 53) #[.agg #[.int .i64 s.mode, .int .i64 s.source, .bool s.hold, .int .i64 s.flags, .int .u64 s.epoch, .int .i64 a.source, .int .i64 a.mode, .bool a.free]] #[], .func (Fn.func 54) #[.agg #[.int .i64 s.mode, .int .i64 s.source, .bool s.hold, .int .i64 s.flags, .int .u64 s.epoch, .int .i64 a.source, .int .i64 a.mode, .bool a.free]] #[]] 113)
  have hR : Blk (((((w.alloc (.cells #[.int .i64 s.mode, .int .i64 s.source, .bool s.hold, .int .i64 s.flags, .int .u64 s.epoch] 34)).alloc (.cells #[.int .i64 a.source, .int .i64 a.mode, .bool a.free] 67)).alloc (.cells #[.int .i64 0, .int .i64 0, .bool false, .int .i64 0, .int .u64 0] 34)).alloc (.cells #[.int .i64 s.mode, .int .i64 s.source, .bool s.hold, .int .i64 s.flags, .int .u64 s.epoch, .int .i64 a.source, .int .i64 a.mode, .bool a.free] 112)).alloc (.cells #[.func (Fn.func 48) #[.agg #[.int .i64 s.mode, .int .i64 s.source, .bool s.hold, .int .i64 s.flags, .int .u64 s.epoch, .int .i64 a.source, .int .i64 a.mode, .bool a.free]] #[], .func (Fn.func 49) #[.agg #[.int .i64 s.mode, .int .i64 s.source, .bool s.hold, .int .i64 s.flags, .int .u64 s.epoch, .int .i64 a.source, .int .i64 a.mode, .bool a.free]] #[], .func (Fn.func 50) #[.agg #[.int .i64 s.mode, .int .i64 s.source, .bool s.hold, .int .i64 s.flags, .int .u64 s.epoch, .int .i64 a.source, .int .i64 a.mode, .bool a.free]] #[], .func (Fn.func 51) #[.agg #[.int .i64 s.mode, .int .i64 s.source, .bool s.hold, .int .i64 s.flags, .int .u64 s.epoch, .int .i64 a.source, .int .i64 a.mode, .bool a.free]] #[], .func (Fn.func 52) #[.agg #[.int .i64 s.mode, .int .i64 s.source, .bool s.hold, .int .i64 s.flags, .int .u64 s.epoch, .int .i64 a.source, .int .i64 a.mode, .bool a.free]] #[], .func (Fn.func 53) #[.agg #[.int .i64 s.mode, .int .i64 s.source, .bool s.hold, .int .i64 s.flags, .int .u64 s.epoch, .int .i64 a.source, .int .i64 a.mode, .bool a.free]] #[], .func (Fn.func 54) #[.agg #[.int .i64 s.mode, .int .i64 s.source, .bool s.hold, .int .i64 s.flags, .int .u64 s.epoch, .int .i64 a.source, .int .i64 a.mode, .bool a.free]] #[]] 113)) (w.heap.size + 1 + 1) 34 _ := ((blk_new' ((w.alloc (.cells #[.int .i64 s.mode, .int .i64 s.source, .bool s.hold, .int .i64 s.flags, .int .u64 s.epoch] 34)).alloc (.cells #[.int .i64 a.source, .int .i64 a.mode, .bool a.free] 67)) (g := w.heap.size + 1 + 1) (by simp) 34 _).alloc (.cells #[.int .i64 s.mode, .int .i64 s.source, .bool s.hold, .int .i64 s.flags, .int .u64 s.epoch, .int .i64 a.source, .int .i64 a.mode, .bool a.free] 112)).alloc (.cells #[.func (Fn.func 48) #[.agg #[.int .i64 s.mode, .int .i64 s.source, .bool s.hold, .int .i64 s.flags, .int .u64 s.epoch, .int .i64 a.source, .int .i64 a.mode, .bool a.free]] #[], .func (Fn.func 49) #[.agg #[.int .i64 s.mode, .int .i64 s.source, .bool s.hold, .int .i64 s.flags, .int .u64 s.epoch, .int .i64 a.source, .int .i64 a.mode, .bool a.free]] #[], .func (Fn.func 50) #[.agg #[.int .i64 s.mode, .int .i64 s.source, .bool s.hold, .int .i64 s.flags, .int .u64 s.epoch, .int .i64 a.source, .int .i64 a.mode, .bool a.free]] #[], .func (Fn.func 51) #[.agg #[.int .i64 s.mode, .int .i64 s.source, .bool s.hold, .int .i64 s.flags, .int .u64 s.epoch, .int .i64 a.source, .int .i64 a.mode, .bool a.free]] #[], .func (Fn.func 52) #[.agg #[.int .i64 s.mode, .int .i64 s.source, .bool s.hold, .int .i64 s.flags, .int .u64 s.epoch, .int .i64 a.source, .int .i64 a.mode, .bool a.free]] #[], .func (Fn.func 53) #[.agg #[.int .i64 s.mode, .int .i64 s.source, .bool s.hold, .int .i64 s.flags, .int .u64 s.epoch, .int .i64 a.source, .int .i64 a.mode, .bool a.free]] #[], .func (Fn.func 54) #[.agg #[.int .i64 s.mode, .int .i64 s.source, .bool s.hold, .int .i64 s.flags, .int .u64 s.epoch, .int .i64 a.source, .int .i64 a.mode, .bool a.free]] #[]] 113)
  have hL : Blk (((((w.alloc (.cells #[.int .i64 s.mode, .int .i64 s.source, .bool s.hold, .int .i64 s.flags, .int .u64 s.epoch] 34)).alloc (.cells #[.int .i64 a.source, .int .i64 a.mode, .bool a.free] 67)).alloc (.cells #[.int .i64 0, .int .i64 0, .bool false, .int .i64 0, .int .u64 0] 34)).alloc (.cells #[.int .i64 s.mode, .int .i64 s.source, .bool s.hold, .int .i64 s.flags, .int .u64 s.epoch, .int .i64 a.source, .int .i64 a.mode, .bool a.free] 112)).alloc (.cells #[.func (Fn.func 48) #[.agg #[.int .i64 s.mode, .int .i64 s.source, .bool s.hold, .int .i64 s.flags, .int .u64 s.epoch, .int .i64 a.source, .int .i64 a.mode, .bool a.free]] #[], .func (Fn.func 49) #[.agg #[.int .i64 s.mode, .int .i64 s.source, .bool s.hold, .int .i64 s.flags, .int .u64 s.epoch, .int .i64 a.source, .int .i64 a.mode, .bool a.free]] #[], .func (Fn.func 50) #[.agg #[.int .i64 s.mode, .int .i64 s.source, .bool s.hold, .int .i64 s.flags, .int .u64 s.epoch, .int .i64 a.source, .int .i64 a.mode, .bool a.free]] #[], .func (Fn.func 51) #[.agg #[.int .i64 s.mode, .int .i64 s.source, .bool s.hold, .int .i64 s.flags, .int .u64 s.epoch, .int .i64 a.source, .int .i64 a.mode, .bool a.free]] #[], .func (Fn.func 52) #[.agg #[.int .i64 s.mode, .int .i64 s.source, .bool s.hold, .int .i64 s.flags, .int .u64 s.epoch, .int .i64 a.source, .int .i64 a.mode, .bool a.free]] #[], .func (Fn.func 53) #[.agg #[.int .i64 s.mode, .int .i64 s.source, .bool s.hold, .int .i64 s.flags, .int .u64 s.epoch, .int .i64 a.source, .int .i64 a.mode, .bool a.free]] #[], .func (Fn.func 54) #[.agg #[.int .i64 s.mode, .int .i64 s.source, .bool s.hold, .int .i64 s.flags, .int .u64 s.epoch, .int .i64 a.source, .int .i64 a.mode, .bool a.free]] #[]] 113)) (w.heap.size + 1 + 1 + 1 + 1) 113 _ := blk_new' ((((w.alloc (.cells #[.int .i64 s.mode, .int .i64 s.source, .bool s.hold, .int .i64 s.flags, .int .u64 s.epoch] 34)).alloc (.cells #[.int .i64 a.source, .int .i64 a.mode, .bool a.free] 67)).alloc (.cells #[.int .i64 0, .int .i64 0, .bool false, .int .i64 0, .int .u64 0] 34)).alloc (.cells #[.int .i64 s.mode, .int .i64 s.source, .bool s.hold, .int .i64 s.flags, .int .u64 s.epoch, .int .i64 a.source, .int .i64 a.mode, .bool a.free] 112)) (g := w.heap.size + 1 + 1 + 1 + 1) (by simp) 113 _
  go_wp2_with fail
  generalize (((((w.alloc (.cells #[.int .i64 s.mode, .int .i64 s.source, .bool s.hold, .int .i64 s.flags, .int .u64 s.epoch] 34)).alloc (.cells #[.int .i64 a.source, .int .i64 a.mode, .bool a.free] 67)).alloc (.cells #[.int .i64 0, .int .i64 0, .bool false, .int .i64 0, .int .u64 0] 34)).alloc (.cells #[.int .i64 s.mode, .int .i64 s.source, .bool s.hold, .int .i64 s.flags, .int .u64 s.epoch, .int .i64 a.source, .int .i64 a.mode, .bool a.free] 112)).alloc (.cells #[.func (Fn.func 48) #[.agg #[.int .i64 s.mode, .int .i64 s.source, .bool s.hold, .int .i64 s.flags, .int .u64 s.epoch, .int .i64 a.source, .int .i64 a.mode, .bool a.free]] #[], .func (Fn.func 49) #[.agg #[.int .i64 s.mode, .int .i64 s.source, .bool s.hold, .int .i64 s.flags, .int .u64 s.epoch, .int .i64 a.source, .int .i64 a.mode, .bool a.free]] #[], .func (Fn.func 50) #[.agg #[.int .i64 s.mode, .int .i64 s.source, .bool s.hold, .int .i64 s.flags, .int .u64 s.epoch, .int .i64 a.source, .int .i64 a.mode, .bool a.free]] #[], .func (Fn.func 51) #[.agg #[.int .i64 s.mode, .int .i64 s.source, .bool s.hold, .int .i64 s.flags, .int .u64 s.epoch, .int .i64 a.source, .int .i64 a.mode, .bool a.free]] #[], .func (Fn.func 52) #[.agg #[.int .i64 s.mode, .int .i64 s.source, .bool s.hold, .int .i64 s.flags, .int .u64 s.epoch, .int .i64 a.source, .int .i64 a.mode, .bool a.free]] #[], .func (Fn.func 53) #[.agg #[.int .i64 s.mode, .int .i64 s.source, .bool s.hold, .int .i64 s.flags, .int .u64 s.epoch, .int .i64 a.source, .int .i64 a.mode, .bool a.free]] #[], .func (Fn.func 54) #[.agg #[.int .i64 s.mode, .int .i64 s.source, .bool s.hold, .int .i64 s.flags, .int .u64 s.epoch, .int .i64 a.source, .int .i64 a.mode, .bool a.free]] #[]] 113)) = W0 at *
  have HS := Lib.hid hS
  have HA := Lib.hid hA
  have HR := Lib.hid hR
  have HL := Lib.hid hL
  have HT0 := Lib.hid (HT.out.below hW0)
  have HB0 := Lib.hid hW0
  clear hS hA hR hL hW0 HT
  go_loopw [29] (fun i wr => ∃ k : Nat, k ≤ 7 ∧ i = .int .i64 k ∧ (∀ j, j < k → codeE s a j = 0) ∧ Below W0.heap.size W0 wr) (fun i _ => 7 - (intOf i).toNat)
  case atStart => exact ⟨0, by omega, rfl, fun j hj => by omega, Below.refl _ _⟩
  case round =>
    obtain ⟨k, hk, rfl, hall, hb⟩ := hrel
    have HALL := Lib.hid hall
    have HB := Lib.hid hb
    have rS := HS.out.bl hb
    have rA := HA.out.bl hb
    have rR := HR.out.bl hb
    have rL := HL.out.bl hb
    have HSr := Lib.hid rS
    have HAr := Lib.hid rA
    have HRr := Lib.hid rR
    clear hall
    by_cases hlt : k < 7
    · have HC := Lib.hid (HP.out k wr (HT0.out.below hb))
      clear hb
      have hcE : codeE s a k = 0 ∨ codeE s a k ≠ 0 := by omega
      rcases hcE with hz | hz
      · have HZ := Lib.hid hz
        have HC2 := HC.out
        rw [hz] at HC2
        have HC3 := Lib.hid HC2
        unfold mval at HC3
        clear HC2 hz
        rcases (show k = 0 ∨ k = 1 ∨ k = 2 ∨ k = 3 ∨ k = 4 ∨ k = 5 ∨ k = 6 by omega) with rfl | rfl | rfl | rfl | rfl | rfl | rfl
        · have c0 := rL.cell 0
          simp only [List.getElem?_toArray, List.getElem?_cons_succ, List.getElem?_cons_zero] at c0
          clear rL rS rA rR
          go_wp2_with fail
          refine HC3.out.mono ?_; rintro e w3 ⟨rfl, hb3⟩
          have HB3 := Lib.hid (bl HB.out hb3)
          clear hb3 c0
          go_wp2_with fail
          go_roundw
          case rel => exact ⟨1, by omega, by first | rfl | go_num, fun j hj => by
            rcases Nat.lt_succ_iff_lt_or_eq.1 hj with h1 | h1
            · exact HALL.out j h1
            · rw [h1]; exact HZ.out, HB3.out⟩
          case measure => simp [intOf]
        · have c0 := rL.cell 1
          simp only [List.getElem?_toArray, List.getElem?_cons_succ, List.getElem?_cons_zero] at c0
          clear rL rS rA rR
          go_wp2_with fail
          refine HC3.out.mono ?_; rintro e w3 ⟨rfl, hb3⟩
          have HB3 := Lib.hid (bl HB.out hb3)
          clear hb3 c0
          go_wp2_with fail
          go_roundw
          case rel => exact ⟨2, by omega, by first | rfl | go_num, fun j hj => by
            rcases Nat.lt_succ_iff_lt_or_eq.1 hj with h1 | h1
            · exact HALL.out j h1
            · rw [h1]; exact HZ.out, HB3.out⟩
          case measure => simp [intOf]
        · have c0 := rL.cell 2
          simp only [List.getElem?_toArray, List.getElem?_cons_succ, List.getElem?_cons_zero] at c0
          clear rL rS rA rR
          go_wp2_with fail
          refine HC3.out.mono ?_; rintro e w3 ⟨rfl, hb3⟩
          have HB3 := Lib.hid (bl HB.out hb3)
          clear hb3 c0
          go_wp2_with fail
          go_roundw
          case rel => exact ⟨3, by omega, by first | rfl | go_num, fun j hj => by
            rcases Nat.lt_succ_iff_lt_or_eq.1 hj with h1 | h1
            · exact HALL.out j h1
            · rw [h1]; exact HZ.out, HB3.out⟩
          case measure => simp [intOf]
        · have c0 := rL.cell 3
          simp only [List.getElem?_toArray, List.getElem?_cons_succ, List.getElem?_cons_zero] at c0
          clear rL rS rA rR
          go_wp2_with fail
          refine HC3.out.mono ?_; rintro e w3 ⟨rfl, hb3⟩
          have HB3 := Lib.hid (bl HB.out hb3)
          clear hb3 c0
          go_wp2_with fail
          go_roundw
          case rel => exact ⟨4, by omega, by first | rfl | go_num, fun j hj => by
            rcases Nat.lt_succ_iff_lt_or_eq.1 hj with h1 | h1
            · exact HALL.out j h1
            · rw [h1]; exact HZ.out, HB3.out⟩
          case measure => simp [intOf]
        · have c0 := rL.cell 4
          simp only [List.getElem?_toArray, List.getElem?_cons_succ, List.getElem?_cons_zero] at c0
          clear rL rS rA rR
          go_wp2_with fail
          refine HC3.out.mono ?_; rintro e w3 ⟨rfl, hb3⟩
          have HB3 := Lib.hid (bl HB.out hb3)
          clear hb3 c0
          go_wp2_with fail
          go_roundw
          case rel => exact ⟨5, by omega, by first | rfl | go_num, fun j hj => by
            rcases Nat.lt_succ_iff_lt_or_eq.1 hj with h1 | h1
            · exact HALL.out j h1
            · rw [h1]; exact HZ.out, HB3.out⟩
          case measure => simp [intOf]
        · have c0 := rL.cell 5
          simp only [List.getElem?_toArray, List.getElem?_cons_succ, List.getElem?_cons_zero] at c0
          clear rL rS rA rR
          go_wp2_with fail
          refine HC3.out.mono ?_; rintro e w3 ⟨rfl, hb3⟩
          have HB3 := Lib.hid (bl HB.out hb3)
          clear hb3 c0
          go_wp2_with fail
          go_roundw
          case rel => exact ⟨6, by omega, by first | rfl | go_num, fun j hj => by
            rcases Nat.lt_succ_iff_lt_or_eq.1 hj with h1 | h1
            · exact HALL.out j h1
            · rw [h1]; exact HZ.out, HB3.out⟩
          case measure => simp [intOf]
        · have c0 := rL.cell 6
          simp only [List.getElem?_toArray, List.getElem?_cons_succ, List.getElem?_cons_zero] at c0
          clear rL rS rA rR
          go_wp2_with fail
          refine HC3.out.mono ?_; rintro e w3 ⟨rfl, hb3⟩
          have HB3 := Lib.hid (bl HB.out hb3)
          clear hb3 c0
          go_wp2_with fail
          go_roundw
          case rel => exact ⟨7, by omega, by first | rfl | go_num, fun j hj => by
            rcases Nat.lt_succ_iff_lt_or_eq.1 hj with h1 | h1
            · exact HALL.out j h1
            · rw [h1]; exact HZ.out, HB3.out⟩
          case measure => simp [intOf]
      · have HD := Lib.hid (decide_at hlt HALL.out hz)
        have HDS := Lib.hid (show decideS s a = St.zero by unfold decideS; rw [decide_at hlt HALL.out hz, if_neg hz])
        have hz1 : (codeE s a k != 0) = true := by simpa using hz
        have HC3 := HC.out
        generalize codeE s a k = er at *
        have HC4 := Lib.hid HC3
        unfold mval at HC4
        clear HC3 hz HC
        rcases (show k = 0 ∨ k = 1 ∨ k = 2 ∨ k = 3 ∨ k = 4 ∨ k = 5 ∨ k = 6 by omega) with rfl | rfl | rfl | rfl | rfl | rfl | rfl
        · have c0 := rL.cell 0
          simp only [List.getElem?_toArray, List.getElem?_cons_succ, List.getElem?_cons_zero] at c0
          clear rL rS rA rR
          go_wp2_with fail
          refine HC4.out.mono ?_; rintro e w3 ⟨rfl, hb3⟩
          have HB3 := Lib.hid (bl HB.out hb3)
          have rR := HRr.out.bl hb3
          clear hb3 c0
          have z0 := rR.cell 0
          have z1 := rR.cell 1
          have z2 := rR.cell 2
          have z3 := rR.cell 3
          have z4 := rR.cell 4
          simp only [List.getElem?_toArray, List.getElem?_cons_succ, List.getElem?_cons_zero] at z0 z1 z2 z3 z4
          have f0 := rR.frozen 0
          have f1 := rR.frozen 1
          have f2 := rR.frozen 2
          have f3 := rR.frozen 3
          have f4 := rR.frozen 4
          clear rR
          go_wp2_with fail
          (try simp only [Exit.inBlock, Exit.then])
          refine bodyPost_ret (v := .tuple #[.agg #[.int .i64 0, .int .i64 0, .bool false, .int .i64 0, .int .u64 0], .int .i64 er]) ?_ rfl ⟨by rw [HD.out, HDS.out]; rfl, below_set5 (bl0 HB0.out HB3.out) (by omega)⟩
          rw [results_cell_tmp rfl]; go_simp
        · have c0 := rL.cell 1
          simp only [List.getElem?_toArray, List.getElem?_cons_succ, List.getElem?_cons_zero] at c0
          clear rL rS rA rR
          go_wp2_with fail
          refine HC4.out.mono ?_; rintro e w3 ⟨rfl, hb3⟩
          have HB3 := Lib.hid (bl HB.out hb3)
          have rR := HRr.out.bl hb3
          clear hb3 c0
          have z0 := rR.cell 0
          have z1 := rR.cell 1
          have z2 := rR.cell 2
          have z3 := rR.cell 3
          have z4 := rR.cell 4
          simp only [List.getElem?_toArray, List.getElem?_cons_succ, List.getElem?_cons_zero] at z0 z1 z2 z3 z4
          have f0 := rR.frozen 0
          have f1 := rR.frozen 1
          have f2 := rR.frozen 2
          have f3 := rR.frozen 3
          have f4 := rR.frozen 4
          clear rR
          go_wp2_with fail
          (try simp only [Exit.inBlock, Exit.then])
          refine bodyPost_ret (v := .tuple #[.agg #[.int .i64 0, .int .i64 0, .bool false, .int .i64 0, .int .u64 0], .int .i64 er]) ?_ rfl ⟨by rw [HD.out, HDS.out]; rfl, below_set5 (bl0 HB0.out HB3.out) (by omega)⟩
          rw [results_cell_tmp rfl]; go_simp
        · have c0 := rL.cell 2
          simp only [List.getElem?_toArray, List.getElem?_cons_succ, List.getElem?_cons_zero] at c0
          clear rL rS rA rR
          go_wp2_with fail
          refine HC4.out.mono ?_; rintro e w3 ⟨rfl, hb3⟩
          have HB3 := Lib.hid (bl HB.out hb3)
          have rR := HRr.out.bl hb3
          clear hb3 c0
          have z0 := rR.cell 0
          have z1 := rR.cell 1
          have z2 := rR.cell 2
          have z3 := rR.cell 3
          have z4 := rR.cell 4
          simp only [List.getElem?_toArray, List.getElem?_cons_succ, List.getElem?_cons_zero] at z0 z1 z2 z3 z4
          have f0 := rR.frozen 0
          have f1 := rR.frozen 1
          have f2 := rR.frozen 2
          have f3 := rR.frozen 3
          have f4 := rR.frozen 4
          clear rR
          go_wp2_with fail
          (try simp only [Exit.inBlock, Exit.then])
          refine bodyPost_ret (v := .tuple #[.agg #[.int .i64 0, .int .i64 0, .bool false, .int .i64 0, .int .u64 0], .int .i64 er]) ?_ rfl ⟨by rw [HD.out, HDS.out]; rfl, below_set5 (bl0 HB0.out HB3.out) (by omega)⟩
          rw [results_cell_tmp rfl]; go_simp
        · have c0 := rL.cell 3
          simp only [List.getElem?_toArray, List.getElem?_cons_succ, List.getElem?_cons_zero] at c0
          clear rL rS rA rR
          go_wp2_with fail
          refine HC4.out.mono ?_; rintro e w3 ⟨rfl, hb3⟩
          have HB3 := Lib.hid (bl HB.out hb3)
          have rR := HRr.out.bl hb3
          clear hb3 c0
          have z0 := rR.cell 0
          have z1 := rR.cell 1
          have z2 := rR.cell 2
          have z3 := rR.cell 3
          have z4 := rR.cell 4
          simp only [List.getElem?_toArray, List.getElem?_cons_succ, List.getElem?_cons_zero] at z0 z1 z2 z3 z4
          have f0 := rR.frozen 0
          have f1 := rR.frozen 1
          have f2 := rR.frozen 2
          have f3 := rR.frozen 3
          have f4 := rR.frozen 4
          clear rR
          go_wp2_with fail
          (try simp only [Exit.inBlock, Exit.then])
          refine bodyPost_ret (v := .tuple #[.agg #[.int .i64 0, .int .i64 0, .bool false, .int .i64 0, .int .u64 0], .int .i64 er]) ?_ rfl ⟨by rw [HD.out, HDS.out]; rfl, below_set5 (bl0 HB0.out HB3.out) (by omega)⟩
          rw [results_cell_tmp rfl]; go_simp
        · have c0 := rL.cell 4
          simp only [List.getElem?_toArray, List.getElem?_cons_succ, List.getElem?_cons_zero] at c0
          clear rL rS rA rR
          go_wp2_with fail
          refine HC4.out.mono ?_; rintro e w3 ⟨rfl, hb3⟩
          have HB3 := Lib.hid (bl HB.out hb3)
          have rR := HRr.out.bl hb3
          clear hb3 c0
          have z0 := rR.cell 0
          have z1 := rR.cell 1
          have z2 := rR.cell 2
          have z3 := rR.cell 3
          have z4 := rR.cell 4
          simp only [List.getElem?_toArray, List.getElem?_cons_succ, List.getElem?_cons_zero] at z0 z1 z2 z3 z4
          have f0 := rR.frozen 0
          have f1 := rR.frozen 1
          have f2 := rR.frozen 2
          have f3 := rR.frozen 3
          have f4 := rR.frozen 4
          clear rR
          go_wp2_with fail
          (try simp only [Exit.inBlock, Exit.then])
          refine bodyPost_ret (v := .tuple #[.agg #[.int .i64 0, .int .i64 0, .bool false, .int .i64 0, .int .u64 0], .int .i64 er]) ?_ rfl ⟨by rw [HD.out, HDS.out]; rfl, below_set5 (bl0 HB0.out HB3.out) (by omega)⟩
          rw [results_cell_tmp rfl]; go_simp
        · have c0 := rL.cell 5
          simp only [List.getElem?_toArray, List.getElem?_cons_succ, List.getElem?_cons_zero] at c0
          clear rL rS rA rR
          go_wp2_with fail
          refine HC4.out.mono ?_; rintro e w3 ⟨rfl, hb3⟩
          have HB3 := Lib.hid (bl HB.out hb3)
          have rR := HRr.out.bl hb3
          clear hb3 c0
          have z0 := rR.cell 0
          have z1 := rR.cell 1
          have z2 := rR.cell 2
          have z3 := rR.cell 3
          have z4 := rR.cell 4
          simp only [List.getElem?_toArray, List.getElem?_cons_succ, List.getElem?_cons_zero] at z0 z1 z2 z3 z4
          have f0 := rR.frozen 0
          have f1 := rR.frozen 1
          have f2 := rR.frozen 2
          have f3 := rR.frozen 3
          have f4 := rR.frozen 4
          clear rR
          go_wp2_with fail
          (try simp only [Exit.inBlock, Exit.then])
          refine bodyPost_ret (v := .tuple #[.agg #[.int .i64 0, .int .i64 0, .bool false, .int .i64 0, .int .u64 0], .int .i64 er]) ?_ rfl ⟨by rw [HD.out, HDS.out]; rfl, below_set5 (bl0 HB0.out HB3.out) (by omega)⟩
          rw [results_cell_tmp rfl]; go_simp
        · have c0 := rL.cell 6
          simp only [List.getElem?_toArray, List.getElem?_cons_succ, List.getElem?_cons_zero] at c0
          clear rL rS rA rR
          go_wp2_with fail
          refine HC4.out.mono ?_; rintro e w3 ⟨rfl, hb3⟩
          have HB3 := Lib.hid (bl HB.out hb3)
          have rR := HRr.out.bl hb3
          clear hb3 c0
          have z0 := rR.cell 0
          have z1 := rR.cell 1
          have z2 := rR.cell 2
          have z3 := rR.cell 3
          have z4 := rR.cell 4
          simp only [List.getElem?_toArray, List.getElem?_cons_succ, List.getElem?_cons_zero] at z0 z1 z2 z3 z4
          have f0 := rR.frozen 0
          have f1 := rR.frozen 1
          have f2 := rR.frozen 2
          have f3 := rR.frozen 3
          have f4 := rR.frozen 4
          clear rR
          go_wp2_with fail
          (try simp only [Exit.inBlock, Exit.then])
          refine bodyPost_ret (v := .tuple #[.agg #[.int .i64 0, .int .i64 0, .bool false, .int .i64 0, .int .u64 0], .int .i64 er]) ?_ rfl ⟨by rw [HD.out, HDS.out]; rfl, below_set5 (bl0 HB0.out HB3.out) (by omega)⟩
          rw [results_cell_tmp rfl]; go_simp
    · obtain rfl : k = 7 := by omega
      obtain ⟨hd0, hep, hm0, hain⟩ := decide_none HALL.out
      have HD := Lib.hid hd0
      have HDS := Lib.hid (show decideS s a = nextS s a by unfold decideS; rw [hd0, if_pos rfl])
      have BW := Lib.hid (bl0 HB0.out HB.out)
      clear hd0 hm0 hain hlt HP rL hb HL HS HA HR HT0
      have x0 := rS.cell 0
      have x1 := rS.cell 1
      have x2 := rS.cell 2
      have x3 := rS.cell 3
      have x4 := rS.cell 4
      simp only [List.getElem?_toArray, List.getElem?_cons_succ, List.getElem?_cons_zero] at x0 x1 x2 x3 x4
      have y0 := rA.cell 0
      have y1 := rA.cell 1
      have y2 := rA.cell 2
      simp only [List.getElem?_toArray, List.getElem?_cons_succ, List.getElem?_cons_zero] at y0 y1 y2
      have z0 := rR.cell 0
      have z1 := rR.cell 1
      have z2 := rR.cell 2
      have z3 := rR.cell 3
      have z4 := rR.cell 4
      simp only [List.getElem?_toArray, List.getElem?_cons_succ, List.getElem?_cons_zero] at z0 z1 z2 z3 z4
      have f0 := rS.frozen 0
      have g0 := rR.frozen 0
      have f1 := rS.frozen 1
      have g1 := rR.frozen 1
      have f2 := rS.frozen 2
      have g2 := rR.frozen 2
      have f3 := rS.frozen 3
      have g3 := rR.frozen 3
      have f4 := rS.frozen 4
      have g4 := rR.frozen 4
      clear rS rA rR
      have n1 : ¬ w.heap.size = w.heap.size + 1 := by omega
      have n2 : ¬ w.heap.size = w.heap.size + 1 + 1 := by omega
      have n3 : ¬ w.heap.size + 1 = w.heap.size := by omega
      have n4 : ¬ w.heap.size + 1 + 1 = w.heap.size := by omega
      have e2 : s.epoch + 1 ≤ 4503599627370495 := by omega
      have e3 : (a.free == a.free) = true := by simp
      have HW : (a.source == 3) = true ∧ (a.mode == 7) = true ∧ nextS s a = ⟨a.mode, 3, true, s.flags, s.epoch + 1⟩ ∨
          ((a.source == 3) = true ∧ (a.mode == 7) = false ∨ (a.source == 3) = false) ∧ (a.free = true ∧ nextS s a = ⟨a.mode, 0, false, s.flags, s.epoch + 1⟩ ∨ a.free = false ∧ nextS s a = ⟨a.mode, a.source, s.hold, s.flags, s.epoch + 1⟩) := by
        unfold nextS
        by_cases h1 : a.source = 3
        · by_cases h2 : a.mode = 7
          · left; simp [h1, h2]
          · right
            by_cases h3 : a.free = true <;> simp [h1, h2, h3]
        · right
          by_cases h3 : a.free = true <;> simp [h1, h3]
      rcases HW with ⟨q1, q2, hN⟩ | ⟨⟨q1, q2⟩ | q1, ⟨q3, hN⟩ | ⟨q3, hN⟩⟩
      · have HN := Lib.hid hN
        clear hN
        go_wp2_with fail
        (try simp only [Exit.inBlock, Exit.then])
        refine bodyPost_ret (v := .tuple #[.agg #[.int .i64 a.mode, .int .i64 3, .bool true, .int .i64 s.flags, .int .u64 (s.epoch + 1)], .int .i64 0]) ?_ rfl ⟨by rw [HD.out, HDS.out, HN.out], ?_⟩
        · rw [results_cell_tmp rfl]; go_simp
        · refine below_set5 ?_ (by omega)
          repeat (first | exact BW.out | refine Below.setCell ?_ (by simp) _)
      · have HN := Lib.hid hN
        clear hN
        go_wp2_with fail
        (try simp only [Exit.inBlock, Exit.then])
        refine bodyPost_ret (v := .tuple #[.agg #[.int .i64 a.mode, .int .i64 0, .bool false, .int .i64 s.flags, .int .u64 (s.epoch + 1)], .int .i64 0]) ?_ rfl ⟨by rw [HD.out, HDS.out, HN.out], ?_⟩
        · rw [results_cell_tmp rfl]; go_simp
        · refine below_set5 ?_ (by omega)
          repeat (first | exact BW.out | refine Below.setCell ?_ (by simp) _)
      · have HN := Lib.hid hN
        clear hN
        go_wp2_with fail
        (try simp only [Exit.inBlock, Exit.then])
        refine bodyPost_ret (v := .tuple #[.agg #[.int .i64 a.mode, .int .i64 a.source, .bool s.hold, .int .i64 s.flags, .int .u64 (s.epoch + 1)], .int .i64 0]) ?_ rfl ⟨by rw [HD.out, HDS.out, HN.out], ?_⟩
        · rw [results_cell_tmp rfl]; go_simp
        · refine below_set5 ?_ (by omega)
          repeat (first | exact BW.out | refine Below.setCell ?_ (by simp) _)
      · have HN := Lib.hid hN
        clear hN
        go_wp2_with fail
        (try simp only [Exit.inBlock, Exit.then])
        refine bodyPost_ret (v := .tuple #[.agg #[.int .i64 a.mode, .int .i64 0, .bool false, .int .i64 s.flags, .int .u64 (s.epoch + 1)], .int .i64 0]) ?_ rfl ⟨by rw [HD.out, HDS.out, HN.out], ?_⟩
        · rw [results_cell_tmp rfl]; go_simp
        · refine below_set5 ?_ (by omega)
          repeat (first | exact BW.out | refine Below.setCell ?_ (by simp) _)
      · have HN := Lib.hid hN
        clear hN
        go_wp2_with fail
        (try simp only [Exit.inBlock, Exit.then])
        refine bodyPost_ret (v := .tuple #[.agg #[.int .i64 a.mode, .int .i64 a.source, .bool s.hold, .int .i64 s.flags, .int .u64 (s.epoch + 1)], .int .i64 0]) ?_ rfl ⟨by rw [HD.out, HDS.out, HN.out], ?_⟩
        · rw [results_cell_tmp rfl]; go_simp
        · refine below_set5 ?_ (by omega)
          repeat (first | exact BW.out | refine Below.setCell ?_ (by simp) _)
end Go.Proofs.YtkmlikohgilnbaaDoor.Reg
