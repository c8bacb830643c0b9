/-
  Modes: the reference's table, and Find. No condition. By an AI agent.
-/
import Derived.Test.YtkmlikohgilnbaaDoorWays14
import Derived.Test.YtkmlikohgilnbaaDoorRun
namespace Go.Proofs.YtkmlikohgilnbaaDoor.Modes
set_option linter.unusedVariables false
set_option linter.unusedSimpArgs false
open Go Go.RowKit Go.Proofs.YtkmlikohgilnbaaDoor.Base Go.Deep

def flat : List Int := [0, 1, 5, 16, 1, 0, 0, 16, 1, 2, 13, 16, 1, 7, 0, 0, 2, 3, 17, 0, 2, 6, 0, 0, 2, 7, 0, 0, 3, 4, 23, 0, 3, 5, 18, 0, 3, 6, 32, 0, 3, 7, 0, 0, 4, 3, 17, 0, 4, 5, 18, 0, 4, 6, 32, 0, 4, 7, 0, 0, 5, 3, 23, 0, 5, 6, 32, 0, 5, 7, 0, 0, 6, 0, 0, 16, 6, 3, 21, 32, 6, 7, 0, 0, 7, 0, 0, 16, 7, 3, 31, 0, 7, 6, 0, 0]
set_option maxRecDepth 100000 in
theorem Rows_any (w : World) :
    Calls Tryd.prog 72 #[] w fun e w' => e = .returned (.slice (some ⟨w.heap.size, 0, none⟩) 24 24) ∧ w' = w.alloc (.cells (flat.map (Value.int .i64)).toArray 127) :=
  calls_of_runFn Tryd.func72 (by kernel_rfl)

/-- the table, as it lies in block g -/
def Flat (w : World) (g : Nat) : Prop := ∀ i : Nat, i < 96 → w.cell? ⟨g, i, none⟩ = some (.int .i64 (nth flat i))
theorem Flat.new (w : World) : Flat (w.alloc (.cells (flat.map (Value.int .i64)).toArray 127)) w.heap.size := fun i hi => by
  rw [(Blk.new w _ _).cell i]
  have hl : i < flat.length := hi
  simp [nth, List.getD_eq_getElem?_getD, List.getElem?_eq_getElem hl]
theorem Flat.below {w w' : World} {g : Nat} (h : Flat w g) (hb : Below w.heap.size w w') : Flat w' g := fun i hi =>
  (hb.cell (p := ⟨g, i, none⟩) (lt_of_cell (a := ⟨g, i, none⟩) (h i hi))).trans (h i hi)
def hitB (a b : Int) (i : Nat) : Bool := nth flat (i * 4) == a && nth flat (i * 4 + 1) == b
def findF (a b : Int) : Option Nat := (List.range 24).find? (hitB a b)
/-- what Find tells -/
def findV (a b : Int) : Value := match findF a b with
  | some i => .tuple #[.agg #[.int .i64 (nth flat (i * 4)), .int .i64 (nth flat (i * 4 + 1)), .int .i64 (nth flat (i * 4 + 2)), .int .i64 (nth flat (i * 4 + 3))], .bool true]
  | none => .tuple #[.agg #[.int .i64 0, .int .i64 0, .int .i64 0, .int .i64 0], .bool false]
theorem findF_at {a b : Int} {k : Nat} (hk : k < 24) (hh : hitB a b k = true) (hall : ∀ j, j < k → hitB a b j = false) : findF a b = some k := by
  unfold findF
  rw [List.find?_range_eq_some]
  exact ⟨hh, by simpa using hk, fun j hj => by simpa using hall j hj⟩
theorem findF_none {a b : Int} (hall : ∀ j, j < 24 → hitB a b j = false) : findF a b = none := by
  unfold findF
  rw [List.find?_eq_none]
  intro j hj
  simpa using hall j (by simpa using hj)

set_option maxHeartbeats 1000000 in
theorem Find_any (a b : Int) (w : World) :
    Calls Tryd.prog 68 #[.int .i64 a, .int .i64 b] w fun e w' => e = .returned (findV a b) ∧ Below w.heap.size w w' := by
  go_enter Tryd.func68, Tryd.ntmps68
  go_wp2_with fail
  refine (Rows_any _).mono ?_
  rintro e w' ⟨rfl, hw⟩
  have hF := Flat.new (w.alloc (.cells #[.int .i64 0, .int .i64 0, .int .i64 0, .int .i64 0] 127))
  have hB : Below w.heap.size w w' := by
    rw [hw]; exact ((Below.refl _ _).alloc (Nat.le_refl _) _).alloc (by simp) _
  have hR : Blk w' w.heap.size 127 #[.int .i64 0, .int .i64 0, .int .i64 0, .int .i64 0] := by
    rw [hw]; exact (Blk.new _ _ _).alloc _
  rw [← hw] at hF
  clear hw
  simp only [World.size_alloc] at hF
  have HR := Lib.hid hR
  clear hR
  go_wp2_with fail
  go_loop [7] (fun i => ∃ k : Nat, k ≤ 24 ∧ i = .int .i64 k ∧ ∀ j, j < k → hitB a b j = false) (fun i => 24 - (intOf i).toNat)
  case atStart => exact ⟨0, Nat.zero_le _, rfl, fun j hj => by omega⟩
  case round =>
    obtain ⟨k, hk, rfl, hall⟩ := hrel
    have HA := Lib.hid hall
    clear hall
    have HF := Lib.hid hF
    clear hF
    by_cases hlt : k < 24
    · have c0 := HF.out (k * 4) (by omega)
      have c1 := HF.out (k * 4 + 1) (by omega)
      have c2 := HF.out (k * 4 + 2) (by omega)
      have c3 := HF.out (k * 4 + 3) (by omega)
      have hRs : Blk w' w.heap.size 127 #[.int .i64 0, .int .i64 0, .int .i64 0, .int .i64 0] := HR.out
      unfold Blk at hRs
      cases h1 : (nth flat (k * 4) == a) with
      | false =>
        have hh := Lib.hid (show hitB a b k = false by unfold hitB; rw [h1]; rfl)
        go_wp2_with fail
        go_round
        case rel => exact ⟨k + 1, by omega, by go_num, fun j hj => by
          rcases Nat.lt_succ_iff_lt_or_eq.1 hj with h1 | h1
          · exact HA.out j h1
          · rw [h1]; exact hh.out⟩
        case measure => simp [intOf]; omega
      | true =>
        cases h2 : (nth flat (k * 4 + 1) == b) with
        | false =>
          have hh := Lib.hid (show hitB a b k = false by unfold hitB; rw [h1, h2]; rfl)
          go_wp2_with fail
          go_round
          case rel => exact ⟨k + 1, by omega, by go_num, fun j hj => by
            rcases Nat.lt_succ_iff_lt_or_eq.1 hj with h1 | h1
            · exact HA.out j h1
            · rw [h1]; exact hh.out⟩
          case measure => simp [intOf]; omega
        | true =>
          have hh := Lib.hid (show findF a b = some k from findF_at hlt (by unfold hitB; rw [h1, h2]; rfl) HA.out)
          go_wp2_with (refine wpList_store_row rfl 127 (.tmp 4) (.tmp 34) rfl w.heap.size _ rfl rfl 127 _ hRs ?_ ?_ ?_ ?_; kernel_rfl; rfl; simp [Value.oneCell'])
          refine bodyPost_ret (res_cell_tmp (fn := Tryd.f68) rfl _ _ w.heap.size _ _ _ _ rfl (setRow_heap _ _ _ _ _ _ HR.out) Tryd.underlying127 rfl (by kernel_rfl)) rfl ⟨?_, ?_⟩
          · unfold findV; rw [hh.out]; rfl
          · exact below_setRow hB (Nat.le_refl _) _
    · have hh := Lib.hid (show findF a b = none from findF_none (fun j hj => HA.out j (by omega)))
      have hRs : Blk w' w.heap.size 127 #[.int .i64 0, .int .i64 0, .int .i64 0, .int .i64 0] := HR.out
      unfold Blk at hRs
      go_wp2_with (refine wpList_store_row rfl 127 (.tmp 4) (.tmp 35) rfl w.heap.size _ rfl rfl 127 _ hRs ?_ ?_ ?_ ?_; kernel_rfl; rfl; simp [Value.oneCell'])
      refine bodyPost_ret (res_cell_tmp (fn := Tryd.f68) rfl _ _ w.heap.size _ _ _ _ rfl (setRow_heap _ _ _ _ _ _ HR.out) Tryd.underlying127 rfl (by kernel_rfl)) rfl ⟨?_, ?_⟩
      · unfold findV; rw [hh.out]; rfl
      · exact below_setRow hB (Nat.le_refl _) _

/-- what Find and the code's table say is the same -/
theorem find_way_in : ∀ i j : Fin 8, wayB i.val j.val = (findF i.val j.val).isSome ∧ (∀ k, findF i.val j.val = some k → needZ i.val j.val = nth flat (k * 4 + 2) ∧ notZ i.val j.val = nth flat (k * 4 + 3)) ∧ (findF i.val j.val = none → needZ i.val j.val = 0 ∧ notZ i.val j.val = 0) := by
  decide +kernel
theorem flat_in : ∀ i : Fin 24, 0 ≤ nth flat (i.val * 4) ∧ nth flat (i.val * 4) < 8 ∧ 0 ≤ nth flat (i.val * 4 + 1) ∧ nth flat (i.val * 4 + 1) < 8 := by decide +kernel
theorem find_way (a b : Int) : wayB a b = (findF a b).isSome ∧ (∀ k, findF a b = some k → needZ a b = nth flat (k * 4 + 2) ∧ notZ a b = nth flat (k * 4 + 3)) ∧ (findF a b = none → needZ a b = 0 ∧ notZ a b = 0) := by
  by_cases hr : 0 ≤ a ∧ a < 8 ∧ 0 ≤ b ∧ b < 8
  · obtain ⟨a0, a1, b0, b1⟩ := hr
    obtain ⟨i, rfl⟩ := Int.eq_ofNat_of_zero_le a0
    obtain ⟨j, rfl⟩ := Int.eq_ofNat_of_zero_le b0
    exact find_way_in ⟨i, by omega⟩ ⟨j, by omega⟩
  · have hn : findF a b = none := by
      refine findF_none fun j hj => ?_
      have hf := flat_in ⟨j, hj⟩
      unfold hitB
      rw [Bool.and_eq_false_iff]
      simp only [beq_eq_false_iff_ne]
      simp only at hf
      omega
    have hz : wayZ a b = 0 := wayZ_out hr
    rw [hn]
    refine ⟨by simp [wayB, hz], fun k hk => (by cases hk), fun _ => ?_⟩
    unfold needZ notZ
    rw [hz]
    decide +kernel
end Go.Proofs.YtkmlikohgilnbaaDoor.Modes
