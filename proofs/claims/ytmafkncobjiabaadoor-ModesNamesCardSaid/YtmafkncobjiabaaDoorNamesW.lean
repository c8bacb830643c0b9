/-
  ModesNames: the words of modes, and the law's walk. Condition: the table of ways lies in block 0. By an AI agent.
-/
import Derived.Test.YtmafkncobjiabaaDoorModesF
import Derived.WalkLawsBesides
namespace Go.Proofs.YtmafkncobjiabaaDoor.Modes
set_option linter.unusedVariables false
set_option linter.unusedSimpArgs false
open Go Go.RowKit Go.Proofs.YtmafkncobjiabaaDoor.Base Go.Deep

def names : List ByteArray := [⟨#[115, 116, 97, 110, 100, 98, 121]⟩, ⟨#[97, 114, 109, 101, 100]⟩, ⟨#[116, 97, 107, 101, 111, 102, 102]⟩, ⟨#[104, 111, 118, 101, 114]⟩, ⟨#[109, 105, 115, 115, 105, 111, 110]⟩, ⟨#[114, 101, 116, 117, 114, 110]⟩, ⟨#[108, 97, 110, 100]⟩, ⟨#[102, 97, 105, 108, 115, 97, 102, 101]⟩]
def nmN (n : Nat) : ByteArray := names.getD n ⟨#[]⟩
def nmZ (n : Int) : ByteArray := if 0 ≤ n ∧ n < 8 then nmN n.toNat else ⟨#[]⟩

theorem Name_in (n : Nat) (hn : n < 8) (w : World) : Calls Tryd.prog 21 #[.int .i64 n] w fun e w' => e = .returned (.string (nmN n)) ∧ w = w' := by
  refine Calls.mono (R := fun e w' => e = .returned (.string (nmN n)) ∧ w' = w) ?_ (fun e w' h => ⟨h.1, h.2.symm⟩)
  match n, hn with
  | 0, _ => exact calls_of_runFn Tryd.func21 (by kernel_rfl)
  | 1, _ => exact calls_of_runFn Tryd.func21 (by kernel_rfl)
  | 2, _ => exact calls_of_runFn Tryd.func21 (by kernel_rfl)
  | 3, _ => exact calls_of_runFn Tryd.func21 (by kernel_rfl)
  | 4, _ => exact calls_of_runFn Tryd.func21 (by kernel_rfl)
  | 5, _ => exact calls_of_runFn Tryd.func21 (by kernel_rfl)
  | 6, _ => exact calls_of_runFn Tryd.func21 (by kernel_rfl)
  | 7, _ => exact calls_of_runFn Tryd.func21 (by kernel_rfl)
theorem Name_any (n : Int) (w : World) : Calls Tryd.prog 21 #[.int .i64 n] w fun e w' => e = .returned (.string (nmZ n)) ∧ w = w' := by
  by_cases h : 0 ≤ n ∧ n < 8
  · obtain ⟨k, rfl⟩ := Int.eq_ofNat_of_zero_le h.1
    rw [nmZ, if_pos h, Int.toNat_natCast]
    exact Name_in k (by omega) w
  · have hz := Lib.hid (show nmZ n = ⟨#[]⟩ by rw [nmZ, if_neg h])
    have h0 : (n == 0) = false := by simp; omega
    have h1 : (n == 1) = false := by simp; omega
    have h2 : (n == 2) = false := by simp; omega
    have h3 : (n == 3) = false := by simp; omega
    have h4 : (n == 4) = false := by simp; omega
    have h5 : (n == 5) = false := by simp; omega
    have h6 : (n == 6) = false := by simp; omega
    have h7 : (n == 7) = false := by simp; omega
    clear h
    go_enter Tryd.func21, Tryd.ntmps21
    go_wp2_with fail
    go_ret
    rw [hz.out]
    exact ⟨rfl, rfl⟩

def ofF (s : ByteArray) : Option Nat := (List.range 8).find? fun i => (nmN i).toList == s.toList
def ofV (s : ByteArray) : Int × Int := match ofF s with
  | some i => (i, 0)
  | none => (0, 13)
theorem ofV_at {s : ByteArray} {k : Nat} (hk : k < 8) (hh : ((nmN k).toList == s.toList) = true) (hall : ∀ j, j < k → ((nmN j).toList == s.toList) = false) : ofV s = ((k : Int), 0) := by
  have : ofF s = some k := by
    unfold ofF
    rw [List.find?_range_eq_some]
    exact ⟨hh, by simpa using hk, fun j hj => by rw [hall j hj]; rfl⟩
  simp [ofV, this]
theorem ofV_none {s : ByteArray} (hall : ∀ j, j < 8 → ((nmN j).toList == s.toList) = false) : ofV s = (0, 13) := by
  have : ofF s = none := by
    unfold ofF
    rw [List.find?_eq_none]
    intro j hj
    rw [hall j (by simpa using hj)]
    simp
  simp [ofV, this]
theorem ofV_name : ∀ n : Fin 8, ofV (nmN n.val) = ((n.val : Int), 0) := by decide +kernel
theorem ofV_empty : ofV ⟨#[]⟩ = (0, 13) := by decide +kernel
theorem nmN_full : ∀ n : Fin 8, ((nmN n.val).toList == []) = false ∧ (nmN n.val).toList.isEmpty = false ∧ (nmN n.val).size ≤ 100 := by decide +kernel

theorem Of_any (s : ByteArray) (w : World) : Calls Tryd.prog 19 #[.string s] w fun e w' => e = .returned (.tuple #[.int .i64 (ofV s).1, .int .i64 (ofV s).2]) ∧ w = w' := by
  go_enter Tryd.func19, Tryd.ntmps19
  go_wp2_with fail
  go_loop [5] (fun i => ∃ k : Nat, k ≤ 8 ∧ i = .int .i64 k ∧ ∀ j, j < k → ((nmN j).toList == s.toList) = false) (fun i => 8 - (intOf i).toNat)
  case atStart => exact ⟨0, Nat.zero_le _, rfl, fun j hj => by omega⟩
  case round =>
    obtain ⟨k, hk, rfl, hall⟩ := hrel
    have HA := Lib.hid hall
    clear hall
    by_cases hlt : k < 8
    · go_wp2_with fail
      refine (Name_in _ hlt _).mono ?_; rintro e w' ⟨rfl, rfl⟩
      cases hh : ((nmN k).toList == s.toList) with
      | true =>
        have hp := Lib.hid (ofV_at hlt hh HA.out)
        generalize nmN k = nm at *
        go_wp2_with fail
        go_ret2
        rw [hp.out]
        exact ⟨rfl, rfl⟩
      | false =>
        have hp := Lib.hid hh
        generalize hnm : nmN k = nm at *
        have HN := Lib.hid hnm
        clear hnm
        go_wp2_with fail
        go_round
        case rel => exact ⟨k + 1, by omega, by go_num, fun j hj => by
          rcases Nat.lt_succ_iff_lt_or_eq.1 hj with h1 | h1
          · exact HA.out j h1
          · rw [h1, HN.out]; exact hp.out⟩
        case measure => simp [intOf]; omega
    · have hp := Lib.hid (ofV_none (s := s) (fun j hj => HA.out j (by omega)))
      go_wp2_with fail
      go_ret2
      rw [hp.out]
      exact ⟨rfl, rfl⟩

theorem Names_any (w : World) : Calls Tryd.prog 18 #[] w fun e w' => e = .returned (.slice (some ⟨w.heap.size, 0, none⟩) 8 8) ∧ w' = w.alloc (.cells (names.map Value.string).toArray 9) :=
  calls_of_runFn Tryd.func18 (by kernel_rfl)
def NamesAt (w : World) (g : Nat) : Prop := ∀ i : Nat, i < 8 → w.cell? ⟨g, i, none⟩ = some (.string (nmN i))
theorem NamesAt.new (w : World) : NamesAt (w.alloc (.cells (names.map Value.string).toArray 9)) w.heap.size := fun i hi => by
  rw [(Blk.new w _ _).cell i]
  have hl : i < names.length := hi
  simp [nmN, List.getD_eq_getElem?_getD, List.getElem?_eq_getElem hl]

theorem refOf_any (s : ByteArray) (w : World) : Calls Tryd.prog 20 #[.string s] w fun e w' => e = .returned (.tuple #[.int .i64 (ofV s).1, .int .i64 (ofV s).2]) ∧ Below w.heap.size w w' := by
  go_enter Tryd.func20, Tryd.ntmps20
  go_wp2_with fail
  refine (Names_any _).mono ?_; rintro e w' ⟨rfl, hw⟩
  have hF := NamesAt.new w
  have hB : Below w.heap.size w w' := by
    rw [hw]; exact (Below.refl _ _).alloc (Nat.le_refl _) _
  rw [← hw] at hF
  clear hw
  have HF := Lib.hid hF
  clear hF
  go_wp2_with fail
  go_loop [5] (fun i => ∃ k : Nat, k ≤ 8 ∧ i = .int .i64 k ∧ ∀ j, j < k → ((nmN j).toList == s.toList) = false) (fun i => 8 - (intOf i).toNat)
  case atStart => exact ⟨0, Nat.zero_le _, rfl, fun j hj => by omega⟩
  case round =>
    obtain ⟨k, hk, rfl, hall⟩ := hrel
    have HA := Lib.hid hall
    clear hall
    by_cases hlt : k < 8
    · have c0 := HF.out k hlt
      cases hh : ((nmN k).toList == s.toList) with
      | true =>
        have hp := Lib.hid (ofV_at hlt hh HA.out)
        generalize nmN k = nm at *
        go_wp2_with fail
        go_ret2
        rw [hp.out]
        exact ⟨rfl, hB⟩
      | false =>
        have hp := Lib.hid hh
        generalize hnm : nmN k = nm at *
        have HN := Lib.hid hnm
        clear hnm
        go_wp2_with fail
        go_round
        case rel => exact ⟨k + 1, by omega, by go_num, fun j hj => by
          rcases Nat.lt_succ_iff_lt_or_eq.1 hj with h1 | h1
          · exact HA.out j h1
          · rw [h1, HN.out]; exact hp.out⟩
        case measure => simp [intOf]; omega
    · have hp := Lib.hid (ofV_none (s := s) (fun j hj => HA.out j (by omega)))
      go_wp2_with fail
      go_ret2
      rw [hp.out]
      exact ⟨rfl, hB⟩

set_option maxHeartbeats 2000000 in
theorem ModesNames_walk (n : Int) (bn : -9223372036854775808 ≤ n ∧ n ≤ 9223372036854775807) (s : ByteArray) (hs : s.size ≤ maxLen) (w : World) (ht : Tab w) :
    Calls Tryd.prog 8 #[.int .i64 n, .string s] w fun e w' => e = .returned (.bool true) ∧ Below w.heap.size w w' := by
  have HT := Lib.hid ht
  clear ht bn
  unfold maxLen at hs
  by_cases hlen : s.size ≤ 100
  · have hov : ∃ x y : Int, ofV s = (x, y) := ⟨_, _, rfl⟩
    obtain ⟨x, y, hov⟩ := hov
    have HO := Lib.hid hov
    clear hov
    by_cases hn : 0 ≤ n ∧ n < 8
    · obtain ⟨n0, n1⟩ := hn
      obtain ⟨n, rfl⟩ := Int.eq_ofNat_of_zero_le n0
      have hn8 : n < 8 := by omega
      obtain ⟨hf1, hf2, _⟩ := nmN_full ⟨n, hn8⟩
      have HB := Lib.hid (ofV_name ⟨n, hn8⟩)
      simp only at hf1 hf2
      go_enter Tryd.func8, Tryd.ntmps8
      go_wp2_with fail
      refine (Names_any _).mono ?_; rintro e w' ⟨rfl, hw⟩
      have hF := NamesAt.new w
      have hB : Below w.heap.size w w' := by
        rw [hw]; exact (Below.refl _ _).alloc (Nat.le_refl _) _
      rw [← hw] at hF
      clear hw
      have c0 := hF n hn8
      have HT1 := Lib.hid (HT.out.below hB)
      have HB1 := Lib.hid hB
      clear hF hB
      have hnn : ((nmN n).toList == (nmN n).toList) = true := by simp
      have hnn2 : ((nmN n).toList != (nmN n).toList) = false := by simp
      have HN := Lib.hid (show ∀ w, Calls Tryd.prog 21 #[.int .i64 n] w fun e w' => e = .returned (.string (nmN n)) ∧ w = w' from Name_in n hn8)
      generalize nmN n = nm at *
      go_wp2_with fail
      refine (Of_any _ _).mono ?_; rintro e w' ⟨rfl, rfl⟩
      rw [HO.out]
      go_wp2_with fail
      refine (refOf_any _ _).mono ?_; rintro e w2 ⟨rfl, hb2⟩
      rw [HO.out]
      have HB2 := Lib.hid (bl HB1.out hb2)
      have HT2 := Lib.hid (HT1.out.below hb2)
      clear hb2
      go_wp2_with fail
      refine (HN.out _).mono ?_; rintro e w' ⟨rfl, rfl⟩
      have hxx : (x != x) = false := by simp
      have hyy : (y != y) = false := by simp
      go_wp2_with fail
      refine (HN.out _).mono ?_; rintro e w' ⟨rfl, rfl⟩
      go_wp2_with fail
      refine (Of_any _ _).mono ?_; rintro e w' ⟨rfl, rfl⟩
      rw [HB.out]
      go_wp2_with fail
      refine (awake_any _ HT2.out).mono ?_; rintro e w4 ⟨rfl, hb4⟩
      go_wp2_with fail
      go_ret
      exact ⟨rfl, bl HB2.out hb4⟩
    · have HZ := Lib.hid (show nmZ n = ⟨#[]⟩ by rw [nmZ, if_neg hn])
      by_cases h0 : 0 ≤ n
      all_goals by_cases h1 : n < 8
      all_goals try omega
      all_goals
        clear hn
        go_enter Tryd.func8, Tryd.ntmps8
        go_wp2_with fail
        refine (Of_any _ _).mono ?_; rintro e w' ⟨rfl, rfl⟩
        rw [HO.out]
        go_wp2_with fail
        refine (refOf_any _ _).mono ?_; rintro e w2 ⟨rfl, hb2⟩
        rw [HO.out]
        have HB2 := Lib.hid hb2
        have HT2 := Lib.hid (HT.out.below hb2)
        clear hb2
        go_wp2_with fail
        refine (Name_any _ _).mono ?_; rintro e w' ⟨rfl, rfl⟩
        rw [HZ.out]
        have hxx : (x != x) = false := by simp
        have hyy : (y != y) = false := by simp
        go_wp2_with fail
        refine (Name_any _ _).mono ?_; rintro e w' ⟨rfl, rfl⟩
        rw [HZ.out]
        go_wp2_with fail
        refine (Of_any _ _).mono ?_; rintro e w' ⟨rfl, rfl⟩
        rw [ofV_empty]
        go_wp2_with fail
        refine (awake_any _ HT2.out).mono ?_; rintro e w4 ⟨rfl, hb4⟩
        go_wp2_with fail
        go_ret
        exact ⟨rfl, bl HB2.out hb4⟩
  · go_enter Tryd.func8, Tryd.ntmps8
    go_wp2_with fail
    refine (awake_any _ HT.out).mono ?_; rintro e w2 ⟨rfl, hb2⟩
    go_wp2_with fail
    go_ret
    exact ⟨rfl, hb2⟩
end Go.Proofs.YtmafkncobjiabaaDoor.Modes
