/-
  Modes: the walk through modes.Reach. Condition: the table of ways lies in block 0. By an AI agent.
-/
import Derived.Test.YtmafkncobjiabaaDoorModesW
import Derived.Deep.OwnRows
namespace Go.Proofs.YtmafkncobjiabaaDoor.Modes
set_option linter.unusedVariables false
set_option linter.unusedSimpArgs false
open Go Go.RowKit Go.Proofs.YtmafkncobjiabaaDoor.Base Go.Deep

theorem Reach_out (a n : Int) (w : World) (h : ¬ (0 ≤ a ∧ a < 8 ∧ 0 ≤ n)) :
    Calls Tryd.prog 15 #[.int .i64 a, .int .i64 n] w fun e w' => e = .returned (.slice none 0 0) ∧ w = w' := by
  by_cases ha : 0 ≤ a ∧ a < 8
  · obtain ⟨a0, a1⟩ := ha
    have hn : n < 0 := by omega
    clear h
    go_enter Tryd.func15, Tryd.ntmps15
    go_wp2_with (go_at_call 24; refine (mode_in _ _ (by omega) (by omega)).mono ?_; rintro e w' ⟨rfl, rfl⟩)
    go_ret
    exact ⟨rfl, rfl⟩
  · clear h
    go_enter Tryd.func15, Tryd.ntmps15
    go_wp2_with (go_at_call 24; refine (mode_out _ _ (by omega)).mono ?_; rintro e w' ⟨rfl, rfl⟩)
    go_ret
    exact ⟨rfl, rfl⟩

theorem row8 {w : World} {b t : Nat} {f : Nat → Value} (h : w.rowIs b t 8 f) : w.heap[b]? = some (.cells #[f 0, f 1, f 2, f 3, f 4, f 5, f 6, f 7] t (0, 0)) := by
  obtain ⟨c, hb, hn, hc⟩ := h
  rw [hb]
  congr 2
  apply Array.ext_getElem?
  intro i
  rcases Nat.lt_or_ge i 8 with hi | hi
  · rw [hc i hi]
    match i, hi with
    | 0, _ => rfl
    | 1, _ => rfl
    | 2, _ => rfl
    | 3, _ => rfl
    | 4, _ => rfl
    | 5, _ => rfl
    | 6, _ => rfl
    | 7, _ => rfl
  · rw [Array.getElem?_eq_none (by omega), Array.getElem?_eq_none (by simpa using hi)]
theorem row8_new (w : World) (t : Nat) (f : Nat → Value) : (w.alloc (.cells #[f 0, f 1, f 2, f 3, f 4, f 5, f 6, f 7] t)).rowIs w.heap.size t 8 f :=
  World.rowIs_alloc w #[f 0, f 1, f 2, f 3, f 4, f 5, f 6, f 7] t f (fun i hi => by
    match i, hi with
    | 0, _ => rfl
    | 1, _ => rfl
    | 2, _ => rfl
    | 3, _ => rfl
    | 4, _ => rfl
    | 5, _ => rfl
    | 6, _ => rfl
    | 7, _ => rfl)
theorem int_info : (Tryd.prog.info? 3).map (fun i => (i.zero, i.size, i.bytes)) = some (some (.int .i64 0), 1, 8) := by kernel_rfl
theorem rel_round {w wr : World} {s k : Nat} {a : Nat} (hC : wr.rowIs w.heap.size 49 8 (fun j => .bool (reachR s k j))) (hb : Below w.heap.size w wr) (ha : a = 8) :
    (wr.setRow w.heap.size #[.bool (midR (reachR s k) a 0 0), .bool (midR (reachR s k) a 0 1), .bool (midR (reachR s k) a 0 2), .bool (midR (reachR s k) a 0 3), .bool (midR (reachR s k) a 0 4), .bool (midR (reachR s k) a 0 5), .bool (midR (reachR s k) a 0 6), .bool (midR (reachR s k) a 0 7)]).rowIs w.heap.size 49 8 (fun j => .bool (reachR s (k + 1) j)) ∧
    Below w.heap.size w (wr.setRow w.heap.size #[.bool (midR (reachR s k) a 0 0), .bool (midR (reachR s k) a 0 1), .bool (midR (reachR s k) a 0 2), .bool (midR (reachR s k) a 0 3), .bool (midR (reachR s k) a 0 4), .bool (midR (reachR s k) a 0 5), .bool (midR (reachR s k) a 0 6), .bool (midR (reachR s k) a 0 7)]) := by
  subst ha
  refine ⟨?_, below_setRow hb (Nat.le_refl _) _⟩
  obtain ⟨c, hc, _, _⟩ := hC
  refine ⟨_, setRow_heap _ _ _ _ _ _ hc, rfl, fun i hi => ?_⟩
  show _ = some (Value.bool (stepR (reachR s k) i))
  rw [← midR_end]
  match i, hi with
  | 0, _ => rfl
  | 1, _ => rfl
  | 2, _ => rfl
  | 3, _ => rfl
  | 4, _ => rfl
  | 5, _ => rfl
  | 6, _ => rfl
  | 7, _ => rfl
theorem rel_gath {w wr w1 : World} {f : Nat → Bool} {q : Nat} {v v' : Value} {o : Obj} (hy : f q = true) (hC : wr.rowIs w.heap.size 49 8 (fun j => .bool (f j))) (hb : Below w.heap.size w wr)
    (hown : wr.ownsRow (w.heap.size + 1) 3 1 v (gath f q).length ((gath f q).map (Value.int .i64)))
    (hown' : w1.ownsRow (w.heap.size + 1) 3 1 v' ((gath f q).length + 1) ((gath f q).map (Value.int .i64) ++ [.int .i64 q])) (hg : (wr.alloc o).grownBy w1 v.ownBlock) :
    w1.ownsRow (w.heap.size + 1) 3 1 v' (gath f (q + 1)).length ((gath f (q + 1)).map (Value.int .i64)) ∧ w1.rowIs w.heap.size 49 8 (fun j => .bool (f j)) ∧ Below w.heap.size w w1 := by
  have hsz := hC.lt
  have hrow : ∀ k, v.ownBlock = some k → w.heap.size + 1 ≤ k := by
    intro k hk
    rcases hown.2 with ⟨rfl, _⟩ | ⟨g, cap, cur, rfl, hg, _⟩
    · simp [Value.ownBlock] at hk
    · have : g = k := by simpa [Value.ownBlock] using hk
      omega
  refine ⟨?_, (hC.alloc o).of_block (hg.block _ (by simp; omega) (fun e => by have := hrow _ e.symm; omega)), (hb.alloc (by omega) o).grown hg (by simp; omega) (fun k hk => by have := hrow k hk; omega)⟩
  rw [gath_succ_yes hy]
  simpa using hown'
theorem start_row (w : World) {s : Nat} (hs : s < 8) :
    (w.alloc (.cells ([Value.bool false, Value.bool false, Value.bool false, Value.bool false, Value.bool false, Value.bool false, Value.bool false, Value.bool false].set s (.bool true)).toArray 49)).rowIs w.heap.size 49 8 (fun j => .bool (reachR s 0 j)) := by
  have hsz : ([Value.bool false, Value.bool false, Value.bool false, Value.bool false, Value.bool false, Value.bool false, Value.bool false, Value.bool false].set s (.bool true)).toArray.size = 8 := by simp
  have := World.rowIs_alloc w ([Value.bool false, Value.bool false, Value.bool false, Value.bool false, Value.bool false, Value.bool false, Value.bool false, Value.bool false].set s (.bool true)).toArray 49 (fun j => .bool (reachR s 0 j)) (fun i hi => ?_)
  · rwa [hsz] at this
  have h : ∀ s i : Fin 8, ([Value.bool false, Value.bool false, Value.bool false, Value.bool false, Value.bool false, Value.bool false, Value.bool false, Value.bool false].set s.val (.bool true)).toArray[i.val]? = some (Value.bool (i.val == s.val)) := by
    intro s i
    match s, i with
    | ⟨0, _⟩, ⟨0, _⟩ => rfl
    | ⟨s, hs⟩, ⟨i, hi⟩ =>
      rw [List.getElem?_toArray, List.getElem?_set]
      by_cases e : s = i
      · subst e; simp [hs]
      · have e' : ¬ i = s := fun h => e h.symm
        simp only [e, if_false, beq_eq_false_iff_ne.2 e']
        match i, hi with
        | 0, _ => rfl
        | 1, _ => rfl
        | 2, _ => rfl
        | 3, _ => rfl
        | 4, _ => rfl
        | 5, _ => rfl
        | 6, _ => rfl
        | 7, _ => rfl
  exact h ⟨s, hs⟩ ⟨i, by simpa using hi⟩
theorem rel_step {w wr : World} {f : Nat → Bool} {a b N : Nat} {v : Bool} (hN : wr.rowIs N 49 8 (fun j => .bool (midR f a b j))) (hC : wr.rowIs w.heap.size 49 8 (fun j => .bool (f j))) (hb : Below w.heap.size w wr)
    (hlt : w.heap.size < N) (h : midR f a (b + 1) b = v) :
    (wr.setCell ⟨N, b, none⟩ (.bool v)).rowIs N 49 8 (fun j => .bool (midR f a (b + 1) j)) ∧ (wr.setCell ⟨N, b, none⟩ (.bool v)).rowIs w.heap.size 49 8 (fun j => .bool (f j)) ∧ Below w.heap.size w (wr.setCell ⟨N, b, none⟩ (.bool v)) := by
  refine ⟨(hN.set b (.bool v)).congr fun j _ => ?_, hC.setOther (a := ⟨N, b, none⟩) (by show w.heap.size ≠ N; omega) _, hb.setCell (p := ⟨N, b, none⟩) (by show w.heap.size ≤ N; omega) _⟩
  split
  · rename_i e; subst e; rw [h]
  · rename_i e; rw [midR_other _ _ _ _ e]
set_option maxHeartbeats 1000000 in
theorem Reach_lt (s m : Nat) (w : World) (ht : Tab w) (hs : s < 8) (hm : m < 8) :
    Calls Tryd.prog 15 #[.int .i64 s, .int .i64 m] w fun e w' => ∃ v, e = .returned v ∧ Ints w' .i64 v (reachL s m) ∧ Below w.heap.size w w' := by
  have HT := Lib.hid ht
  clear ht
  obtain ⟨i0, hi, hz0, hz1, hz2⟩ := info_parts int_info
  obtain ⟨K, hK1, hK2⟩ : ∃ K : Nat, m ≤ K ∧ K ≤ m := ⟨m, Nat.le_refl _, Nat.le_refl _⟩
  have HK := Lib.hid (show K = min m 8 by omega)
  go_enter Tryd.func15, Tryd.ntmps15
  go_wp2_with (go_at_call 24; refine (mode_in _ _ (by omega) (by omega)).mono ?_; rintro e w' ⟨rfl, rfl⟩)
  go_loopw [22] (fun i wr => ∃ k : Nat, k ≤ K ∧ i = .int .i64 k ∧ wr.rowIs w.heap.size 49 8 (fun j => .bool (reachR s k j)) ∧ Below w.heap.size w wr) (fun i _ => K - (intOf i).toNat)
  case atStart =>
    refine ⟨0, by omega, rfl, ?_, (Below.refl _ _).alloc (Nat.le_refl _) _⟩
    exact start_row w hs
  case round =>
    obtain ⟨k, hk, rfl, hrow, hb⟩ := hrel
    by_cases hlt : k < K
    · have hg := row8 hrow
      have HR := Lib.hid hrow
      clear hrow
      go_wp2_with (refine wpList_load_row rfl 49 (.tmp 5) rfl w.heap.size rfl 49 _ _ _ hg Tryd.underlying49 rfl (by kernel_rfl) ?_)
      obtain ⟨wo, rfl⟩ : ∃ wo : World, wo = wr := ⟨_, rfl⟩
      have hN : w.heap.size < wo.heap.size := HR.out.lt
      go_loopw [25] (fun i w2 => ∃ a : Nat, a ≤ 8 ∧ i = .int .i64 a ∧ w2.rowIs wo.heap.size 49 8 (fun j => .bool (midR (reachR s k) a 0 j)) ∧ w2.rowIs w.heap.size 49 8 (fun j => .bool (reachR s k j)) ∧ Below w.heap.size w w2) (fun i _ => 8 - (intOf i).toNat)
      case atStart =>
        exact ⟨0, by omega, rfl, (row8_new wo 49 (fun j => .bool (reachR s k j))).congr (fun j _ => by rw [midR_start]), HR.out.alloc _, hb.alloc (by omega) _⟩
      case round =>
        obtain ⟨a, ha, rfl, hrN, hrC, hb2⟩ := hrel
        have HrN := Lib.hid hrN
        have HrC := Lib.hid hrC
        clear hrN hrC
        by_cases hla : a < 8
        · have hd1 : decide ((a : Int) < 8) = true := by simp; omega
          have hd2 : decide (a < 8) = true := by simp; omega
          go_wp2_with fail
          obtain ⟨wm, rfl⟩ : ∃ wm : World, wm = wr := ⟨_, rfl⟩
          go_loopw [28] (fun i w3 => ∃ b : Nat, b ≤ 8 ∧ i = .int .i64 b ∧ w3.rowIs wo.heap.size 49 8 (fun j => .bool (midR (reachR s k) a b j)) ∧ w3.rowIs w.heap.size 49 8 (fun j => .bool (reachR s k j)) ∧ Below w.heap.size w w3) (fun i _ => 8 - (intOf i).toNat)
          case atStart => exact ⟨0, by omega, rfl, HrN.out, HrC.out, hb2⟩
          case round =>
            obtain ⟨b, hb0, rfl, hrN, hrC, hb3⟩ := hrel
            have hT := HT.out.below (w' := wr) hb3
            have HT' := Lib.hid hT
            clear hT
            have HrN := Lib.hid hrN
            have HrC := Lib.hid hrC
            clear hrN hrC
            by_cases hlb : b < 8
            · have cN := HrN.out.cell hlb
              have fN := HrN.out.frozen b
              have cC := HrC.out.cell hla
              have hh := midR_here (reachR s k) a b
              cases hx : midR (reachR s k) a b b with
              | true =>
                rw [hx, Bool.true_or] at hh
                rw [hx] at cN
                have HH := Lib.hid hh
                clear hh hx
                go_wp2_with fail
                go_roundw
                case rel => exact ⟨b + 1, by omega, by go_num, rel_step HrN.out HrC.out hb3 hN HH.out⟩
                case measure => simp [intOf]; omega
              | false =>
                rw [hx, Bool.false_or] at hh
                rw [hx] at cN
                cases hy : reachR s k a with
                | true =>
                  rw [hy, Bool.true_and] at hh
                  rw [hy] at cC
                  have HH := Lib.hid hh
                  clear hh hx hy
                  go_wp2_with (go_at_call 11; refine (Way_any _ _ _ HT'.out).mono ?_; rintro e w' ⟨rfl, rfl⟩)
                  go_roundw
                  case rel => exact ⟨b + 1, by omega, by go_num, rel_step HrN.out HrC.out hb3 hN HH.out⟩
                  case measure => simp [intOf]; omega
                | false =>
                  rw [hy, Bool.false_and] at hh
                  rw [hy] at cC
                  have HH := Lib.hid hh
                  clear hh hx hy
                  go_wp2_with fail
                  go_roundw
                  case rel => exact ⟨b + 1, by omega, by go_num, rel_step HrN.out HrC.out hb3 hN HH.out⟩
                  case measure => simp [intOf]; omega
            · have hb8 : 8 ≤ b := by omega
              go_wp2_with fail
              go_roundw
              case rel => exact ⟨a + 1, by omega, by go_num, HrN.out.congr (fun j hj => by
                  have e : b = 8 := by omega
                  rw [e, midR_row _ _ _ hj]), HrC.out, hb3⟩
              case measure => simp [intOf]; omega
        · have g1 := row8 HrN.out
          have g3 := row8 HrC.out
          go_wp2_with (first | (refine wpList_load_row rfl 49 (.tmp 6) rfl wo.heap.size rfl 49 _ _ _ g1 Tryd.underlying49 rfl (by kernel_rfl) ?_) | (refine wpList_store_row rfl 49 (.tmp 5) (.tmp 48) rfl w.heap.size _ rfl rfl 49 _ g3 ?_ ?_ ?_ ?_; kernel_rfl; rfl; simp [Value.oneCell']))
          go_roundw
          case rel => exact ⟨k + 1, by omega, by go_num, rel_round HrC.out hb2 (by omega)⟩
          case measure => simp [intOf]; omega
    · have hd3 : decide (k < m) = false := by simp; omega
      have hd4 : decide ((k : Int) < (m : Nat)) = false := by simp; omega
      have hk8 : k = min m 8 := by have := HK.out; omega
      have HK8 := Lib.hid hk8
      clear hk8
      have HR := Lib.hid hrow
      clear hrow
      go_wp2_with fail
      obtain ⟨wo, rfl⟩ : ∃ wo : World, wo = wr := ⟨_, rfl⟩
      go_loopw [9, 50] (fun v i w4 => ∃ q : Nat, q ≤ 8 ∧ i = .int .i64 q ∧ w4.ownsRow (w.heap.size + 1) 3 1 v (gath (reachR s k) q).length ((gath (reachR s k) q).map (Value.int .i64)) ∧ w4.rowIs w.heap.size 49 8 (fun j => .bool (reachR s k j)) ∧ Below w.heap.size w w4) (fun _ i _ => 8 - (intOf i).toNat)
      case atStart => exact ⟨0, by omega, rfl, World.ownsRow_nil _ _ _ _, HR.out, hb⟩
      case round =>
        obtain ⟨q, hq, rfl, hown, hrC, hb4⟩ := hrel
        have HrC := Lib.hid hrC
        clear hrC
        by_cases hlq : q < 8
        · have cC := HrC.out.cell hlq
          have hsz := HrC.out.lt
          cases hy : reachR s k q with
          | true =>
            rw [hy] at cC
            have HY := Lib.hid hy
            clear hy
            have HO := Lib.hid hown
            clear hown
            go_wp2_with (at_builtin; refine wpList_append_own _ rfl _ _ 30 rfl (w.heap.size + 1) 3 i0 (.int .i64 0) 1 8 Tryd.underlying30 hi hz0 hz1 hz2 rfl (by decide) _ _ _ rfl (HO.out.alloc _) ⟨wr.heap.size, 0, none⟩ 1 1 [.int .i64 q] rfl rfl ?c1 ?c2 ?c3 ?c4 ?c5 ?_)
            case c1 =>
              intro j u hj
              match j, hj with
              | 0, hj => simp at hj; subst hj; simp [Addr.add]
            case c2 => intro u hu; simp at hu; subst hu; rfl
            case c3 => have := gath_len (reachR s k) q; unfold maxLen; omega
            case c4 => have := gath_len (reachR s k) q; omega
            case c5 => simp; omega
            intro v' w1 hown' hgrow _
            have R := Lib.hid (rel_gath HY.out HrC.out hb4 HO.out hown' hgrow)
            clear hown' hgrow
            go_wp2_with fail
            go_roundw
            case rel => exact ⟨q + 1, by omega, by go_num, R.out⟩
            case measure => simp [intOf]; omega
          | false =>
            rw [hy] at cC
            have HY := Lib.hid hy
            clear hy
            go_wp2_with fail
            go_roundw
            case rel => exact ⟨q + 1, by omega, by go_num, by rw [gath_succ_no HY.out]; exact hown, HrC.out, hb4⟩
            case measure => simp [intOf]; omega
        · have hq8 : q = 8 := by omega
          subst hq8
          go_wp2_with fail
          go_ret
          refine ⟨_, rfl, ?_, hb4⟩
          have hL : reachL (s : Int) m = gath (reachR s k) 8 := by
            unfold reachL
            rw [if_pos ⟨by omega, by omega, by omega⟩, HK8.out]
            first | (simp; done) | (rw [Int.toNat_natCast, Int.toNat_natCast]; congr 2; omega)
          rw [hL]
          exact ints_of_own hown (by have := gath_len (reachR s k) 8; unfold maxLen; omega)

set_option maxHeartbeats 1000000 in
theorem Reach_eq (s : Nat) (w : World) (ht : Tab w) (hs : s < 8) :
    Calls Tryd.prog 15 #[.int .i64 s, .int .i64 8] w fun e w' => ∃ v, e = .returned v ∧ Ints w' .i64 v (reachL s 8) ∧ Below w.heap.size w w' := by
  have HT := Lib.hid ht
  clear ht
  obtain ⟨i0, hi, hz0, hz1, hz2⟩ := info_parts int_info
  obtain ⟨K, hK1, hK2⟩ : ∃ K : Nat, 8 ≤ K ∧ K ≤ 8 := ⟨8, Nat.le_refl _, Nat.le_refl _⟩
  have HK := Lib.hid (show K = min 8 8 by omega)
  go_enter Tryd.func15, Tryd.ntmps15
  go_wp2_with (go_at_call 24; refine (mode_in _ _ (by omega) (by omega)).mono ?_; rintro e w' ⟨rfl, rfl⟩)
  go_loopw [22] (fun i wr => ∃ k : Nat, k ≤ K ∧ i = .int .i64 k ∧ wr.rowIs w.heap.size 49 8 (fun j => .bool (reachR s k j)) ∧ Below w.heap.size w wr) (fun i _ => K - (intOf i).toNat)
  case atStart =>
    refine ⟨0, by omega, rfl, ?_, (Below.refl _ _).alloc (Nat.le_refl _) _⟩
    exact start_row w hs
  case round =>
    obtain ⟨k, hk, rfl, hrow, hb⟩ := hrel
    by_cases hlt : k < K
    · have hg := row8 hrow
      have HR := Lib.hid hrow
      clear hrow
      go_wp2_with (refine wpList_load_row rfl 49 (.tmp 5) rfl w.heap.size rfl 49 _ _ _ hg Tryd.underlying49 rfl (by kernel_rfl) ?_)
      obtain ⟨wo, rfl⟩ : ∃ wo : World, wo = wr := ⟨_, rfl⟩
      have hN : w.heap.size < wo.heap.size := HR.out.lt
      go_loopw [25] (fun i w2 => ∃ a : Nat, a ≤ 8 ∧ i = .int .i64 a ∧ w2.rowIs wo.heap.size 49 8 (fun j => .bool (midR (reachR s k) a 0 j)) ∧ w2.rowIs w.heap.size 49 8 (fun j => .bool (reachR s k j)) ∧ Below w.heap.size w w2) (fun i _ => 8 - (intOf i).toNat)
      case atStart =>
        exact ⟨0, by omega, rfl, (row8_new wo 49 (fun j => .bool (reachR s k j))).congr (fun j _ => by rw [midR_start]), HR.out.alloc _, hb.alloc (by omega) _⟩
      case round =>
        obtain ⟨a, ha, rfl, hrN, hrC, hb2⟩ := hrel
        have HrN := Lib.hid hrN
        have HrC := Lib.hid hrC
        clear hrN hrC
        by_cases hla : a < 8
        · have hd1 : decide ((a : Int) < 8) = true := by simp; omega
          have hd2 : decide (a < 8) = true := by simp; omega
          go_wp2_with fail
          obtain ⟨wm, rfl⟩ : ∃ wm : World, wm = wr := ⟨_, rfl⟩
          go_loopw [28] (fun i w3 => ∃ b : Nat, b ≤ 8 ∧ i = .int .i64 b ∧ w3.rowIs wo.heap.size 49 8 (fun j => .bool (midR (reachR s k) a b j)) ∧ w3.rowIs w.heap.size 49 8 (fun j => .bool (reachR s k j)) ∧ Below w.heap.size w w3) (fun i _ => 8 - (intOf i).toNat)
          case atStart => exact ⟨0, by omega, rfl, HrN.out, HrC.out, hb2⟩
          case round =>
            obtain ⟨b, hb0, rfl, hrN, hrC, hb3⟩ := hrel
            have hT := HT.out.below (w' := wr) hb3
            have HT' := Lib.hid hT
            clear hT
            have HrN := Lib.hid hrN
            have HrC := Lib.hid hrC
            clear hrN hrC
            by_cases hlb : b < 8
            · have cN := HrN.out.cell hlb
              have fN := HrN.out.frozen b
              have cC := HrC.out.cell hla
              have hh := midR_here (reachR s k) a b
              cases hx : midR (reachR s k) a b b with
              | true =>
                rw [hx, Bool.true_or] at hh
                rw [hx] at cN
                have HH := Lib.hid hh
                clear hh hx
                go_wp2_with fail
                go_roundw
                case rel => exact ⟨b + 1, by omega, by go_num, rel_step HrN.out HrC.out hb3 hN HH.out⟩
                case measure => simp [intOf]; omega
              | false =>
                rw [hx, Bool.false_or] at hh
                rw [hx] at cN
                cases hy : reachR s k a with
                | true =>
                  rw [hy, Bool.true_and] at hh
                  rw [hy] at cC
                  have HH := Lib.hid hh
                  clear hh hx hy
                  go_wp2_with (go_at_call 11; refine (Way_any _ _ _ HT'.out).mono ?_; rintro e w' ⟨rfl, rfl⟩)
                  go_roundw
                  case rel => exact ⟨b + 1, by omega, by go_num, rel_step HrN.out HrC.out hb3 hN HH.out⟩
                  case measure => simp [intOf]; omega
                | false =>
                  rw [hy, Bool.false_and] at hh
                  rw [hy] at cC
                  have HH := Lib.hid hh
                  clear hh hx hy
                  go_wp2_with fail
                  go_roundw
                  case rel => exact ⟨b + 1, by omega, by go_num, rel_step HrN.out HrC.out hb3 hN HH.out⟩
                  case measure => simp [intOf]; omega
            · have hb8 : 8 ≤ b := by omega
              go_wp2_with fail
              go_roundw
              case rel => exact ⟨a + 1, by omega, by go_num, HrN.out.congr (fun j hj => by
                  have e : b = 8 := by omega
                  rw [e, midR_row _ _ _ hj]), HrC.out, hb3⟩
              case measure => simp [intOf]; omega
        · have g1 := row8 HrN.out
          have g3 := row8 HrC.out
          go_wp2_with (first | (refine wpList_load_row rfl 49 (.tmp 6) rfl wo.heap.size rfl 49 _ _ _ g1 Tryd.underlying49 rfl (by kernel_rfl) ?_) | (refine wpList_store_row rfl 49 (.tmp 5) (.tmp 48) rfl w.heap.size _ rfl rfl 49 _ g3 ?_ ?_ ?_ ?_; kernel_rfl; rfl; simp [Value.oneCell']))
          go_roundw
          case rel => exact ⟨k + 1, by omega, by go_num, rel_round HrC.out hb2 (by omega)⟩
          case measure => simp [intOf]; omega
    · have hd3 : decide (k < 8) = false := by simp; omega
      have hd4 : decide ((k : Int) < (8 : Nat)) = false := by simp; omega
      have hk8 : k = min 8 8 := by have := HK.out; omega
      have HK8 := Lib.hid hk8
      clear hk8
      have HR := Lib.hid hrow
      clear hrow
      go_wp2_with fail
      obtain ⟨wo, rfl⟩ : ∃ wo : World, wo = wr := ⟨_, rfl⟩
      go_loopw [9, 50] (fun v i w4 => ∃ q : Nat, q ≤ 8 ∧ i = .int .i64 q ∧ w4.ownsRow (w.heap.size + 1) 3 1 v (gath (reachR s k) q).length ((gath (reachR s k) q).map (Value.int .i64)) ∧ w4.rowIs w.heap.size 49 8 (fun j => .bool (reachR s k j)) ∧ Below w.heap.size w w4) (fun _ i _ => 8 - (intOf i).toNat)
      case atStart => exact ⟨0, by omega, rfl, World.ownsRow_nil _ _ _ _, HR.out, hb⟩
      case round =>
        obtain ⟨q, hq, rfl, hown, hrC, hb4⟩ := hrel
        have HrC := Lib.hid hrC
        clear hrC
        by_cases hlq : q < 8
        · have cC := HrC.out.cell hlq
          have hsz := HrC.out.lt
          cases hy : reachR s k q with
          | true =>
            rw [hy] at cC
            have HY := Lib.hid hy
            clear hy
            have HO := Lib.hid hown
            clear hown
            go_wp2_with (at_builtin; refine wpList_append_own _ rfl _ _ 30 rfl (w.heap.size + 1) 3 i0 (.int .i64 0) 1 8 Tryd.underlying30 hi hz0 hz1 hz2 rfl (by decide) _ _ _ rfl (HO.out.alloc _) ⟨wr.heap.size, 0, none⟩ 1 1 [.int .i64 q] rfl rfl ?c1 ?c2 ?c3 ?c4 ?c5 ?_)
            case c1 =>
              intro j u hj
              match j, hj with
              | 0, hj => simp at hj; subst hj; simp [Addr.add]
            case c2 => intro u hu; simp at hu; subst hu; rfl
            case c3 => have := gath_len (reachR s k) q; unfold maxLen; omega
            case c4 => have := gath_len (reachR s k) q; omega
            case c5 => simp; omega
            intro v' w1 hown' hgrow _
            have R := Lib.hid (rel_gath HY.out HrC.out hb4 HO.out hown' hgrow)
            clear hown' hgrow
            go_wp2_with fail
            go_roundw
            case rel => exact ⟨q + 1, by omega, by go_num, R.out⟩
            case measure => simp [intOf]; omega
          | false =>
            rw [hy] at cC
            have HY := Lib.hid hy
            clear hy
            go_wp2_with fail
            go_roundw
            case rel => exact ⟨q + 1, by omega, by go_num, by rw [gath_succ_no HY.out]; exact hown, HrC.out, hb4⟩
            case measure => simp [intOf]; omega
        · have hq8 : q = 8 := by omega
          subst hq8
          go_wp2_with fail
          go_ret
          refine ⟨_, rfl, ?_, hb4⟩
          have hL : reachL (s : Int) 8 = gath (reachR s k) 8 := by
            unfold reachL
            rw [if_pos ⟨by omega, by omega, by omega⟩, HK8.out]
            first | (simp; done) | (rw [Int.toNat_natCast, Int.toNat_natCast]; congr 2; omega)
          rw [hL]
          exact ints_of_own hown (by have := gath_len (reachR s k) 8; unfold maxLen; omega)

set_option maxHeartbeats 1000000 in
theorem Reach_gt (s m : Nat) (w : World) (ht : Tab w) (hs : s < 8) (hm : 8 < m) (hm' : m ≤ 9223372036854775807) :
    Calls Tryd.prog 15 #[.int .i64 s, .int .i64 m] w fun e w' => ∃ v, e = .returned v ∧ Ints w' .i64 v (reachL s m) ∧ Below w.heap.size w w' := by
  have HT := Lib.hid ht
  clear ht
  obtain ⟨i0, hi, hz0, hz1, hz2⟩ := info_parts int_info
  obtain ⟨K, hK1, hK2⟩ : ∃ K : Nat, 8 ≤ K ∧ K ≤ 8 := ⟨8, Nat.le_refl _, Nat.le_refl _⟩
  have HK := Lib.hid (show K = min 8 8 by omega)
  go_enter Tryd.func15, Tryd.ntmps15
  go_wp2_with (go_at_call 24; refine (mode_in _ _ (by omega) (by omega)).mono ?_; rintro e w' ⟨rfl, rfl⟩)
  go_loopw [22] (fun i wr => ∃ k : Nat, k ≤ K ∧ i = .int .i64 k ∧ wr.rowIs w.heap.size 49 8 (fun j => .bool (reachR s k j)) ∧ Below w.heap.size w wr) (fun i _ => K - (intOf i).toNat)
  case atStart =>
    refine ⟨0, by omega, rfl, ?_, (Below.refl _ _).alloc (Nat.le_refl _) _⟩
    exact start_row w hs
  case round =>
    obtain ⟨k, hk, rfl, hrow, hb⟩ := hrel
    by_cases hlt : k < K
    · have hg := row8 hrow
      have HR := Lib.hid hrow
      clear hrow
      go_wp2_with (refine wpList_load_row rfl 49 (.tmp 5) rfl w.heap.size rfl 49 _ _ _ hg Tryd.underlying49 rfl (by kernel_rfl) ?_)
      obtain ⟨wo, rfl⟩ : ∃ wo : World, wo = wr := ⟨_, rfl⟩
      have hN : w.heap.size < wo.heap.size := HR.out.lt
      go_loopw [25] (fun i w2 => ∃ a : Nat, a ≤ 8 ∧ i = .int .i64 a ∧ w2.rowIs wo.heap.size 49 8 (fun j => .bool (midR (reachR s k) a 0 j)) ∧ w2.rowIs w.heap.size 49 8 (fun j => .bool (reachR s k j)) ∧ Below w.heap.size w w2) (fun i _ => 8 - (intOf i).toNat)
      case atStart =>
        exact ⟨0, by omega, rfl, (row8_new wo 49 (fun j => .bool (reachR s k j))).congr (fun j _ => by rw [midR_start]), HR.out.alloc _, hb.alloc (by omega) _⟩
      case round =>
        obtain ⟨a, ha, rfl, hrN, hrC, hb2⟩ := hrel
        have HrN := Lib.hid hrN
        have HrC := Lib.hid hrC
        clear hrN hrC
        by_cases hla : a < 8
        · have hd1 : decide ((a : Int) < 8) = true := by simp; omega
          have hd2 : decide (a < 8) = true := by simp; omega
          go_wp2_with fail
          obtain ⟨wm, rfl⟩ : ∃ wm : World, wm = wr := ⟨_, rfl⟩
          go_loopw [28] (fun i w3 => ∃ b : Nat, b ≤ 8 ∧ i = .int .i64 b ∧ w3.rowIs wo.heap.size 49 8 (fun j => .bool (midR (reachR s k) a b j)) ∧ w3.rowIs w.heap.size 49 8 (fun j => .bool (reachR s k j)) ∧ Below w.heap.size w w3) (fun i _ => 8 - (intOf i).toNat)
          case atStart => exact ⟨0, by omega, rfl, HrN.out, HrC.out, hb2⟩
          case round =>
            obtain ⟨b, hb0, rfl, hrN, hrC, hb3⟩ := hrel
            have hT := HT.out.below (w' := wr) hb3
            have HT' := Lib.hid hT
            clear hT
            have HrN := Lib.hid hrN
            have HrC := Lib.hid hrC
            clear hrN hrC
            by_cases hlb : b < 8
            · have cN := HrN.out.cell hlb
              have fN := HrN.out.frozen b
              have cC := HrC.out.cell hla
              have hh := midR_here (reachR s k) a b
              cases hx : midR (reachR s k) a b b with
              | true =>
                rw [hx, Bool.true_or] at hh
                rw [hx] at cN
                have HH := Lib.hid hh
                clear hh hx
                go_wp2_with fail
                go_roundw
                case rel => exact ⟨b + 1, by omega, by go_num, rel_step HrN.out HrC.out hb3 hN HH.out⟩
                case measure => simp [intOf]; omega
              | false =>
                rw [hx, Bool.false_or] at hh
                rw [hx] at cN
                cases hy : reachR s k a with
                | true =>
                  rw [hy, Bool.true_and] at hh
                  rw [hy] at cC
                  have HH := Lib.hid hh
                  clear hh hx hy
                  go_wp2_with (go_at_call 11; refine (Way_any _ _ _ HT'.out).mono ?_; rintro e w' ⟨rfl, rfl⟩)
                  go_roundw
                  case rel => exact ⟨b + 1, by omega, by go_num, rel_step HrN.out HrC.out hb3 hN HH.out⟩
                  case measure => simp [intOf]; omega
                | false =>
                  rw [hy, Bool.false_and] at hh
                  rw [hy] at cC
                  have HH := Lib.hid hh
                  clear hh hx hy
                  go_wp2_with fail
                  go_roundw
                  case rel => exact ⟨b + 1, by omega, by go_num, rel_step HrN.out HrC.out hb3 hN HH.out⟩
                  case measure => simp [intOf]; omega
            · have hb8 : 8 ≤ b := by omega
              go_wp2_with fail
              go_roundw
              case rel => exact ⟨a + 1, by omega, by go_num, HrN.out.congr (fun j hj => by
                  have e : b = 8 := by omega
                  rw [e, midR_row _ _ _ hj]), HrC.out, hb3⟩
              case measure => simp [intOf]; omega
        · have g1 := row8 HrN.out
          have g3 := row8 HrC.out
          go_wp2_with (first | (refine wpList_load_row rfl 49 (.tmp 6) rfl wo.heap.size rfl 49 _ _ _ g1 Tryd.underlying49 rfl (by kernel_rfl) ?_) | (refine wpList_store_row rfl 49 (.tmp 5) (.tmp 48) rfl w.heap.size _ rfl rfl 49 _ g3 ?_ ?_ ?_ ?_; kernel_rfl; rfl; simp [Value.oneCell']))
          go_roundw
          case rel => exact ⟨k + 1, by omega, by go_num, rel_round HrC.out hb2 (by omega)⟩
          case measure => simp [intOf]; omega
    · have hd3 : decide (k < 8) = false := by simp; omega
      have hd4 : decide ((k : Int) < (8 : Nat)) = false := by simp; omega
      have hk8 : k = min 8 8 := by have := HK.out; omega
      have HK8 := Lib.hid hk8
      clear hk8
      have HR := Lib.hid hrow
      clear hrow
      go_wp2_with fail
      obtain ⟨wo, rfl⟩ : ∃ wo : World, wo = wr := ⟨_, rfl⟩
      go_loopw [9, 50] (fun v i w4 => ∃ q : Nat, q ≤ 8 ∧ i = .int .i64 q ∧ w4.ownsRow (w.heap.size + 1) 3 1 v (gath (reachR s k) q).length ((gath (reachR s k) q).map (Value.int .i64)) ∧ w4.rowIs w.heap.size 49 8 (fun j => .bool (reachR s k j)) ∧ Below w.heap.size w w4) (fun _ i _ => 8 - (intOf i).toNat)
      case atStart => exact ⟨0, by omega, rfl, World.ownsRow_nil _ _ _ _, HR.out, hb⟩
      case round =>
        obtain ⟨q, hq, rfl, hown, hrC, hb4⟩ := hrel
        have HrC := Lib.hid hrC
        clear hrC
        by_cases hlq : q < 8
        · have cC := HrC.out.cell hlq
          have hsz := HrC.out.lt
          cases hy : reachR s k q with
          | true =>
            rw [hy] at cC
            have HY := Lib.hid hy
            clear hy
            have HO := Lib.hid hown
            clear hown
            go_wp2_with (at_builtin; refine wpList_append_own _ rfl _ _ 30 rfl (w.heap.size + 1) 3 i0 (.int .i64 0) 1 8 Tryd.underlying30 hi hz0 hz1 hz2 rfl (by decide) _ _ _ rfl (HO.out.alloc _) ⟨wr.heap.size, 0, none⟩ 1 1 [.int .i64 q] rfl rfl ?c1 ?c2 ?c3 ?c4 ?c5 ?_)
            case c1 =>
              intro j u hj
              match j, hj with
              | 0, hj => simp at hj; subst hj; simp [Addr.add]
            case c2 => intro u hu; simp at hu; subst hu; rfl
            case c3 => have := gath_len (reachR s k) q; unfold maxLen; omega
            case c4 => have := gath_len (reachR s k) q; omega
            case c5 => simp; omega
            intro v' w1 hown' hgrow _
            have R := Lib.hid (rel_gath HY.out HrC.out hb4 HO.out hown' hgrow)
            clear hown' hgrow
            go_wp2_with fail
            go_roundw
            case rel => exact ⟨q + 1, by omega, by go_num, R.out⟩
            case measure => simp [intOf]; omega
          | false =>
            rw [hy] at cC
            have HY := Lib.hid hy
            clear hy
            go_wp2_with fail
            go_roundw
            case rel => exact ⟨q + 1, by omega, by go_num, by rw [gath_succ_no HY.out]; exact hown, HrC.out, hb4⟩
            case measure => simp [intOf]; omega
        · have hq8 : q = 8 := by omega
          subst hq8
          go_wp2_with fail
          go_ret
          refine ⟨_, rfl, ?_, hb4⟩
          have hL : reachL (s : Int) m = gath (reachR s k) 8 := by
            unfold reachL
            rw [if_pos ⟨by omega, by omega, by omega⟩, HK8.out]
            first | (simp; done) | (rw [Int.toNat_natCast, Int.toNat_natCast]; congr 2; omega)
          rw [hL]
          exact ints_of_own hown (by have := gath_len (reachR s k) 8; unfold maxLen; omega)

/-- Reach, whatever it is asked -/
theorem Reach_any (a n : Int) (w : World) (ht : Tab w) (n1 : n ≤ 9223372036854775807) :
    Calls Tryd.prog 15 #[.int .i64 a, .int .i64 n] w fun e w' => ∃ v, e = .returned v ∧ Ints w' .i64 v (reachL a n) ∧ Below w.heap.size w w' := by
  by_cases h : 0 ≤ a ∧ a < 8 ∧ 0 ≤ n
  · obtain ⟨a0, a1, n0⟩ := h
    obtain ⟨s, rfl⟩ := Int.eq_ofNat_of_zero_le a0
    obtain ⟨m, rfl⟩ := Int.eq_ofNat_of_zero_le n0
    have hm : m < 8 ∨ m = 8 ∨ 8 < m := by omega
    rcases hm with hm | rfl | hm
    · exact Reach_lt s m w ht (by omega) hm
    · exact Reach_eq s w ht (by omega)
    · exact Reach_gt s m w ht (by omega) hm (by omega)
  · refine (Reach_out a n w h).mono fun e w' ⟨he, hw⟩ => ?_
    subst hw
    rw [reachL, if_neg h]
    exact ⟨_, he, ⟨none, 0, rfl, by simp [maxLen], fun hn => absurd rfl hn⟩, Below.refl _ _⟩
end Go.Proofs.YtmafkncobjiabaaDoor.Modes
