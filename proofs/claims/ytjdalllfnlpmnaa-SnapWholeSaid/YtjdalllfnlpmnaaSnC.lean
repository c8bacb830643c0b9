/-
  Law 10: slices.Grow of the empty row. Conditions stand at each. By an AI agent.
-/
import Derived.Test.YtjdalllfnlpmnaaSnG
import Derived.Lib.AppendZerosOnto
import Derived.Shelf.RegionOpenPlain
namespace Go.Proofs.Ytjdalllfnlpmnaa.Bank
set_option linter.unusedVariables false
set_option linter.unusedSimpArgs false
open Go Go.RowKit Go.Proofs.Ytjdalllfnlpmnaa.Base
set_option maxRecDepth 100000 in
set_option maxHeartbeats 4000000 in
theorem Grow0_any (N : Nat) (h0 : 0 < N) (h1 : N ≤ 8192) (w : World) :
    Calls Try.prog 59 #[.slice none 0 0, .int .i64 N] w fun e w' => ∃ G, e = .returned (.slice (some ⟨w.heap.size, 0, none⟩) 0 G) ∧ w'.ownsRow w.heap.size 42 1 (.slice (some ⟨w.heap.size, 0, none⟩) 0 G) 0 [] ∧ Below w.heap.size w w' := by
  obtain ⟨i0, hi, hz0, hz1, hz2⟩ := info_parts word_info
  have hfc : (Builtin.firstCells i0.size 0 (.slice none 0 0)).run Try.prog w.drew = .ok #[] w.drew := run_firstCells_none w.drew i0.size 0 0 0
  have hgl := grownCap_le_maxLen w (0 + N) 0 42 (by unfold maxLen; omega)
  have hge := grownCap_ge w (0 + N) 0 42
  have hrz : ∀ ty, (Builtin.append_ #[41, 3] ty #[.slice none 0 0, .int .i64 (N : Int)]).run Try.prog w = _ := fun ty =>
    Lib.run_append_grow_zeros w 41 3 ty 42 i0 (.int .u64 0) .i64 .i64 Try.underlying41 Try.underlying3 hi hz0 none 0 0 [] hfc N h0 (by rw [hz1]; omega) (by omega) (by omega) (by rw [hz2]; omega) (growslice_fits (by omega) (by rw [hz2]; omega))
  have hown := World.ownsRow_made (base := w.heap.size) (e := 42) (size := 1) w.drew ([].toArray ++ Builtin.zeroCells (Value.int .u64 0).cells N ++ Builtin.zeroCells (Value.int .u64 0).cells (grownCap w (0 + N) 0 42 - (0 + N))) (grownCap w (0 + N) 0 42) (Nat.le_refl _) hgl (by
    have hz : ∀ k, (Builtin.zeroCells (Value.int .u64 0).cells k).size = k := fun k => by rw [size_zeroCells]; exact Nat.mul_one k
    rw [Array.size_append, Array.size_append, hz, hz]
    show 0 + N + _ = _
    omega)
  have hbl := (Below.refl w.heap.size w).drew.alloc (Nat.le_refl _) (.cells ([].toArray ++ Builtin.zeroCells (Value.int .u64 0).cells N ++ Builtin.zeroCells (Value.int .u64 0).cells (grownCap w (0 + N) 0 42 - (0 + N))) 42)
  have HO := Lib.hid hown
  have HL := Lib.hid hbl
  have d1 : ¬ ((N : Int) < 0) := by omega
  have d2 : wrap64 ((N : Int) - wrap64 (0 - 0)) = (N : Int) := by unfold wrap64; omega
  have d3 : (N : Int) > 0 := by omega
  clear hfc hown hbl hgl
  generalize grownCap w (0 + N) 0 42 = G at *
  generalize (World.alloc w.drew _) = w9 at *
  go_enter Try.func59, Try.ntmps59
  go_wp2_with (at_builtin; refine Lib.wpList_append_run _ rfl _ _ _ _ rfl _ _ rfl rfl _ _ (hrz _) ?_)
  go_ret
  exact ⟨G, rfl, HO.out, HL.out⟩
def accF (m n i : Nat) : Nat := if i = 0 then 0 else if i = 1 then m else m + n
set_option maxRecDepth 100000 in
set_option maxHeartbeats 4000000 in
theorem Concat_any (b rw rg m n : Nat) (wl gl : List Int) (w : World) (hb : b < w.heap.size) (h0 : w.cell? ⟨b, 0, none⟩ = some (.slice (some ⟨rw, 0, none⟩) m m)) (h1 : w.cell? ⟨b, 1, none⟩ = some (.slice (some ⟨rg, 0, none⟩) n n)) (hw : URow w rw wl) (hg : URow w rg gl) (lw : wl.length = m) (lg : gl.length = n) (m1 : 1 ≤ m) (m2 : m ≤ 4096) (n1 : 1 ≤ n) (n2 : n ≤ 64) :
    Calls Try.prog 42 #[.slice (some ⟨b, 0, none⟩) 2 2] w fun e w' => ∃ v', e = .returned v' ∧ w'.ownsRow w.heap.size 42 1 v' (m + n) ((wl ++ gl).map (Value.int .u64)) ∧ Below w.heap.size w w' := by
  have HB := Lib.hid hb
  have HW := Lib.hid hw
  have HG := Lib.hid hg
  have LW := Lib.hid lw
  have LG := Lib.hid lg
  have HN := Lib.hid (show (1 ≤ m ∧ m ≤ 4096) ∧ 1 ≤ n ∧ n ≤ 64 from ⟨⟨m1, m2⟩, n1, n2⟩)
  have C0 := Lib.hid h0
  have C1 := Lib.hid h1
  have a1 : wrap64 (m : Int) = (m : Int) := by unfold wrap64; omega
  have a2 : wrap64 ((m : Int) + (n : Int)) = ((m + n : Nat) : Int) := by unfold wrap64; omega
  have A1 := Lib.hid a1
  have A2 := Lib.hid a2
  clear hb h0 h1 hw hg lw lg m1 m2 n1 n2 a1 a2
  go_enter Try.func42, Try.ntmps42
  go_wp2_with fail
  go_loopw [3, 5, 11] (fun s3 s5 s11 wr => ∃ i : Nat, i ≤ 2 ∧ s11 = .int .i64 i ∧ s3 = .int .i64 (accF m n i) ∧ w = wr) (fun s3 s5 s11 _ => 2 - (intOf s11).toNat)
  case atStart => exact ⟨0, by omega, rfl, rfl, rfl⟩
  case round =>
    obtain ⟨i, hi, rfl, rfl, rfl⟩ := hrel
    rcases (show i = 0 ∨ i = 1 ∨ i = 2 by omega) with rfl | rfl | rfl
    · have q0 := C0.out
      have a1 := A1.out
      have k0 : decide ((m : Int) < 0) = false := decide_eq_false (by omega)
      rw [show accF m n 0 = 0 from rfl]
      go_wp2_with fail
      exact ⟨⟨1, by omega, rfl, congrArg (Value.int .i64) a1, trivial⟩, by decide⟩
    · have q1 := C1.out
      have a2 := A2.out
      have k0 : decide (((m + n : Nat) : Int) < 0) = false := decide_eq_false (by omega)
      rw [show accF m n 1 = m from rfl]
      go_wp2_with fail
      exact ⟨⟨2, by omega, rfl, congrArg (Value.int .i64) a2, trivial⟩, by decide⟩
    · rw [show accF m n 2 = m + n from rfl]
      go_wp2_with fail
      refine (Grow0_any (m + n) (by have := HN.out; omega) (by have := HN.out; omega) w).mono ?_; rintro e w1 ⟨G, rfl, ho, hl⟩
      have O1 := Lib.hid ho
      have L1 := Lib.hid hl
      clear ho hl
      go_wp2_with fail
      obtain ⟨i0, hi, hz0, hz1, hz2⟩ := info_parts word_info
      go_loopw [6, 8, 27] (fun s6 s8 s27 w2 => ∃ i : Nat, i ≤ 2 ∧ s27 = .int .i64 i ∧ w2.ownsRow w.heap.size 42 1 s6 (accF m n i) (((wl ++ gl).take (accF m n i)).map (Value.int .u64)) ∧ Below w.heap.size w w2) (fun s6 s8 s27 _ => 2 - (intOf s27).toNat)
      case atStart => exact ⟨0, by omega, rfl, by simpa [accF] using O1.out, L1.out⟩
      case round =>
      obtain ⟨i, hi2, rfl, hown, hbl⟩ := hrel
      have OW := Lib.hid hown
      have L2 := Lib.hid hbl
      clear hown hbl
      rcases (show i = 0 ∨ i = 1 ∨ i = 2 by omega) with rfl | rfl | rfl
      · have q0 := (L2.out.cell (p := ⟨b, 0, none⟩) HB.out).trans C0.out
        rw [show accF m n 0 = 0 from rfl] at OW
        go_wp2_with (at_builtin; refine wpList_append_own _ rfl _ _ 41 rfl w.heap.size 42 i0 (.int .u64 0) 1 8 Try.underlying41 hi hz0 hz1 hz2 rfl (by decide) _ _ _ rfl OW.out ⟨rw, 0, none⟩ m m (wl.map (Value.int .u64)) rfl ?c1 ?c2 ?c3 ?c4 ?c5 ?c6 ?_)
        case c1 => rw [List.length_map, LW.out]; omega
        case c2 =>
          intro j u hj
          rw [List.getElem?_map] at hj
          obtain ⟨x, hx, rfl⟩ := Option.map_eq_some_iff.1 hj
          have hlt := (List.getElem?_eq_some_iff.1 hx).1
          rw [Addr.add_lit]
          have := ((HW.out.bl L2.out).word hlt)
          rw [show nth wl j = x by simp [nth, List.getD_eq_getElem?_getD, hx]] at this
          simpa using this
        case c3 => intro u hu; obtain ⟨x, _, rfl⟩ := List.mem_map.1 hu; rfl
        case c4 => have := HN.out; first | omega | (unfold maxLen; omega)
        case c5 => have := HN.out; omega
        case c6 => have := HN.out; have := L2.out.size; first | omega | simp
        intro v' w3 hown hgrow hnil
        have L3 := Lib.hid (L2.out.grown hgrow L2.out.size (fun k hk => (OW.out.lt k hk).1))
        have O3 := Lib.hid hown
        clear hown hgrow hnil
        go_wp2_with fail
        refine ⟨⟨1, by omega, rfl, ?_, L3.out⟩, by decide⟩
        have o3 := O3.out
        rw [show accF m n 1 = m from rfl]
        rw [List.take_append_of_le_length (by rw [LW.out]; omega), List.take_of_length_le (by rw [LW.out]; omega)]
        exact o3
      · have q0 := (L2.out.cell (p := ⟨b, 1, none⟩) HB.out).trans C1.out
        rw [show accF m n 1 = m from rfl] at OW
        go_wp2_with (at_builtin; refine wpList_append_own _ rfl _ _ 41 rfl w.heap.size 42 i0 (.int .u64 0) 1 8 Try.underlying41 hi hz0 hz1 hz2 rfl (by decide) _ _ _ rfl OW.out ⟨rg, 0, none⟩ n n (gl.map (Value.int .u64)) rfl ?c1 ?c2 ?c3 ?c4 ?c5 ?c6 ?_)
        case c1 => rw [List.length_map, LG.out]; omega
        case c2 =>
          intro j u hj
          rw [List.getElem?_map] at hj
          obtain ⟨x, hx, rfl⟩ := Option.map_eq_some_iff.1 hj
          have hlt := (List.getElem?_eq_some_iff.1 hx).1
          rw [Addr.add_lit]
          have := ((HG.out.bl L2.out).word hlt)
          rw [show nth gl j = x by simp [nth, List.getD_eq_getElem?_getD, hx]] at this
          simpa using this
        case c3 => intro u hu; obtain ⟨x, _, rfl⟩ := List.mem_map.1 hu; rfl
        case c4 => have := HN.out; first | omega | (unfold maxLen; omega)
        case c5 => have := HN.out; omega
        case c6 => have := HN.out; have := L2.out.size; first | omega | simp
        intro v' w3 hown hgrow hnil
        have L3 := Lib.hid (L2.out.grown hgrow L2.out.size (fun k hk => (OW.out.lt k hk).1))
        have O3 := Lib.hid hown
        clear hown hgrow hnil
        go_wp2_with fail
        refine ⟨⟨2, by omega, rfl, ?_, L3.out⟩, by decide⟩
        have o3 := O3.out
        rw [show accF m n 2 = m + n from rfl]
        skip
        rw [List.take_of_length_le (by rw [List.length_append, LW.out, LG.out]; omega), List.map_append]
        rw [List.take_append_of_le_length (by rw [List.length_map, LW.out]; omega), List.take_of_length_le (by rw [List.length_map, LW.out]; omega)] at o3; exact o3
      · rw [show accF m n 2 = m + n from rfl, List.take_of_length_le (by rw [List.length_append, LW.out, LG.out]; omega)] at OW
        go_wp2_with fail
        go_ret
        exact ⟨_, rfl, OW.out, L2.out⟩
end Go.Proofs.Ytjdalllfnlpmnaa.Bank
