/-
  The reference's queue in memory: Pop. Conditions stand at each. By an AI agent.
-/
import Derived.Test.YthfkgbgbhjnpdaaRefPush
import Derived.Maps.AppendAt
namespace Go.Proofs.Ythfkgbgbhjnpdaa.Queue
set_option linter.unusedVariables false
set_option linter.unusedSimpArgs false
open Go Go.RowKit Go.Proofs.Ythfkgbgbhjnpdaa.Base Go.Deep Go.Maps

set_option maxRecDepth 100000 in
set_option maxHeartbeats 4000000 in
theorem Pop_none (gq base : Nat) (room : Int) (got lost : Int) (w : World) (h : QIn w gq base room [] got lost) :
    Calls Try.prog 14 #[.pointer (some ⟨gq, 0, none⟩)] w fun e w' => e = .returned (.tuple #[.int .u64 0, .bool false]) ∧ w = w' := by
  obtain ⟨v, h⟩ := h
  have c1 := h.head.cell 1
  simp only [List.getElem?_toArray, List.getElem?_cons_succ, List.getElem?_cons_zero] at c1
  obtain ⟨A, cap, rfl⟩ : ∃ A cap, v = .slice A 0 cap := by
    rcases h.row.2 with ⟨rfl, _⟩ | ⟨g', cap', cur, rfl, _, _, hle, _⟩
    · exact ⟨_, _, rfl⟩
    · exact ⟨_, _, rfl⟩
  clear h
  go_enter Try.func14, Try.ntmps14
  go_wp2_with fail
  go_ret2
  exact ⟨rfl, rfl⟩
theorem pop_cell {w : World} {gq base k cap : Nat} {room got lost x : Int} {rest : List Int} {o : Obj} {j : Nat} {u : Value} (h : QAt w gq base room (.slice (some ⟨k, 0, none⟩) (rest.length + 1) cap) (x :: rest) got lost)
    (hj : (rest.map (Value.int .u64))[j]? = some u) : (w.alloc o).cell? ((⟨k, 1, none⟩ : Addr).add j) = some u := by
  have hjl : j < rest.length := by
    obtain ⟨h, _⟩ := List.getElem?_eq_some_iff.1 hj
    simpa using h
  have hrow := h.row
  simp only [List.length_cons] at hrow
  have hk := hrow.cellAt (j + 1) (by omega)
  have e : (⟨k, 1, none⟩ : Addr).add j = ⟨k, j + 1, none⟩ := by unfold Addr.add; split <;> simp_all <;> omega
  rw [e, ← hj]
  rw [List.map_cons, List.getElem?_cons_succ] at hk
  rw [← hk]
  exact Below.cell (p := ⟨k, j + 1, none⟩) ((Below.refl _ _).alloc (Nat.le_refl _) _) (hrow.lt k rfl).2
set_option maxRecDepth 100000 in
set_option maxHeartbeats 8000000 in
theorem Pop_some (gq base : Nat) (room : Int) (x : Int) (rest : List Int) (got lost : Int) (w : World) (h : QIn w gq base room (x :: rest) got lost) (hl15 : rest.length ≤ 15) :
    Calls Try.prog 14 #[.pointer (some ⟨gq, 0, none⟩)] w fun e w' => e = .returned (.tuple #[.int .u64 x, .bool true]) ∧ QIn w' gq base room rest (IntKind.u64.wrap (got + 1)) lost ∧ Ex2 gq gq w w' := by
  obtain ⟨v, h⟩ := h
  obtain ⟨i0, hi0, hz0, hz1, hz2⟩ := info_parts u64_info
  have c1 := h.head.cell 1
  have c2 := h.head.cell 2
  simp only [List.getElem?_toArray, List.getElem?_cons_succ, List.getElem?_cons_zero] at c1 c2
  have hgq := h.head.lt
  obtain ⟨k, cap, rfl, hcap⟩ : ∃ k cap, v = .slice (some ⟨k, 0, none⟩) (rest.length + 1) cap ∧ rest.length + 1 ≤ cap := by
    rcases h.row.2 with ⟨_, h0⟩ | ⟨g', cap', cur, rfl, _, _, hle, _⟩
    · simp at h0
    · exact ⟨_, _, rfl, by simpa using hle⟩
  have H := Lib.hid h
  have hk := (h.row.lt k rfl)
  have hbase := h.hq
  have e0 : w.cell? ⟨k, 0, none⟩ = some (.int .u64 x) := by
    have := h.row.cellAt 0 (by simp)
    simpa using this
  have f1 := h.head.frozen 1
  have f2 := h.head.frozen 2
  have hown0 : (w.alloc (.cells #[] 22)).ownsRow base 22 1 (.slice (some ⟨w.heap.size, 0, none⟩) 0 0) 0 [] := World.ownsRow_made w #[] 0 (by omega) (by decide) rfl
  have HO := Lib.hid hown0
  clear hown0 h
  have hc1 : (1 : Int) ≤ (cap : Int) := by omega
  have hl1 : (1 : Int) ≤ (rest.length : Int) + 1 := by omega
  have hl2 : ((rest.length : Int) + 1 == 0) = false := by rw [beq_eq_false_iff_ne]; omega
  by_cases hcap1 : cap = 1
  · subst hcap1
    obtain rfl : rest = [] := by
      cases rest with
      | nil => rfl
      | cons _ _ => simp at hcap
    go_enter Try.func14, Try.ntmps14
    go_wp2_with (at_builtin; refine wpList_append_own_at _ rfl _ _ 32 rfl base 22 i0 (.int .u64 0) 1 8 Try.underlying32 hi0 hz0 hz1 hz2 rfl (by decide) _ _ _ rfl HO.out ⟨k, 0, none⟩ 0 0 (([] : List Int).map (Value.int .u64)) rfl ?c1 ?c2 ?c3 ?c4 ?c5 ?c6 ?_)
    case c1 => simp
    case c2 => intro j u hj; simp at hj
    case c3 => simp only [List.mem_map]; rintro u ⟨x, _, rfl⟩; rfl
    case c4 => unfold maxLen; omega
    case c5 => omega
    case c6 => simp; omega
    intro v3 w3 hown3 hgrow3 _ hlie3
    obtain ⟨A3, c3, rfl⟩ : ∃ A c, v3 = .slice A 0 c := by
      rcases hown3.2 with ⟨h, h'⟩ | ⟨g', cap', cur, h, _, _, hle, _⟩
      · exact ⟨none, 0, by rw [h] <;> (congr 1; omega)⟩
      · exact ⟨_, _, by rw [h] <;> (congr 1; omega)⟩
    have hne : (Value.slice A3 0 c3).ownBlock ≠ some gq := by
      rcases hlie3 with h | h
      · rw [h]; simp [Value.ownBlock]; omega
      · rw [h]; simp; omega
    have hh : Blk w3 gq 34 #[.int .i64 room, .slice (some ⟨k, 0, none⟩) (([] : List Int).length + 1) 1, .int .u64 got, .int .u64 lost] := (H.out.head.alloc _).grown hgrow3 (by simp [Value.ownBlock]; omega)
    have g1 := hh.cell 1
    have g2 := hh.cell 2
    have f1' := hh.frozen 1
    have f2' := hh.frozen 2
    simp only [List.getElem?_toArray, List.getElem?_cons_succ, List.getElem?_cons_zero] at g1 g2
    have HH := Lib.hid hh
    have HG := Lib.hid hgrow3
    have HO3 := Lib.hid hown3
    have HNE := Lib.hid hne
    clear hh hgrow3 hown3 hlie3 c1 c2 f1 f2 e0 hne hl2
    go_wp2_with fail
    go_ret2
    have he3 : Ex2 gq gq w w3 := ⟨HG.out.os, HG.out.tape, HG.out.output, by have := HG.out.size; simp at this; omega, fun j hj _ _ => (HG.out.block j (by simp; omega) (by simp [Value.ownBlock]; omega)).trans (Below.heap_alloc w _ j hj)⟩
    have hA := (HH.out.set_ 1 (.slice A3 0 c3)).set_ 2 (.int .u64 (IntKind.u64.wrap (got + 1)))
    have hB := HO3.out.kept (w' := (w3.setCell ⟨gq, 1, none⟩ (.slice A3 0 c3)).setCell ⟨gq, 2, none⟩ (.int .u64 (IntKind.u64.wrap (got + 1)))) (row := some gq) ⟨rfl, rfl, rfl, by simp [World.setCell], fun j hj hne => by rw [Below.heap_setCell _ _ _ _ (fun e => hne (by rw [e])), Below.heap_setCell _ _ _ _ (fun e => hne (by rw [e]))]⟩ (.inr HNE.out)
    refine ⟨rfl, ⟨.slice A3 0 c3, ⟨by simpa using hA, by simpa using hB, hbase, HNE.out⟩⟩, (he3.setCell (q := ⟨gq, 1, none⟩) (.inl rfl) _).setCell (q := ⟨gq, 2, none⟩) (.inl rfl) _⟩
  · have hcap2 : (1 : Int) < (cap : Int) := by omega
    go_enter Try.func14, Try.ntmps14
    go_wp2_with (at_builtin; refine wpList_append_own_at _ rfl _ _ 32 rfl base 22 i0 (.int .u64 0) 1 8 Try.underlying32 hi0 hz0 hz1 hz2 rfl (by decide) _ _ _ rfl HO.out ⟨k, 1, none⟩ rest.length (cap - 1) (rest.map (Value.int .u64)) rfl ?c1 ?c2 ?c3 ?c4 ?c5 ?c6 ?_)
    case c1 => simp
    case c2 => intro j u hj; exact pop_cell H.out hj
    case c3 => simp only [List.mem_map]; rintro u ⟨x, _, rfl⟩; rfl
    case c4 => unfold maxLen; omega
    case c5 => omega
    case c6 => simp; omega
    intro v3 w3 hown3 hgrow3 _ hlie3
    obtain ⟨A3, c3, rfl⟩ : ∃ A c, v3 = .slice A rest.length c := by
      rcases hown3.2 with ⟨h, h'⟩ | ⟨g', cap', cur, h, _, _, hle, _⟩
      · exact ⟨none, 0, by rw [h] <;> (congr 1; omega)⟩
      · exact ⟨_, _, by rw [h] <;> (congr 1; omega)⟩
    have hne : (Value.slice A3 rest.length c3).ownBlock ≠ some gq := by
      rcases hlie3 with h | h
      · rw [h]; simp [Value.ownBlock]; omega
      · rw [h]; simp; omega
    have hh : Blk w3 gq 34 #[.int .i64 room, .slice (some ⟨k, 0, none⟩) (rest.length + 1) cap, .int .u64 got, .int .u64 lost] := (H.out.head.alloc _).grown hgrow3 (by simp [Value.ownBlock]; omega)
    have g1 := hh.cell 1
    have g2 := hh.cell 2
    have f1' := hh.frozen 1
    have f2' := hh.frozen 2
    simp only [List.getElem?_toArray, List.getElem?_cons_succ, List.getElem?_cons_zero] at g1 g2
    have HH := Lib.hid hh
    have HG := Lib.hid hgrow3
    have HO3 := Lib.hid hown3
    have HNE := Lib.hid hne
    clear hh hgrow3 hown3 hlie3 c1 c2 f1 f2 e0 hne hl2
    go_wp2_with fail
    go_ret2
    have he3 : Ex2 gq gq w w3 := ⟨HG.out.os, HG.out.tape, HG.out.output, by have := HG.out.size; simp at this; omega, fun j hj _ _ => (HG.out.block j (by simp; omega) (by simp [Value.ownBlock]; omega)).trans (Below.heap_alloc w _ j hj)⟩
    have hA := (HH.out.set_ 1 (.slice A3 rest.length c3)).set_ 2 (.int .u64 (IntKind.u64.wrap (got + 1)))
    have hB := HO3.out.kept (w' := (w3.setCell ⟨gq, 1, none⟩ (.slice A3 rest.length c3)).setCell ⟨gq, 2, none⟩ (.int .u64 (IntKind.u64.wrap (got + 1)))) (row := some gq) ⟨rfl, rfl, rfl, by simp [World.setCell], fun j hj hne => by rw [Below.heap_setCell _ _ _ _ (fun e => hne (by rw [e])), Below.heap_setCell _ _ _ _ (fun e => hne (by rw [e]))]⟩ (.inr HNE.out)
    refine ⟨rfl, ⟨.slice A3 rest.length c3, ⟨by simpa using hA, by simpa using hB, hbase, HNE.out⟩⟩, (he3.setCell (q := ⟨gq, 1, none⟩) (.inl rfl) _).setCell (q := ⟨gq, 2, none⟩) (.inl rfl) _⟩
end Go.Proofs.Ythfkgbgbhjnpdaa.Queue
