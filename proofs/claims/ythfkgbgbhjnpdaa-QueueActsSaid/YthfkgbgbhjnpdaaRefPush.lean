/-
  The reference's queue in memory: Push. Conditions stand at each. By an AI agent.
-/
import Derived.Test.YthfkgbgbhjnpdaaRefQ
import Derived.Test.YthfkgbgbhjnpdaaHeadM
import Derived.Deep.CutRange
import Derived.Deep.AppendLies
import Derived.Laws.OwnMore
import Derived.OwnWalk
namespace Go.Proofs.Ythfkgbgbhjnpdaa.Queue
set_option linter.unusedVariables false
set_option linter.unusedSimpArgs false
open Go Go.RowKit Go.Proofs.Ythfkgbgbhjnpdaa.Base Go.Deep

theorem u64_info : (Try.prog.info? 22).map (fun i => (i.zero, i.size, i.bytes)) = some (some (.int .u64 0), 1, 8) := by kernel_rfl
/-- the queue's struct in block gq, what is in it in a row of its own at base or above -/
structure QAt (w : World) (gq base : Nat) (room : Int) (v : Value) (xs : List Int) (got lost : Int) : Prop where
  head : Blk w gq 34 #[.int .i64 room, v, .int .u64 got, .int .u64 lost]
  row : w.ownsRow base 22 1 v xs.length (xs.map (Value.int .u64))
  hq : base ≤ gq
  sep : v.ownBlock ≠ some gq
theorem QAt.bl {w w' : World} {gq base : Nat} {room : Int} {v : Value} {xs : List Int} {got lost : Int} (h : QAt w gq base room v xs got lost) (hb : Below w.heap.size w w') : QAt w' gq base room v xs got lost :=
  ⟨h.head.bl hb, World_ownsRow_bl h.row hb, h.hq, h.sep⟩
def QIn (w : World) (gq base : Nat) (room : Int) (xs : List Int) (got lost : Int) : Prop := ∃ v, QAt w gq base room v xs got lost
theorem QIn.bl {w w' : World} {gq base : Nat} {room : Int} {xs : List Int} {got lost : Int} (h : QIn w gq base room xs got lost) (hb : Below w.heap.size w w') : QIn w' gq base room xs got lost :=
  let ⟨v, h⟩ := h
  ⟨v, h.bl hb⟩

theorem tail_map (xs : List Int) : xs.tail.map (Value.int .u64) = (xs.map (Value.int .u64)).tail := by cases xs <;> rfl
theorem lt_of_row {w : World} {base e size n : Nat} {v : Value} {xs : List Value} {k : Nat} (h : w.ownsRow base e size v n xs) (hv : v.ownBlock = some k) : k < w.heap.size := (h.lt k hv).2

/-- behind the first append, and the store of the new header -/
theorem QAt.push {w w1 : World} {gq base : Nat} {room : Int} {v : Value} {xs : List Int} {got lost g : Int} {k cap : Nat} {o : Obj} (h : QAt w gq base room v xs got lost)
    (hown : w1.ownsRow base 22 1 (.slice (some ⟨k, 0, none⟩) (xs.length + 1) cap) (xs.length + 1) (xs.map (Value.int .u64) ++ [.int .u64 g])) (hg : (w.alloc o).grownBy w1 v.ownBlock) (hlie : v.ownBlock = some k ∨ k = w.heap.size + 1) :
    QAt (w1.setCell ⟨gq, 1, none⟩ (.slice (some ⟨k, 0, none⟩) (xs.length + 1) cap)) gq base room (.slice (some ⟨k, 0, none⟩) (xs.length + 1) cap) (xs ++ [g]) got lost ∧ Below base w (w1.setCell ⟨gq, 1, none⟩ (.slice (some ⟨k, 0, none⟩) (xs.length + 1) cap)) ∧ w.heap.size < w1.heap.size := by
  have hlt := h.head.lt
  have hgk : gq ≠ k := by
    rcases hlie with h1 | h1
    · rintro rfl; exact h.sep h1
    · omega
  have hh : Blk w1 gq 34 #[.int .i64 room, v, .int .u64 got, .int .u64 lost] := (h.head.alloc o).grown hg (fun e => h.sep e.symm)
  have hb1 : Below base w (w.alloc o) := (Below.refl _ _).alloc (by have := h.hq; omega) _
  have hb2 : Below base w w1 := hb1.grown hg (by have := h.hq; simp; omega) (fun k hk => (h.row.lt k hk).1)
  refine ⟨⟨?_, ?_, h.hq, ?_⟩, hb2.setCell (by simpa using h.hq) _, ?_⟩
  · have := hh.set_ 1 (.slice (some ⟨k, 0, none⟩) (xs.length + 1) cap)
    simpa using this
  · have := hown.kept (w' := w1.setCell ⟨gq, 1, none⟩ (.slice (some ⟨k, 0, none⟩) (xs.length + 1) cap)) (row := some gq) ⟨rfl, rfl, rfl, by simp [World.setCell], fun j hj hne => Below.heap_setCell _ _ _ _ (fun e => hne (by rw [e]))⟩ (.inr (by simp [Value.ownBlock]; omega))
    simpa using this
  · simp [Value.ownBlock]; omega
  · have := hg.size; simp at this; omega

set_option maxRecDepth 100000 in
set_option maxHeartbeats 8000000 in
theorem Push_fits (gq base : Nat) (room : Int) (xs : List Int) (got lost g : Int) (w : World) (h : QIn w gq base room xs got lost) (hlen : (xs.length : Int) + 1 ≤ room) (hr : room ≤ 15) (hg : 0 ≤ g ∧ g ≤ 18446744073709551615) :
    Calls Try.prog 12 #[.pointer (some ⟨gq, 0, none⟩), .int .u64 g] w fun e w' => e = .returned (.tuple #[]) ∧ QIn w' gq base room (xs ++ [g]) got lost ∧ Below base w w' ∧ w.heap.size ≤ w'.heap.size := by
  obtain ⟨v, h⟩ := h
  obtain ⟨i0, hi0, hz0, hz1, hz2⟩ := info_parts u64_info
  have H := Lib.hid h
  have c1 := h.head.cell 1
  simp only [List.getElem?_toArray, List.getElem?_cons_succ, List.getElem?_cons_zero] at c1
  have hgq := h.head.lt
  clear h
  go_enter Try.func12, Try.ntmps12
  go_wp2_with (at_builtin; refine wpList_append_lies _ rfl _ _ 32 rfl base 22 i0 (.int .u64 0) 1 8 Try.underlying32 hi0 hz0 hz1 hz2 rfl (by decide) _ _ _ rfl (H.out.row.alloc _) ⟨w.heap.size, 0, none⟩ 1 1 [.int .u64 g] rfl rfl ?c1 ?c2 (by decide) ?c3 ?c4 ?c5 (w.heap.size + 1) (by simp) ?_)
  case c1 => intro j u hj; rcases j with _ | j <;> simp at hj; subst hj; rw [show (⟨w.heap.size, 0, none⟩ : Addr).add 0 = ⟨w.heap.size, 0, none⟩ from rfl, (Blk.new w _ _).cell 0]; rfl
  case c2 => intro u hu; simp at hu; subst hu; rfl
  case c3 => unfold maxLen; omega
  case c4 => omega
  case c5 => have := H.out.hq; simp; omega
  intro k cap w1 hown hgrow hlie hkl
  obtain ⟨hq, hb, hsz⟩ := H.out.push hown hgrow (hlie.imp id (fun h => h))
  have HQ := Lib.hid hq
  have HB := Lib.hid hb
  have d1 := hq.head.cell 1
  have d0 := hq.head.cell 0
  simp only [List.getElem?_toArray, List.getElem?_cons_succ, List.getElem?_cons_zero] at d0 d1
  have e1 : w1.cell? ⟨gq, 1, none⟩ = some v := by
    have hh : Blk w1 gq 34 #[.int .i64 room, v, .int .u64 got, .int .u64 lost] := (H.out.head.alloc _).grown hgrow (fun e => H.out.sep e.symm)
    rw [hh.cell 1]; rfl
  have f1 : w1.frozen? ⟨gq, 1, none⟩ = false := by
    have hh : Blk w1 gq 34 #[.int .i64 room, v, .int .u64 got, .int .u64 lost] := (H.out.head.alloc _).grown hgrow (fun e => H.out.sep e.symm)
    exact hh.frozen 1
  clear hq hb hown hgrow hlie
  go_wp2_with fail
  go_quiet (fail)
  go_wp2_with fail
  go_end0
  exact ⟨rfl, ⟨_, HQ.out.bl (below_drewN (Below.refl _ _) _)⟩, below_drewN HB.out _, by simp; omega⟩
set_option maxRecDepth 100000 in
set_option maxHeartbeats 8000000 in
theorem Push_full (gq base : Nat) (room : Int) (xs : List Int) (got lost g : Int) (w : World) (h : QIn w gq base room xs got lost) (hlen : room < (xs.length : Int) + 1) (hl15 : xs.length ≤ 15) (hr1 : 1 ≤ room) (hfit : ∀ x ∈ xs, 0 ≤ x ∧ x ≤ 18446744073709551615) (hr : room ≤ 15) (hg : 0 ≤ g ∧ g ≤ 18446744073709551615) :
    Calls Try.prog 12 #[.pointer (some ⟨gq, 0, none⟩), .int .u64 g] w fun e w' => e = .returned (.tuple #[]) ∧ QIn w' gq base room (xs ++ [g]).tail got (IntKind.u64.wrap (lost + 1)) ∧ Below base w w' ∧ w.heap.size ≤ w'.heap.size := by
  obtain ⟨v, h⟩ := h
  obtain ⟨i0, hi0, hz0, hz1, hz2⟩ := info_parts u64_info
  have H := Lib.hid h
  have c1 := h.head.cell 1
  simp only [List.getElem?_toArray, List.getElem?_cons_succ, List.getElem?_cons_zero] at c1
  have hgq := h.head.lt
  clear h
  go_enter Try.func12, Try.ntmps12
  go_wp2_with (at_builtin; refine wpList_append_lies _ rfl _ _ 32 rfl base 22 i0 (.int .u64 0) 1 8 Try.underlying32 hi0 hz0 hz1 hz2 rfl (by decide) _ _ _ rfl (H.out.row.alloc _) ⟨w.heap.size, 0, none⟩ 1 1 [.int .u64 g] rfl rfl ?c1 ?c2 (by decide) ?c3 ?c4 ?c5 (w.heap.size + 1) (by simp) ?_)
  case c1 => intro j u hj; rcases j with _ | j <;> simp at hj; subst hj; rw [show (⟨w.heap.size, 0, none⟩ : Addr).add 0 = ⟨w.heap.size, 0, none⟩ from rfl, (Blk.new w _ _).cell 0]; rfl
  case c2 => intro u hu; simp at hu; subst hu; rfl
  case c3 => unfold maxLen; omega
  case c4 => omega
  case c5 => have := H.out.hq; simp; omega
  intro k cap w1 hown hgrow hlie hkl
  obtain ⟨hq, hb, hsz⟩ := H.out.push hown hgrow (hlie.imp id (fun h => h))
  have HQ := Lib.hid hq
  have HB := Lib.hid hb
  have d1 := hq.head.cell 1
  have d0 := hq.head.cell 0
  simp only [List.getElem?_toArray, List.getElem?_cons_succ, List.getElem?_cons_zero] at d0 d1
  have e1 : w1.cell? ⟨gq, 1, none⟩ = some v := by
    have hh : Blk w1 gq 34 #[.int .i64 room, v, .int .u64 got, .int .u64 lost] := (H.out.head.alloc _).grown hgrow (fun e => H.out.sep e.symm)
    rw [hh.cell 1]; rfl
  have f1 : w1.frozen? ⟨gq, 1, none⟩ = false := by
    have hh : Blk w1 gq 34 #[.int .i64 room, v, .int .u64 got, .int .u64 lost] := (H.out.head.alloc _).grown hgrow (fun e => H.out.sep e.symm)
    exact hh.frozen 1
  clear hq hb hown hgrow hlie
  go_wp2_with fail
  go_quiet (fail)
  generalize hW : (w1.setCell ⟨gq, 1, none⟩ (.slice (some ⟨k, 0, none⟩) (xs.length + 1) cap)).drewN nq = W2 at *
  have HQ2 := Lib.hid (show QAt W2 gq base room (.slice (some ⟨k, 0, none⟩) (xs.length + 1) cap) (xs ++ [g]) got lost by rw [← hW]; exact HQ.out.bl (below_drewN (Below.refl _ _) _))
  have HB2 := Lib.hid (show Below base w W2 by rw [← hW]; exact below_drewN HB.out _)
  have hsz2 : w.heap.size ≤ W2.heap.size := by rw [← hW]; simp; omega
  clear hW d0 d1 e1 f1 HQ HB hsz hkl hgq c1
  have d1 := HQ2.out.head.cell 1
  have f1 := HQ2.out.head.frozen 1
  simp only [List.getElem?_toArray, List.getElem?_cons_succ, List.getElem?_cons_zero] at d1
  have hgq := HQ2.out.head.lt
  have hown0 : (W2.alloc (.cells #[] 22)).ownsRow base 22 1 (.slice (some ⟨W2.heap.size, 0, none⟩) 0 0) 0 [] := World.ownsRow_made W2 #[] 0 (by have := HQ2.out.hq; omega) (by decide) rfl
  have HO := Lib.hid hown0
  clear hown0
  have hc1 : (1 : Int) ≤ (cap : Int) := by
    have := HQ2.out.row.2
    rcases this with ⟨h, _⟩ | ⟨g', cap', cur, h, _, _, hle, _⟩
    · cases h
    · injection h with _ _ h3; subst h3; simp at hle; omega
  have hc2 : xs.length + 1 ≤ cap := by
    have := HQ2.out.row.2
    rcases this with ⟨h, _⟩ | ⟨g', cap', cur, h, _, _, hle, _⟩
    · cases h
    · injection h with _ _ h3; subst h3; simpa using hle
  have hl1 : (1 : Int) ≤ (xs.length : Int) + 1 := by omega
  go_wp2_with (at_builtin; refine wpList_append_lies _ rfl _ _ 32 rfl base 22 i0 (.int .u64 0) 1 8 Try.underlying32 hi0 hz0 hz1 hz2 rfl (by decide) _ _ _ rfl HO.out ⟨k, 1, none⟩ xs.length (cap - 1) ((xs ++ [g]).tail.map (Value.int .u64)) rfl ?c1 ?c2 ?c3 ?c4 ?c5 ?c6 ?c7 (W2.heap.size + 1) (by simp) ?_)
  case c1 => simp
  case c2 =>
    intro j u hj
    rw [tail_map, List.getElem?_tail] at hj
    have hjl : j + 1 < (xs ++ [g]).length * 1 := by
      obtain ⟨h, _⟩ := List.getElem?_eq_some_iff.1 hj
      simpa using h
    have hrow := HQ2.out.row
    simp only [List.length_append, List.length_singleton] at hrow hjl
    have hk := hrow.cellAt (j + 1) hjl
    have e : (⟨k, 1, none⟩ : Addr).add j = ⟨k, j + 1, none⟩ := by unfold Addr.add; split <;> simp_all <;> omega
    rw [e, ← hj, ← hk]
    exact Below.cell (p := ⟨k, j + 1, none⟩) ((Below.refl _ _).alloc (Nat.le_refl _) _) (hrow.lt k rfl).2
  case c3 => simp only [List.mem_map]; rintro u ⟨x, _, rfl⟩; rfl
  case c4 => omega
  case c5 => unfold maxLen; omega
  case c6 => omega
  case c7 => have := HQ2.out.hq; simp; omega
  intro k2 cap2 w3 hown3 hgrow3 hlie3 hkl3
  have hne : gq ≠ k2 := by
    rcases hlie3 with h | h
    · simp [Value.ownBlock] at h; omega
    · omega
  have hh : Blk w3 gq 34 #[.int .i64 room, .slice (some ⟨k, 0, none⟩) (xs.length + 1) cap, .int .u64 got, .int .u64 lost] := (HQ2.out.head.alloc _).grown hgrow3 (by simp [Value.ownBlock]; omega)
  have g1 := hh.cell 1
  have g3 := hh.cell 3
  have f1 := hh.frozen 1
  have f3 := hh.frozen 3
  simp only [List.getElem?_toArray, List.getElem?_cons_succ, List.getElem?_cons_zero] at g1 g3
  have HH := Lib.hid hh
  have HG := Lib.hid hgrow3
  have HO3 := Lib.hid hown3
  clear hh hgrow3 hown3 hlie3 d1
  go_wp2_with fail
  go_end0
  have hb3 : Below base w w3 := (HB2.out.alloc (by have := HQ2.out.hq; omega) _).grown HG.out (by have := HQ2.out.hq; simp; omega) (fun k hk => by simp [Value.ownBlock] at hk; have := HQ2.out.hq; omega)
  have hq0 : base ≤ gq := HQ2.out.hq
  refine ⟨rfl, ⟨.slice (some ⟨k2, 0, none⟩) xs.length cap2, ?_⟩, ?_, ?_⟩
  case refine_2 => exact Below.setCell (Below.setCell hb3 hq0 _) hq0 _
  case refine_3 => have := HG.out.size; simp [World.setCell] at this ⊢; omega
  refine ⟨?_, ?_, HQ2.out.hq, by simp [Value.ownBlock]; omega⟩
  · have := (HH.out.set_ 1 (.slice (some ⟨k2, 0, none⟩) xs.length cap2)).set_ 3 (.int .u64 (IntKind.u64.wrap (lost + 1)))
    simpa using this
  · have hl : (xs ++ [g]).tail.length = xs.length := by simp
    rw [hl, tail_map]
    have := HO3.out.kept (w' := (w3.setCell ⟨gq, 1, none⟩ (.slice (some ⟨k2, 0, none⟩) xs.length cap2)).setCell ⟨gq, 3, none⟩ (.int .u64 (IntKind.u64.wrap (lost + 1)))) (row := some gq) ⟨rfl, rfl, rfl, by simp [World.setCell], fun j hj hne => by rw [Below.heap_setCell _ _ _ _ (fun e => hne (by rw [e])), Below.heap_setCell _ _ _ _ (fun e => hne (by rw [e]))]⟩ (.inr (by simp [Value.ownBlock]; omega))
    simpa using this
end Go.Proofs.Ythfkgbgbhjnpdaa.Queue
