/-
  What QueueActs keeps: a cursor, and a queue into which each record was pushed. Conditions stand at each. By an AI agent.
-/
import Derived.Test.YthfkgbgbhjnpdaaQActs
import Derived.Test.YthfkgbgbhjnpdaaRefPop
namespace Go.Proofs.Ythfkgbgbhjnpdaa.Queue
set_option linter.unusedVariables false
set_option linter.unusedSimpArgs false
open Go Go.RowKit Go.Proofs.Ythfkgbgbhjnpdaa.Base Go.Deep

/-- the numbers from a to b -/
def qlist (a b : Int) : List Int := (List.range (b + 1 - a).toNat).map fun (i : Nat) => a + (i : Int)
theorem qlist_length (a b : Int) : (qlist a b).length = (b + 1 - a).toNat := by simp [qlist]
theorem qlist_nil {a b : Int} (h : b < a) : qlist a b = [] := by
  unfold qlist
  rw [show (b + 1 - a).toNat = 0 by omega]
  rfl
theorem qlist_snoc {a b : Int} (h : a ≤ b + 1) : qlist a (b + 1) = qlist a b ++ [b + 1] := by
  unfold qlist
  rw [show (b + 1 + 1 - a).toNat = (b + 1 - a).toNat + 1 by omega, List.range_succ, List.map_append]
  simp
  omega
theorem qlist_cons {a b : Int} (h : a ≤ b) : qlist a b = a :: qlist (a + 1) b := by
  unfold qlist
  rw [show (b + 1 - a).toNat = (b + 1 - (a + 1)).toNat + 1 by omega, List.range_succ_eq_map]
  simp only [List.map_cons, List.map_map]
  congr 1
  · simp
  · apply List.map_congr_left
    intro i _
    simp
    omega
theorem qlist_mem {a b x : Int} (h : x ∈ qlist a b) : a ≤ x ∧ x ≤ b := by
  unfold qlist at h
  simp at h
  obtain ⟨i, hi, rfl⟩ := h
  omega

/-- the queue behind a record more -/
theorem push_list {begin room : Int} {c : Cur} {G last : Int} (h : SumSt begin room c G last) (ht : G + 1 < 9223372036854775807) :
    (((qlist (seen c G).next G).length : Int) + 1 ≤ room ∧ qlist (seen c (G + 1)).next (G + 1) = qlist (seen c G).next G ++ [G + 1] ∧ (seen c (G + 1)).lost = (seen c G).lost) ∨
    (room < ((qlist (seen c G).next G).length : Int) + 1 ∧ qlist (seen c (G + 1)).next (G + 1) = (qlist (seen c G).next G ++ [G + 1]).tail ∧ (seen c (G + 1)).lost = IntKind.u64.wrap ((seen c G).lost + 1)) := by
  obtain ⟨hS, hw, hg, hl⟩ := h.seen
  have hwt := seen_waits (g := G) h.right h.ok h.g0
  have e : seen c (G + 1) = seen (seen c G) (G + 1) := (seen_seen h.right h.g0 (by omega) (by unfold Is; omega)).symm
  rw [e]
  rw [hw] at hwt
  have hcap : (seen c G).cap = c.cap := by rw [hS.cap, h.cap]
  generalize seen c G = D at *
  rw [qlist_length]
  have h1 := hS.le
  have hc1 := h.right.1.1
  have hcr := h.cap
  by_cases hfull : G + 1 - D.next + 1 ≤ room
  · left
    have e2 : seen D (G + 1) = D := by
      unfold seen
      split
      · rfl
      · rw [if_neg (by omega)]
    rw [e2]
    exact ⟨by omega, qlist_snoc h1, rfl⟩
  · right
    have e2 : seen D (G + 1) = ⟨D.next + 1, D.cap, D.got, IntKind.u64.wrap (D.lost + 1)⟩ := by
      unfold seen
      rw [if_neg (by omega), if_pos (by omega)]
      congr 1
      · omega
      · congr 1; omega
    rw [e2]
    refine ⟨by omega, ?_, rfl⟩
    rw [← qlist_snoc h1, qlist_cons (a := D.next) (by omega)]
    rfl

structure ActSt (w wr : World) (gc gq base : Nat) (g room G : Int) (c : Cur) : Prop where
  st : ∃ last, SumSt g room c G last
  bc : Blk wr gc 27 #[.int .u64 c.next, .int .i64 c.cap, .int .u64 c.got, .int .u64 c.lost]
  q : QIn wr gq base room (qlist (seen c G).next G) c.got (seen c G).lost
  hgc : gc < base
  hwc : w.heap.size ≤ gc
  bl : Below w.heap.size w wr
  bsz : base ≤ wr.heap.size
section
variable {w wr w' : World} {gc gq base : Nat} {g room G : Int} {c : Cur}
theorem ActSt.go (h : ActSt w wr gc gq base g room G c) (hb : Below wr.heap.size wr w') : ActSt w w' gc gq base g room G c :=
  ⟨h.st, h.bc.bl hb, h.q.bl hb, h.hgc, h.hwc, Base.bl h.bl hb, Nat.le_trans h.bsz hb.size⟩
theorem ActSt.push (h : ActSt w wr gc gq base g room G c) (ht : G + 1 < 9223372036854775807) :
    Calls Try.prog 12 #[.pointer (some ⟨gq, 0, none⟩), .int .u64 (G + 1)] wr fun e w' => e = .returned (.tuple #[]) ∧ ActSt w w' gc gq base g room (G + 1) c := by
  obtain ⟨last, hst⟩ := h.st
  have hg0 := hst.g0
  have hroom : 1 ≤ room ∧ room ≤ 15 := by have := hst.right.1; have := hst.cap; omega
  have hwt := seen_waits (g := G) hst.right hst.ok hst.g0
  have hsw := hst.seen.2.1
  have hbd : 0 ≤ G + 1 ∧ G + 1 ≤ 18446744073709551615 := by omega
  have fin : ∀ {w' : World}, QIn w' gq base room (qlist (seen c (G + 1)).next (G + 1)) c.got (seen c (G + 1)).lost → Below base wr w' → wr.heap.size ≤ w'.heap.size → ActSt w w' gc gq base g room (G + 1) c := fun {w'} hq hb hs =>
    ⟨⟨last, hst.more (by omega) ht⟩, h.bc.below hb h.hgc, hq, h.hgc, h.hwc, h.bl.trans (hb.mono (by have := h.hgc; have := h.hwc; omega)), Nat.le_trans h.bsz hs⟩
  rcases push_list hst ht with ⟨h1, h2, h3⟩ | ⟨h1, h2, h3⟩
  · refine (Push_fits gq base room _ c.got (seen c G).lost (G + 1) wr h.q h1 hroom.2 hbd).mono ?_
    rintro e w' ⟨rfl, hq, hb, hs⟩
    exact ⟨rfl, fin (by rw [h2, h3]; exact hq) hb hs⟩
  · refine (Push_full gq base room _ c.got (seen c G).lost (G + 1) wr h.q h1 (by rw [qlist_length]; have := hst.cap; omega) hroom.1 (fun x hx => by have := qlist_mem hx; have := hst.seen.1.ok.next; omega) hroom.2 hbd).mono ?_
    rintro e w' ⟨rfl, hq, hb, hs⟩
    exact ⟨rfl, fin (by rw [h2, h3]; exact hq) hb hs⟩
theorem QIn.view {xs : List Int} {got lost : Int} (h : QIn wr gq base room xs got lost) : ∃ A cap, Blk wr gq 34 #[.int .i64 room, .slice A xs.length cap, .int .u64 got, .int .u64 lost] ∧
    (∀ x rest, xs = x :: rest → ∃ k, A = some ⟨k, 0, none⟩ ∧ wr.cell? ⟨k, 0, none⟩ = some (.int .u64 x) ∧ k < wr.heap.size) := by
  obtain ⟨v, h⟩ := h
  rcases h.row.2 with ⟨rfl, h0⟩ | ⟨g', cap', cur, rfl, _, _, hle, _⟩
  · exact ⟨none, 0, by have := h.head; rwa [h0], fun x rest hx => by subst hx; simp at h0⟩
  · refine ⟨_, _, h.head, fun x rest hx => ⟨g', rfl, ?_, (h.row.lt g' rfl).2⟩⟩
    subst hx
    have := h.row.cellAt 0 (by simp)
    simpa using this
end
end Go.Proofs.Ythfkgbgbhjnpdaa.Queue
