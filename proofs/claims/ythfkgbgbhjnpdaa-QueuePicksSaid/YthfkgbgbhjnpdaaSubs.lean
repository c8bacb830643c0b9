/-
  Subscriptions that came in: a slice of structs that hold a cursor. No condition. By an AI agent.
-/
import Derived.Test.YthfkgbgbhjnpdaaLazyP
namespace Go.Proofs.Ythfkgbgbhjnpdaa.Queue
set_option linter.unusedVariables false
set_option linter.unusedSimpArgs false
open Go Go.RowKit Go.Proofs.Ythfkgbgbhjnpdaa.Base Go.Deep Go.ChangeShapes Go.WideShapes Go.Joins

theorem sub_of_cells {H : Type} {enc : TypeId × Value → H} {W : World} {fuel : Nat} {cs : List Value} {x : DataW H × List MemPlace} (hl : cs.length = 6)
    (h : DataW.trod enc Try.prog W 0 (fun _ => true) true fuel 56 cs = some x) :
    ∃ s : Sub, s.Ok ∧ cs = [.int .i64 s.topic, .int .i64 s.rank, .int .u64 s.cur.next, .int .i64 s.cur.cap, .int .u64 s.cur.got, .int .u64 s.cur.lost] := by
  match cs, hl with
  | [c0, c1, c2, c3, c4, c5], _ =>
    obtain ⟨y0, y1, y2, n, _, _, h0, h1, h2⟩ := Go.Deep.trod_struct3 Try.underlying56 h
    have k0 : Try.prog.cellsOf 3 = 1 := by kernel_rfl
    have k1 : Try.prog.cellsOf 27 = 4 := by kernel_rfl
    have k2 : Try.prog.cellsOf 22 = 1 := by kernel_rfl
    simp only [k0, k1, List.drop_zero, List.drop_succ_cons, List.take_succ_cons, List.take_zero] at h0 h1 h2
    obtain ⟨z0, z1, z2, z3, m, _, _, g0, g1, g2, g3⟩ := trod_struct4 Try.underlying27 h2
    simp only [k0, k2, List.drop_zero, List.drop_succ_cons, List.take_succ_cons, List.take_zero] at g0 g1 g2 g3
    obtain ⟨a0, e0, _, w0⟩ := DataW.trod_int Try.underlying3 h0
    obtain ⟨a1, e1, _, w1⟩ := DataW.trod_int Try.underlying3 h1
    obtain ⟨a2, e2, _, w2⟩ := DataW.trod_int Try.underlying22 g0
    obtain ⟨a3, e3, _, w3⟩ := DataW.trod_int Try.underlying3 g1
    obtain ⟨a4, e4, _, w4⟩ := DataW.trod_int Try.underlying22 g2
    obtain ⟨a5, e5, _, w5⟩ := DataW.trod_int Try.underlying22 g3
    simp only [List.cons.injEq, and_true] at e0 e1 e2 e3 e4 e5
    subst e0 e1 e2 e3 e4 e5
    exact ⟨⟨a0, a1, ⟨a2, a3, a4, a5⟩⟩, ⟨i64_bounds w1, ⟨u64_bounds w2, i64_bounds w3, u64_bounds w4, u64_bounds w5⟩⟩, rfl⟩

instance : Inhabited Sub := ⟨⟨0, 0, Cur.zero⟩⟩
theorem subs_of_trod {H : Type} {enc : TypeId × Value → H} {W : World} {r : Reach} {b : Nat} {v : Value} {d : DataW H} {p : List MemPlace}
    (hv : Value.okWide Try.prog W r b 53 v) (h : DataW.Trod enc Try.prog W 0 (fun _ => true) true 53 v d p) : ∃ x : Nat × (Nat → Sub), Subs W v x.1 x.2 := by
  obtain ⟨a0, len, cap, rfl⟩ := okWide_slice Try.underlying53 hv
  obtain ⟨fuel, hf⟩ := h
  rcases open_slice Try.underlying53 hf with ⟨hcs, hx⟩ | ⟨a, len', cap', m, n, D, Pl, hcs, _, hl, hm, hmm, hx, hi⟩
  · have hcs' : [Value.slice a0 len cap] = [.slice none 0 0] := hcs
    simp only [List.cons.injEq, Value.slice.injEq, and_true] at hcs'
    obtain ⟨rfl, rfl, rfl⟩ := hcs'
    exact ⟨(0, fun _ => default), ⟨none, 0, rfl, by simp [maxLen], fun hn => absurd hn (by omega)⟩, fun i hi => absurd hi (by omega)⟩
  · have hcs' : [Value.slice a0 len cap] = [.slice (some a) len' cap'] := hcs
    simp only [List.cons.injEq, Value.slice.injEq, and_true] at hcs'
    obtain ⟨rfl, rfl, rfl⟩ := hcs'
    simp only [if_true] at hmm
    have k6 : Try.prog.cellsOf 56 = 6 := by kernel_rfl
    rw [k6] at hi
    have hall : ∀ i, i < len → ∃ s : Sub, s.Ok ∧ W.cell? (a.add (i * 6 + 0)) = some (.int .i64 s.topic) ∧ W.cell? (a.add (i * 6 + 1)) = some (.int .i64 s.rank) ∧ W.cell? (a.add (i * 6 + 2)) = some (.int .u64 s.cur.next) ∧
        W.cell? (a.add (i * 6 + 3)) = some (.int .i64 s.cur.cap) ∧ W.cell? (a.add (i * 6 + 4)) = some (.int .u64 s.cur.got) ∧ W.cell? (a.add (i * 6 + 5)) = some (.int .u64 s.cur.lost) := by
      intro i hlt
      obtain ⟨cs', hc, ht'⟩ := hi i (by omega)
      obtain ⟨_, hcl, hat⟩ := World.cells?_some hc
      obtain ⟨s, hs, rfl⟩ := sub_of_cells hcl ht'
      refine ⟨s, hs, ?_, ?_, ?_, ?_, ?_, ?_⟩
      · have := hat 0 (by omega); rw [Go.Deep.add_add] at this; simpa using this
      · have := hat 1 (by omega); rw [Go.Deep.add_add] at this; simpa using this
      · have := hat 2 (by omega); rw [Go.Deep.add_add] at this; simpa using this
      · have := hat 3 (by omega); rw [Go.Deep.add_add] at this; simpa using this
      · have := hat 4 (by omega); rw [Go.Deep.add_add] at this; simpa using this
      · have := hat 5 (by omega); rw [Go.Deep.add_add] at this; simpa using this
    obtain ⟨l, hl'⟩ := choose_lt hall
    refine ⟨(len, l), ⟨some a, cap, rfl, by omega, fun hn => ?_⟩, fun i hlt => (hl' i hlt).1⟩
    obtain ⟨ab, ao, sp⟩ := a
    have c0 := (hl' 0 hn).2.1
    have hsp : sp = none := by
      cases sp with
      | none => rfl
      | some s =>
        simp only [World.cell?, Addr.add] at c0
        split at c0 <;> simp at c0
    subst hsp
    refine ⟨ab, ao, rfl, ?_, fun i hlt => ?_⟩
    · simpa [Addr.add] using lt_of_cell c0
    · obtain ⟨_, s0, s1, s2, s3, s4, s5⟩ := hl' i hlt
      have e : ∀ j, (⟨ab, ao, none⟩ : Addr).add (i * 6 + j) = ⟨ab, ao + i * 6 + j, none⟩ := fun j => by unfold Addr.add; split <;> simp_all <;> omega
      rw [e] at s0 s1 s2 s3 s4 s5
      exact ⟨s0, s1, s2, s3, s4, s5⟩
end Go.Proofs.Ythfkgbgbhjnpdaa.Queue
