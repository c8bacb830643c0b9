/-
  Law 16: a slice of states that came in. Conditions stand at each. By an AI agent.
-/
import Derived.Test.YthhellgaafbokaaLgP
import Derived.Lib.SmallJoins
namespace Go.Proofs.Ythhellgaafbokaa.Lg
set_option linter.unusedVariables false
set_option linter.unusedSimpArgs false
open Go Go.RowKit Go.Proofs.Ythhellgaafbokaa.Base Go.Proofs.Ythhellgaafbokaa.Reg Go.Deep Go.ChangeShapes Go.WideShapes

structure Sts (w : World) (v : Value) (n : Nat) (l : Nat → St) : Prop where
  form : ∃ A c, v = .slice A n c ∧ n ≤ maxLen ∧ (0 < n → ∃ b o, A = some ⟨b, o, none⟩ ∧ b < w.heap.size ∧ ∀ i : Nat, i < n →
    w.cell? ⟨b, o + i * 5, none⟩ = some (.int .i64 (l i).mode) ∧ w.cell? ⟨b, o + i * 5 + 1, none⟩ = some (.int .i64 (l i).source) ∧ w.cell? ⟨b, o + i * 5 + 2, none⟩ = some (.bool (l i).hold) ∧ w.cell? ⟨b, o + i * 5 + 3, none⟩ = some (.int .i64 (l i).flags) ∧ w.cell? ⟨b, o + i * 5 + 4, none⟩ = some (.int .u64 (l i).epoch))
  ok : ∀ i : Nat, i < n → (l i).Ok
theorem Sts.below {w w' : World} {v : Value} {n : Nat} {l : Nat → St} (h : Sts w v n l) (hb : Below w.heap.size w w') : Sts w' v n l := by
  obtain ⟨A, c, rfl, hl, hg⟩ := h.form
  refine ⟨⟨A, c, rfl, hl, fun hn => ?_⟩, h.ok⟩
  obtain ⟨b, o, rfl, hlt, hc⟩ := hg hn
  refine ⟨b, o, rfl, Nat.lt_of_lt_of_le hlt hb.size, fun i hi => ?_⟩
  obtain ⟨c0, c1, c2, c3, c4⟩ := hc i hi
  exact ⟨(hb.cell (p := ⟨b, _, none⟩) hlt).trans c0, (hb.cell (p := ⟨b, _, none⟩) hlt).trans c1, (hb.cell (p := ⟨b, _, none⟩) hlt).trans c2, (hb.cell (p := ⟨b, _, none⟩) hlt).trans c3, (hb.cell (p := ⟨b, _, none⟩) hlt).trans c4⟩
instance : Inhabited St := ⟨St.zero⟩
set_option maxRecDepth 100000 in
theorem sts_of_trod {H : Type} {enc : TypeId × Value → H} {W : World} {r : Reach} {b : Nat} {v : Value} {d : DataW H} {p : List MemPlace}
    (hv : Value.okWide Try.prog W r b 22 v) (h : DataW.Trod enc Try.prog W 0 (fun _ => true) true 22 v d p) : ∃ x : Nat × (Nat → St), Sts W v x.1 x.2 := by
  obtain ⟨n, f, hr, hf⟩ := recs_of_trod Try.underlying22 Try.underlying28 (by kernel_rfl) (by kernel_rfl) (by decide) hv h
  have hall : ∀ i, i < n → ∃ a : St, f i 0 = .int .i64 a.mode ∧ f i 1 = .int .i64 a.source ∧ f i 2 = .bool a.hold ∧ f i 3 = .int .i64 a.flags ∧ f i 4 = .int .u64 a.epoch ∧ a.Ok := by
    intro i hi
    obtain ⟨m0, y0, h0⟩ := hf i hi 0 _ rfl
    obtain ⟨m1, y1, h1⟩ := hf i hi 1 _ rfl
    obtain ⟨m2, y2, h2⟩ := hf i hi 2 _ rfl
    obtain ⟨m3, y3, h3⟩ := hf i hi 3 _ rfl
    obtain ⟨m4, y4, h4⟩ := hf i hi 4 _ rfl
    obtain ⟨n0, e0, _, g0⟩ := DataW.trod_int Try.underlying3 h0
    obtain ⟨n1, e1, _, g1⟩ := DataW.trod_int Try.underlying3 h1
    obtain ⟨n2, e2, _⟩ := DataW.trod_bool Try.underlying4 h2
    obtain ⟨n3, e3, _, g3⟩ := DataW.trod_int Try.underlying3 h3
    obtain ⟨n4, e4, _, g4⟩ := DataW.trod_int Try.underlying25 h4
    exact ⟨⟨n0, n1, n2, n3, n4⟩, by simpa using e0, by simpa using e1, by simpa using e2, by simpa using e3, by simpa using e4, ⟨i64_bounds g0, i64_bounds g1, i64_bounds g3, u64_bounds g4⟩⟩
  obtain ⟨l, hl⟩ := choose_lt hall
  obtain ⟨A, c, rfl, hlen, hx⟩ := hr.form
  refine ⟨(n, l), ⟨A, c, rfl, hlen, fun hn => ?_⟩, fun i hi => (hl i hi).2.2.2.2.2⟩
  obtain ⟨b, o, rfl, hb, hc⟩ := hx hn
  refine ⟨b, o, rfl, hb, fun i hi => ?_⟩
  obtain ⟨l0, l1, l2, l3, l4, _⟩ := hl i hi
  have s0 := hc i 0 hi (by decide)
  have s1 := hc i 1 hi (by decide)
  have s2 := hc i 2 hi (by decide)
  have s3 := hc i 3 hi (by decide)
  have s4 := hc i 4 hi (by decide)
  rw [l0] at s0
  rw [l1] at s1
  rw [l2] at s2
  rw [l3] at s3
  rw [l4] at s4
  exact ⟨s0, s1, s2, s3, s4⟩
end Go.Proofs.Ythhellgaafbokaa.Lg
