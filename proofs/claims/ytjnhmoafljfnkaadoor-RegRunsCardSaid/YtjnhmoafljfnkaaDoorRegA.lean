/-
  Reg: acts in memory; what RegHolds keeps. Condition: the table of ways lies in block 0. By an AI agent.
-/
import Derived.Test.YtjnhmoafljfnkaaDoorRegT
import Derived.Test.YtjnhmoafljfnkaaDoorFolW
namespace Go.Proofs.YtjnhmoafljfnkaaDoor.Reg
set_option linter.unusedVariables false
set_option linter.unusedSimpArgs false
open Go Go.ChangeShapes Go.RowKit Go.Proofs.YtjnhmoafljfnkaaDoor.Base Go.Proofs.YtjnhmoafljfnkaaDoor.Modes Go.Deep

structure Acts (w : World) (v : Value) (n : Nat) (l : Nat → Act) : Prop where
  form : ∃ A c, v = .slice A n c ∧ n ≤ maxLen ∧ (0 < n → ∃ b o, A = some ⟨b, o, none⟩ ∧ b < w.heap.size ∧ ∀ i : Nat, i < n →
    w.cell? ⟨b, o + i * 5, none⟩ = some (.bool (l i).tell) ∧ w.cell? ⟨b, o + i * 5 + 1, none⟩ = some (.int .i64 (l i).flags) ∧ w.cell? ⟨b, o + i * 5 + 2, none⟩ = some (.int .i64 (l i).source) ∧ w.cell? ⟨b, o + i * 5 + 3, none⟩ = some (.int .i64 (l i).mode) ∧ w.cell? ⟨b, o + i * 5 + 4, none⟩ = some (.bool (l i).free))
  ok : ∀ i : Nat, i < n → (l i).Ok
instance : Inhabited Act := ⟨⟨false, 0, 0, 0, false⟩⟩
theorem choose_lt' {α : Type} [Inhabited α] {n : Nat} {P : Nat → α → Prop} (h : ∀ i, i < n → ∃ a, P i a) : ∃ f : Nat → α, ∀ i, i < n → P i (f i) := by
  refine ⟨fun i => if h' : i < n then (h i h').choose else default, fun i hi => ?_⟩
  simp only [hi, dif_pos]
  exact (h i hi).choose_spec
theorem acts_of_trod {H : Type} {enc : TypeId × Value → H} {W : World} {r : Reach} {b : Nat} {v : Value} {d : DataW H} {p : List MemPlace}
    (hv : Value.okWide Tryd.prog W r b 46 v) (h : DataW.Trod enc Tryd.prog W 0 (fun _ => true) true 46 v d p) : ∃ x : Nat × (Nat → Act), Acts W v x.1 x.2 := by
  obtain ⟨n, f, hr, hf⟩ := recs_of_trod Tryd.underlying46 Tryd.underlying38 (by kernel_rfl) (by kernel_rfl) (by decide) hv h
  have hall : ∀ i, i < n → ∃ a : Act, f i 0 = .bool a.tell ∧ f i 1 = .int .i64 a.flags ∧ f i 2 = .int .i64 a.source ∧ f i 3 = .int .i64 a.mode ∧ f i 4 = .bool a.free ∧ a.Ok := by
    intro i hi
    obtain ⟨m0, y0, h0⟩ := hf i hi 0 _ rfl
    obtain ⟨m1, y1, h1⟩ := hf i hi 1 _ rfl
    obtain ⟨m2, y2, h2⟩ := hf i hi 2 _ rfl
    obtain ⟨m3, y3, h3⟩ := hf i hi 3 _ rfl
    obtain ⟨m4, y4, h4⟩ := hf i hi 4 _ rfl
    obtain ⟨n0, e0, _⟩ := DataW.trod_bool Tryd.underlying4 h0
    obtain ⟨n1, e1, _, g1⟩ := DataW.trod_int Tryd.underlying3 h1
    obtain ⟨n2, e2, _, g2⟩ := DataW.trod_int Tryd.underlying3 h2
    obtain ⟨n3, e3, _, g3⟩ := DataW.trod_int Tryd.underlying3 h3
    obtain ⟨n4, e4, _⟩ := DataW.trod_bool Tryd.underlying4 h4
    exact ⟨⟨n0, n1, n2, n3, n4⟩, by simpa using e0, by simpa using e1, by simpa using e2, by simpa using e3, by simpa using e4, i64_bounds g1, i64_bounds g2, i64_bounds g3⟩
  obtain ⟨l, hl⟩ := choose_lt' hall
  obtain ⟨A, c, rfl, hlen, hx⟩ := hr.form
  refine ⟨(n, l), ⟨A, c, rfl, hlen, fun hn => ?_⟩, fun i hi => (hl i hi).2.2.2.2.2⟩
  obtain ⟨b, o, rfl, hb, hc⟩ := hx hn
  refine ⟨b, o, rfl, hb, fun i hi => ?_⟩
  obtain ⟨l0, l1, l2, l3, l4, _⟩ := hl i hi
  have s0 := hc i 0 hi (by decide)
  have s1 := hc i 1 hi (by decide)
  have s2 := hc i 2 hi (by decide)
  have s3 := hc i 3 hi (by decide)
  have s4 := hc i 4 hi (by decide)
  rw [l0] at s0
  rw [l1] at s1
  rw [l2] at s2
  rw [l3] at s3
  rw [l4] at s4
  exact ⟨s0, s1, s2, s3, s4⟩
/-- a state from Standby on, behind so many acts at most -/
structure Run (s : St) (k : Nat) : Prop where
  ok : s.Ok
  may : mayE s = 0
  ep : s.epoch ≤ k
theorem Run.zero : Run St.zero 0 := ⟨⟨by decide, by decide, by decide, by decide⟩, by decide, by decide⟩
theorem Run.same {s : St} {k : Nat} (h : Run s k) : Run s (k + 1) := ⟨h.ok, h.may, by have := h.ep; omega⟩
theorem Run.health {s : St} {k : Nat} (h : Run s k) (hk : k ≤ 200) (f : Int) : (0 ≤ f ∧ f ≤ 63 ∧ healthE s f = 0 ∧ Run (healthS s f) (k + 1) ∧ healthS s f = ⟨s.mode, s.source, s.hold, f, s.epoch + 1⟩) ∨ ((f < 0 ∨ 63 < f) ∧ healthE s f = 10) := by
  have hep := h.ep
  have hm : ¬ mayE s ≠ 0 := by rw [h.may]; simp
  by_cases hf : 0 ≤ f ∧ f ≤ 63
  · left
    have hE : healthE s f = 0 := by
      unfold healthE
      rw [if_neg hm, if_neg (by simpa using hf), if_neg (by unfold lastE; omega)]
    have hS : healthS s f = ⟨s.mode, s.source, s.hold, f, s.epoch + 1⟩ := by
      unfold healthS
      rw [if_pos hE]
    refine ⟨hf.1, hf.2, hE, ?_, hS⟩
    rw [hS]
    obtain ⟨⟨a, b, c, d⟩, hh⟩ := mayE_zero.1 h.may
    refine ⟨⟨h.ok.mode, h.ok.source, ?_, ?_⟩, mayE_zero.2 ⟨⟨a, b, ?_, ?_⟩, ?_⟩, ?_⟩
    · simp only; omega
    · have := h.ok.epoch; simp only; omega
    · simp only; omega
    · simp only; omega
    · exact hh
    · simp only; omega
  · right
    refine ⟨by omega, ?_⟩
    unfold healthE
    rw [if_neg hm, if_pos hf]
theorem Run.decide {s : St} {k : Nat} (h : Run s k) (hk : k ≤ 200) (a : Ask) : (decideE s a = 0 ∧ decideS s a = nextS s a ∧ a.In ∧ ¬ (s.hold = true ∧ a.source ≠ 3) ∧ ¬ (a.source < s.source ∧ s.mode ≠ 0) ∧ Run (nextS s a) (k + 1)) ∨ decideE s a ≠ 0 := by
  have hm : ¬ mayE s ≠ 0 := by rw [h.may]; simp
  by_cases hE : decideE s a = 0
  · left
    have hS : decideS s a = nextS s a := by unfold decideS; rw [if_pos hE]
    have hin : a.In := by
      by_cases hi : a.In
      · exact hi
      · unfold decideE at hE
        rw [if_neg hm, if_pos hi] at hE
        cases hE
    have h3 : ¬ (s.hold = true ∧ a.source ≠ 3) := fun q => by
      unfold decideE at hE
      rw [if_neg hm, if_neg (by simpa using hin), if_pos q] at hE
      cases hE
    have h4 : ¬ (a.source < s.source ∧ s.mode ≠ 0) := fun q => by
      unfold decideE at hE
      rw [if_neg hm, if_neg (by simpa using hin), if_neg h3, if_pos q] at hE
      cases hE
    refine ⟨hE, hS, hin, h3, h4, ?_⟩
    obtain ⟨⟨a1, b1, c1, d1⟩, hh⟩ := mayE_zero.1 h.may
    have hep := h.ep
    have hep0 := h.ok.epoch
    have hfl := h.ok.flags
    obtain ⟨⟨x0, x1⟩, ⟨y0, y1⟩⟩ := hin
    unfold nextS
    split
    · refine ⟨⟨by simp only; omega, by simp only; omega, hfl, ?_⟩, mayE_zero.2 ⟨⟨by simp only; omega, by simp only; omega, c1, ?_⟩, fun q => q.2 rfl⟩, ?_⟩
      · simp only; omega
      · simp only; omega
      · simp only; omega
    · split
      · refine ⟨⟨?_, by simp only; omega, hfl, ?_⟩, mayE_zero.2 ⟨⟨⟨y0, y1⟩, by simp only; omega, c1, ?_⟩, fun q => by cases q.1⟩, ?_⟩
        · simp only; omega
        · simp only; omega
        · simp only; omega
        · simp only; omega
      · refine ⟨⟨?_, ?_, hfl, ?_⟩, mayE_zero.2 ⟨⟨⟨y0, y1⟩, ⟨x0, x1⟩, c1, ?_⟩, h3⟩, ?_⟩
        · simp only; omega
        · simp only; omega
        · simp only; omega
        · simp only; omega
        · simp only; omega
  · exact .inr hE
end Go.Proofs.YtjnhmoafljfnkaaDoor.Reg
