/-
  SnapSteps' arguments, opened. No condition. By an AI agent.
-/
import Derived.Test.YtjdalllfnlpmnaaSnQ
namespace Go.Proofs.Ytjdalllfnlpmnaa.Bank
set_option linter.unusedVariables false
set_option linter.unusedSimpArgs false
open Go Go.RowKit Go.Proofs.Ytjdalllfnlpmnaa.Base Go.ChangeShapes Go.WideShapes Go.Deep
theorem choose_ltB {α : Type} [Inhabited α] {n : Nat} {P : Nat → α → Prop} (h : ∀ i, i < n → ∃ a, P i a) : ∃ f : Nat → α, ∀ i, i < n → P i (f i) := by
  refine ⟨fun i => if h' : i < n then (h i h').choose else default, fun i hi => ?_⟩
  simp only [hi, dif_pos]
  exact (h i hi).choose_spec
/-- a row of structs whose fields are one cell each, in a field's cell -/
theorem recs_of_cell {H : Type} {enc : TypeId × Value → H} {P : Program} {W : World} {t e : TypeId} {fs : Array Field} {v : Value} {fuel : Nat} {y : DataW H × List MemPlace} (ht : P.underlying t = some (.slice e)) (he : P.underlying e = some (.struct fs))
    (hone : oneCellFields P fs = true) (hC : P.cellsOf e = fs.size) (hpos : 0 < fs.size) (hv : ∃ a0 len cap, v = .slice a0 len cap) (hf : DataW.trod enc P W 0 (fun _ => true) true fuel t [v] = some y) :
    ∃ (n : Nat) (f : Nat → Nat → Value), Recs W v fs.size n f ∧ ∀ i, i < n → ∀ (j : Nat) (fd : Field), fs[j]? = some fd → ∃ (m : Nat) (y : DataW H × List MemPlace), DataW.trod enc P W 0 (fun _ => true) true m fd.type [f i j] = some y := by
  obtain ⟨a0, len, cap, rfl⟩ := hv
  rcases open_slice_fields ht he hone hC hf with ⟨hcs, hx⟩ | ⟨a, len', cap', m, D, Pl, hcs, _, hl, hm, hmm, hx, hel⟩
  · have hcs' : [Value.slice a0 len cap] = [.slice none 0 0] := hcs
    simp only [List.cons.injEq, Value.slice.injEq, and_true] at hcs'
    obtain ⟨rfl, rfl, rfl⟩ := hcs'
    exact ⟨0, fun _ _ => undef, ⟨⟨none, 0, rfl, by simp [maxLen], fun hn => absurd hn (by omega)⟩⟩, fun i hi => absurd hi (by omega)⟩
  · have hcs' : [Value.slice a0 len cap] = [.slice (some a) len' cap'] := hcs
    simp only [List.cons.injEq, Value.slice.injEq, and_true] at hcs'
    obtain ⟨rfl, rfl, rfl⟩ := hcs'
    simp only [if_true] at hmm
    have hone' : ∀ i, i < len → ∀ j : Nat, j < fs.size → ∃ u, W.cell? (a.add (i * fs.size + j)) = some u ∧ ∃ (m : Nat) (y : DataW H × List MemPlace), ∀ fd, fs[j]? = some fd → DataW.trod enc P W 0 (fun _ => true) true m fd.type [u] = some y := by
      intro i hi j hj
      obtain ⟨ys, k, _, _, _, hg⟩ := hel i (by omega)
      obtain ⟨u, y, h1, _, h2⟩ := hg j fs[j] (Array.getElem?_eq_getElem hj)
      exact ⟨u, h1, k, y, fun fd hfd => by rw [Array.getElem?_eq_getElem hj] at hfd; injection hfd with hfd; subst hfd; exact h2⟩
    let f : Nat → Nat → Value := fun i j => (W.cell? (a.add (i * fs.size + j))).getD undef
    have hfe : ∀ i, i < len → ∀ j : Nat, j < fs.size → W.cell? (a.add (i * fs.size + j)) = some (f i j) := by
      intro i hi j hj
      obtain ⟨u, hu, _⟩ := hone' i hi j hj
      show _ = some ((W.cell? (a.add (i * fs.size + j))).getD undef)
      rw [hu]; rfl
    refine ⟨len, f, ⟨⟨some a, cap, rfl, by omega, fun hn => ?_⟩⟩, fun i hi j fd hfd => ?_⟩
    · obtain ⟨ab, ao, sp⟩ := a
      have c0 := hfe 0 hn 0 hpos
      have hsp : sp = none := by
        cases sp with
        | none => rfl
        | some s =>
          simp only [World.cell?, Addr.add] at c0
          split at c0 <;> simp at c0
      subst hsp
      refine ⟨ab, ao, rfl, ?_, fun i j hi hj => ?_⟩
      · simpa [Addr.add] using lt_of_cell c0
      · have c := hfe i hi j hj
        have e : (⟨ab, ao, none⟩ : Addr).add (i * fs.size + j) = ⟨ab, ao + i * fs.size + j, none⟩ := by unfold Addr.add; split <;> simp_all <;> omega
        rwa [e] at c
    · have hj : j < fs.size := (Array.getElem?_eq_some_iff.1 hfd).1
      obtain ⟨u, hu, m, y, hy⟩ := hone' i hi j hj
      have : f i j = u := by show (W.cell? (a.add (i * fs.size + j))).getD undef = u; rw [hu]; rfl
      rw [this]
      exact ⟨m, y, hy fd hfd⟩
theorem sps_of_recs {H : Type} {enc : TypeId × Value → H} {W : World} {v : Value} {n : Nat} {f : Nat → Nat → Value} (hr : Recs W v 5 n f)
    (hf : ∀ i, i < n → ∀ j, j < 5 → ∃ (m : Nat) (y : DataW H × List MemPlace), DataW.trod enc Try.prog W 0 (fun _ => true) true m 3 [f i j] = some y) : ∃ l : Nat → Spot, Sps W v n l := by
  have hall : ∀ i, i < n → ∃ s : Spot, f i 0 = .int .i64 s.owners ∧ f i 1 = .int .i64 s.seq ∧ f i 2 = .int .i64 s.first ∧ f i 3 = .int .i64 s.words ∧ f i 4 = .int .i64 s.depth := by
    intro i hi
    have one : ∀ j, j < 5 → ∃ z : Int, f i j = .int .i64 z := by
      intro j hj
      obtain ⟨m, y, h⟩ := hf i hi j hj
      obtain ⟨z, e, _, _⟩ := DataW.trod_int Try.underlying3 h
      exact ⟨z, by simpa using e⟩
    obtain ⟨z0, e0⟩ := one 0 (by decide)
    obtain ⟨z1, e1⟩ := one 1 (by decide)
    obtain ⟨z2, e2⟩ := one 2 (by decide)
    obtain ⟨z3, e3⟩ := one 3 (by decide)
    obtain ⟨z4, e4⟩ := one 4 (by decide)
    exact ⟨⟨z0, z1, z2, z3, z4⟩, e0, e1, e2, e3, e4⟩
  haveI : Inhabited Spot := ⟨⟨0, 0, 0, 0, 0⟩⟩
  obtain ⟨l, hl⟩ := choose_ltB hall
  obtain ⟨A, c, rfl, hlen, hx⟩ := hr.form
  refine ⟨l, ⟨⟨A, c, rfl, hlen, fun hn => ?_⟩⟩⟩
  obtain ⟨b, o, rfl, hb, hc⟩ := hx hn
  refine ⟨b, o, rfl, hb, fun i hi => ?_⟩
  obtain ⟨l0, l1, l2, l3, l4⟩ := hl i hi
  have s0 := hc i 0 hi (by decide)
  have s1 := hc i 1 hi (by decide)
  have s2 := hc i 2 hi (by decide)
  have s3 := hc i 3 hi (by decide)
  have s4 := hc i 4 hi (by decide)
  rw [l0] at s0
  rw [l1] at s1
  rw [l2] at s2
  rw [l3] at s3
  rw [l4] at s4
  exact ⟨s0, s1, s2, s3, s4⟩
set_option maxRecDepth 100000 in
theorem job_of_trod {H : Type} {enc : TypeId × Value → H} {W : World} {r : Reach} {b : Nat} {v : Value} {d : DataW H} {p : List MemPlace}
    (hv : Value.okWide Try.prog W r b 24 v) (h : DataW.Trod enc Try.prog W 0 (fun _ => true) true 24 v d p) :
    ∃ x : Value × Nat × (Nat → Spot) × Int, v = .agg #[x.1, .int .i64 x.2.2.2] ∧ Sps W x.1 x.2.1 x.2.2.1 := by
  obtain ⟨cs, rfl, hsz⟩ := okWide_struct Try.underlying24 hv
  rw [show Try.prog.cellsOf 24 = 2 by kernel_rfl] at hsz
  obtain ⟨c0, c1, rfl⟩ : ∃ c0 c1, cs = #[c0, c1] := by
    obtain ⟨l⟩ := cs
    match l, hsz with
    | [a, b], _ => exact ⟨a, b, rfl⟩
  obtain ⟨fuel, hf⟩ := h
  obtain ⟨ys, m, _, _, _, hyl, hg⟩ := DataW.trod_struct Try.underlying24 hf
  have hcells : (Value.agg #[c0, c1]).cells.toList = [c0, c1] := by simp [Value.cells]
  rw [hcells] at hg
  have hs : DataW.trod enc Try.prog W 0 (fun _ => true) true m 22 [c0] = ys[0]? := by
    have h9 := hg 0 _ rfl
    change DataW.trod enc Try.prog W 0 (fun _ => true) true m 22 (List.take (Try.prog.cellsOf 22) (List.drop 0 [c0, c1])) = _ at h9
    rw [show Try.prog.cellsOf 22 = 1 by kernel_rfl] at h9
    exact h9
  have ht : DataW.trod enc Try.prog W 0 (fun _ => true) true m 3 [c1] = ys[1]? := by
    have h9 := hg 1 _ rfl
    change DataW.trod enc Try.prog W 0 (fun _ => true) true m 3 (List.take (Try.prog.cellsOf 3) (List.drop 1 [c0, c1])) = _ at h9
    rw [show Try.prog.cellsOf 3 = 1 by kernel_rfl] at h9
    exact h9
  obtain ⟨y0, hy0⟩ : ∃ y0, ys[0]? = some y0 := ⟨_, List.getElem?_eq_getElem (by rw [hyl]; decide)⟩
  obtain ⟨y1, hy1⟩ : ∃ y1, ys[1]? = some y1 := ⟨_, List.getElem?_eq_getElem (by rw [hyl]; decide)⟩
  rw [hy0] at hs
  rw [hy1] at ht
  obtain ⟨z5, e5, _, _⟩ := DataW.trod_int Try.underlying3 ht
  simp only [List.cons.injEq, and_true] at e5
  subst e5
  obtain ⟨n, f, hr, hff⟩ := recs_of_cell Try.underlying22 Try.underlying65 (by kernel_rfl) (by kernel_rfl) (by decide) (by
    rcases open_slice_fields Try.underlying22 Try.underlying65 (by kernel_rfl) (by kernel_rfl) hs with ⟨hcs, _⟩ | ⟨a, len', cap', _, _, _, hcs, _⟩
    · simp only [List.cons.injEq, and_true] at hcs
      exact ⟨_, _, _, hcs⟩
    · simp only [List.cons.injEq, and_true] at hcs
      exact ⟨_, _, _, hcs⟩) hs
  obtain ⟨l, hl⟩ := sps_of_recs (enc := enc) hr (fun i hi j hj => by
    match j, hj with
    | 0, _ => exact hff i hi 0 _ rfl
    | 1, _ => exact hff i hi 1 _ rfl
    | 2, _ => exact hff i hi 2 _ rfl
    | 3, _ => exact hff i hi 3 _ rfl
    | 4, _ => exact hff i hi 4 _ rfl)
  exact ⟨(c0, n, l, z5), rfl, hl⟩
set_option maxRecDepth 100000 in
theorem acts_of_trod {H : Type} {enc : TypeId × Value → H} {W : World} {r : Reach} {b : Nat} {v : Value} {d : DataW H} {p : List MemPlace}
    (hv : Value.okWide Try.prog W r b 25 v) (h : DataW.Trod enc Try.prog W 0 (fun _ => true) true 25 v d p) : ∃ x : Nat × (Nat → Act), Acts W v x.1 x.2 := by
  obtain ⟨n, f, hr, hf⟩ := recs_of_trod Try.underlying25 Try.underlying44 (by kernel_rfl) (by kernel_rfl) (by decide) hv h
  have hall : ∀ i, i < n → ∃ a : Act, f i 0 = .bool a.rd ∧ f i 1 = .int .i64 a.at_ ∧ f i 2 = .int .u64 a.x ∧ 0 ≤ a.x ∧ a.x ≤ 18446744073709551615 := by
    intro i hi
    obtain ⟨m0, z0, h0⟩ := hf i hi 0 _ rfl
    obtain ⟨m1, z1, h1⟩ := hf i hi 1 _ rfl
    obtain ⟨m2, z2, h2⟩ := hf i hi 2 _ rfl
    obtain ⟨b0, e0, _⟩ := DataW.trod_bool Try.underlying4 h0
    obtain ⟨n1, e1, _, g1⟩ := DataW.trod_int Try.underlying3 h1
    obtain ⟨n2, e2, _, g2⟩ := DataW.trod_int Try.underlying42 h2
    exact ⟨⟨b0, n1, n2⟩, by simpa using e0, by simpa using e1, by simpa using e2, u64_bounds g2⟩
  obtain ⟨l, hl⟩ := choose_ltB hall
  obtain ⟨A, c, rfl, hlen, hx⟩ := hr.form
  refine ⟨(n, l), ⟨⟨A, c, rfl, hlen, fun hn => ?_⟩, fun i hi => (hl i hi).2.2.2⟩⟩
  obtain ⟨b, o, rfl, hb, hc⟩ := hx hn
  refine ⟨b, o, rfl, hb, fun i hi => ?_⟩
  obtain ⟨l0, l1, l2, _⟩ := hl i hi
  have s0 := hc i 0 hi (by decide)
  have s1 := hc i 1 hi (by decide)
  have s2 := hc i 2 hi (by decide)
  rw [l0] at s0
  rw [l1] at s1
  rw [l2] at s2
  exact ⟨s0, s1, s2⟩
end Go.Proofs.Ytjdalllfnlpmnaa.Bank
