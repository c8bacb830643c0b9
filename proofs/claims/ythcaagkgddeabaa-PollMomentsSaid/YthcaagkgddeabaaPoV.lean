/-
  Law 12: the laws' arguments, opened: a case, subscriptions and spots in it. Conditions stand at each. By an AI agent.
-/
import Derived.Test.YthcaagkgddeabaaPoU
namespace Go.Proofs.Ythcaagkgddeabaa.Bank
set_option linter.unusedVariables false
set_option linter.unusedSimpArgs false
open Go Go.RowKit Go.Proofs.Ythcaagkgddeabaa.Base Go.ChangeShapes Go.WideShapes Go.Deep Go.Joins Go.Proofs.Ythcaagkgddeabaa.Queue
section
variable {H : Type} {enc : TypeId × Value → H} {P : Program}
/-- a slice of structs of one-cell fields, in a cell -/
theorem recs_of_cs {W : World} {t e : TypeId} {fs : Array Field} {v : Value} {x : DataW H × List MemPlace} {fuel : Nat} (ht : P.underlying t = some (.slice e)) (he : P.underlying e = some (.struct fs))
    (hone : oneCellFields P fs = true) (hC : P.cellsOf e = fs.size) (hpos : 0 < fs.size) (hf : DataW.trod enc P W 0 (fun _ => true) true fuel t [v] = some x) :
    ∃ (n : Nat) (f : Nat → Nat → Value), Recs W v fs.size n f ∧ ∀ i, i < n → ∀ (j : Nat) (fd : Field), fs[j]? = some fd → ∃ (m : Nat) (y : DataW H × List MemPlace), DataW.trod enc P W 0 (fun _ => true) true m fd.type [f i j] = some y := by
  rcases open_slice_fields ht he hone hC hf with ⟨hcs, hx⟩ | ⟨a, len', cap', m, D, Pl, hcs, _, hl, hm, hmm, hx, hel⟩
  · simp only [List.cons.injEq, and_true] at hcs
    subst hcs
    exact ⟨0, fun _ _ => undef, ⟨⟨none, 0, rfl, by simp [maxLen], fun hn => absurd hn (by omega)⟩⟩, fun i hi => absurd hi (by omega)⟩
  · simp only [List.cons.injEq, and_true] at hcs
    subst hcs
    simp only [if_true] at hmm
    have hone' : ∀ i, i < len' → ∀ j : Nat, j < fs.size → ∃ u, W.cell? (a.add (i * fs.size + j)) = some u ∧ ∃ (m : Nat) (y : DataW H × List MemPlace), ∀ fd, fs[j]? = some fd → DataW.trod enc P W 0 (fun _ => true) true m fd.type [u] = some y := by
      intro i hi j hj
      obtain ⟨ys, k, _, _, _, hg⟩ := hel i (by omega)
      obtain ⟨u, y, h1, _, h2⟩ := hg j fs[j] (Array.getElem?_eq_getElem hj)
      exact ⟨u, h1, k, y, fun fd hfd => by rw [Array.getElem?_eq_getElem hj] at hfd; injection hfd with hfd; subst hfd; exact h2⟩
    let f : Nat → Nat → Value := fun i j => (W.cell? (a.add (i * fs.size + j))).getD undef
    have hfe : ∀ i, i < len' → ∀ j : Nat, j < fs.size → W.cell? (a.add (i * fs.size + j)) = some (f i j) := by
      intro i hi j hj
      obtain ⟨u, hu, _⟩ := hone' i hi j hj
      show _ = some ((W.cell? (a.add (i * fs.size + j))).getD undef)
      rw [hu]; rfl
    refine ⟨len', f, ⟨⟨some a, cap', rfl, by omega, fun hn => ?_⟩⟩, fun i hi j fd hfd => ?_⟩
    · obtain ⟨ab, ao, sp⟩ := a
      have c0 := hfe 0 hn 0 hpos
      have hsp : sp = none := by
        cases sp with
        | none => rfl
        | some s =>
          simp only [World.cell?, Addr.add] at c0
          split at c0 <;> simp at c0
      subst hsp
      refine ⟨ab, ao, rfl, ?_, fun i j hi hj => ?_⟩
      · simpa [Addr.add] using lt_of_cell c0
      · have c := hfe i hi j hj
        have e : (⟨ab, ao, none⟩ : Addr).add (i * fs.size + j) = ⟨ab, ao + i * fs.size + j, none⟩ := by unfold Addr.add; split <;> simp_all <;> omega
        rwa [e] at c
    · have hj : j < fs.size := (Array.getElem?_eq_some_iff.1 hfd).1
      obtain ⟨u, hu, m, y, hy⟩ := hone' i hi j hj
      have : f i j = u := by show (W.cell? (a.add (i * fs.size + j))).getD undef = u; rw [hu]; rfl
      rw [this]
      exact ⟨m, y, hy fd hfd⟩
/-- a struct of one-cell fields, by value -/
theorem fields1_of_trod {W : World} {t : TypeId} {fs : Array Field} {r : Reach} {b : Nat} {v : Value} {d : DataW H} {p : List MemPlace} (hs : P.underlying t = some (.struct fs)) (hone : oneCellFields P fs = true) (hC : P.cellsOf t = fs.size)
    (hv : Value.okWide P W r b t v) (h : DataW.Trod enc P W 0 (fun _ => true) true t v d p) :
    ∃ cs : Array Value, v = .agg cs ∧ cs.size = fs.size ∧ ∀ (j : Nat) (f : Field), fs[j]? = some f → ∃ (n : Nat) (c : Value) (y : DataW H × List MemPlace), cs[j]? = some c ∧ DataW.trod enc P W 0 (fun _ => true) true n f.type [c] = some y := by
  obtain ⟨cs, rfl, hsz⟩ := okWide_struct hs hv
  rw [hC] at hsz
  obtain ⟨fuel, hf⟩ := h
  obtain ⟨xs, n, _, _, _, hlen, hg⟩ := DataW.trod_struct hs hf
  refine ⟨cs, rfl, hsz, fun j f hj => ?_⟩
  obtain ⟨ho, hk⟩ := hone_of hone j f hj
  have hjl : j < fs.size := (Array.getElem?_eq_some_iff.1 hj).1
  have h1 := hg j f hj
  rw [ho, hk] at h1
  have hcells : (Value.agg cs).cells.toList = cs.toList := by simp [Value.cells]
  rw [hcells] at h1
  have hjc : j < cs.toList.length := by simp; omega
  have e : (cs.toList.drop j).take 1 = [cs.toList[j]] := by
    rw [List.drop_eq_getElem_cons hjc]
    rfl
  rw [e] at h1
  have hjx : j < xs.length := by omega
  rw [List.getElem?_eq_getElem hjx] at h1
  exact ⟨n, cs.toList[j], xs[j], by simp [show j < cs.size by omega], h1⟩
end
theorem choose_ltB {α : Type} [Inhabited α] {n : Nat} {P : Nat → α → Prop} (h : ∀ i, i < n → ∃ a, P i a) : ∃ f : Nat → α, (∀ i, i < n → P i (f i)) ∧ ∀ i, ¬ i < n → f i = default := by
  refine ⟨fun i => if h' : i < n then (h i h').choose else default, fun i hi => ?_, fun i hi => by simp [hi]⟩
  simp only [hi, dif_pos]
  exact (h i hi).choose_spec
theorem sub_of_cells {H : Type} {enc : TypeId × Value → H} {W : World} {fuel : Nat} {cs : List Value} {x : DataW H × List MemPlace} (hl : cs.length = 6)
    (h : DataW.trod enc Try.prog W 0 (fun _ => true) true fuel 46 cs = some x) :
    ∃ s : Queue.Sub, s.Ok ∧ cs = [.int .i64 s.topic, .int .i64 s.rank, .int .u64 s.cur.next, .int .i64 s.cur.cap, .int .u64 s.cur.got, .int .u64 s.cur.lost] := by
  match cs, hl with
  | [c0, c1, c2, c3, c4, c5], _ =>
    obtain ⟨y0, y1, y2, n, _, _, h0, h1, h2⟩ := Go.Deep.trod_struct3 Try.underlying46 h
    have k0 : Try.prog.cellsOf 3 = 1 := by kernel_rfl
    have k1 : Try.prog.cellsOf 44 = 4 := by kernel_rfl
    have k2 : Try.prog.cellsOf 32 = 1 := by kernel_rfl
    simp only [k0, k1, List.drop_zero, List.drop_succ_cons, List.take_succ_cons, List.take_zero] at h0 h1 h2
    obtain ⟨z0, z1, z2, z3, m, _, _, g0, g1, g2, g3⟩ := trod_struct4 Try.underlying44 h2
    simp only [k0, k2, List.drop_zero, List.drop_succ_cons, List.take_succ_cons, List.take_zero] at g0 g1 g2 g3
    obtain ⟨a0, e0, _, w0⟩ := DataW.trod_int Try.underlying3 h0
    obtain ⟨a1, e1, _, w1⟩ := DataW.trod_int Try.underlying3 h1
    obtain ⟨a2, e2, _, w2⟩ := DataW.trod_int Try.underlying32 g0
    obtain ⟨a3, e3, _, w3⟩ := DataW.trod_int Try.underlying3 g1
    obtain ⟨a4, e4, _, w4⟩ := DataW.trod_int Try.underlying32 g2
    obtain ⟨a5, e5, _, w5⟩ := DataW.trod_int Try.underlying32 g3
    simp only [List.cons.injEq, and_true] at e0 e1 e2 e3 e4 e5
    subst e0 e1 e2 e3 e4 e5
    exact ⟨⟨a0, a1, ⟨a2, a3, a4, a5⟩⟩, ⟨i64_bounds w1, ⟨u64_bounds w2, i64_bounds w3, u64_bounds w4, u64_bounds w5⟩⟩, rfl⟩

instance : Inhabited Queue.Sub := ⟨⟨0, 0, Cur.zero⟩⟩
instance : Inhabited Spot := ⟨⟨0, 0, 0, 0, 0⟩⟩
theorem subs_of_cs {H : Type} {enc : TypeId × Value → H} {W : World} {v : Value} {x : DataW H × List MemPlace} {fuel : Nat} (hf : DataW.trod enc Try.prog W 0 (fun _ => true) true fuel 22 [v] = some x) : ∃ x : Nat × (Nat → Queue.Sub), SubsC W v x.1 x.2 := by
  rcases open_slice Try.underlying22 hf with ⟨hcs, hx⟩ | ⟨a, len', cap', m, n, D, Pl, hcs, _, hl, hm, hmm, hx, hi⟩
  · simp only [List.cons.injEq, and_true] at hcs
    subst hcs
    exact ⟨(0, fun _ => default), ⟨⟨none, 0, rfl, by simp [maxLen], fun hn => absurd hn (by omega)⟩, fun i hi => absurd hi (by omega)⟩, _, _, rfl, Nat.le_refl 0⟩
  · simp only [List.cons.injEq, and_true] at hcs
    subst hcs
    simp only [if_true] at hmm
    have k6 : Try.prog.cellsOf 46 = 6 := by kernel_rfl
    rw [k6] at hi
    have hall : ∀ i, i < len' → ∃ s : Queue.Sub, s.Ok ∧ W.cell? (a.add (i * 6 + 0)) = some (.int .i64 s.topic) ∧ W.cell? (a.add (i * 6 + 1)) = some (.int .i64 s.rank) ∧ W.cell? (a.add (i * 6 + 2)) = some (.int .u64 s.cur.next) ∧
        W.cell? (a.add (i * 6 + 3)) = some (.int .i64 s.cur.cap) ∧ W.cell? (a.add (i * 6 + 4)) = some (.int .u64 s.cur.got) ∧ W.cell? (a.add (i * 6 + 5)) = some (.int .u64 s.cur.lost) := by
      intro i hlt
      obtain ⟨cs', hc, ht'⟩ := hi i (by omega)
      obtain ⟨_, hcl, hat⟩ := World.cells?_some hc
      obtain ⟨s, hs, rfl⟩ := sub_of_cells hcl ht'
      refine ⟨s, hs, ?_, ?_, ?_, ?_, ?_, ?_⟩
      · have := hat 0 (by omega); rw [Go.Deep.add_add] at this; simpa using this
      · have := hat 1 (by omega); rw [Go.Deep.add_add] at this; simpa using this
      · have := hat 2 (by omega); rw [Go.Deep.add_add] at this; simpa using this
      · have := hat 3 (by omega); rw [Go.Deep.add_add] at this; simpa using this
      · have := hat 4 (by omega); rw [Go.Deep.add_add] at this; simpa using this
      · have := hat 5 (by omega); rw [Go.Deep.add_add] at this; simpa using this
    obtain ⟨l, hl'⟩ := choose_lt hall
    refine ⟨(len', l), ⟨⟨some a, cap', rfl, by show len' ≤ maxLen; omega, fun hn => ?_⟩, fun i hlt => (hl' i hlt).1⟩, _, _, rfl, hl⟩
    obtain ⟨ab, ao, sp⟩ := a
    have c0 := (hl' 0 hn).2.1
    have hsp : sp = none := by
      cases sp with
      | none => rfl
      | some s =>
        simp only [World.cell?, Addr.add] at c0
        split at c0 <;> simp at c0
    subst hsp
    refine ⟨ab, ao, rfl, ?_, fun i hlt => ?_⟩
    · simpa [Addr.add] using lt_of_cell c0
    · obtain ⟨_, s0, s1, s2, s3, s4, s5⟩ := hl' i hlt
      have e : ∀ j, (⟨ab, ao, none⟩ : Addr).add (i * 6 + j) = ⟨ab, ao + i * 6 + j, none⟩ := fun j => by unfold Addr.add; split <;> simp_all <;> omega
      rw [e] at s0 s1 s2 s3 s4 s5
      exact ⟨s0, s1, s2, s3, s4, s5⟩
set_option maxRecDepth 100000 in
theorem sps_of_cs {H : Type} {enc : TypeId × Value → H} {W : World} {v : Value} {x : DataW H × List MemPlace} {fuel : Nat} (hf : DataW.trod enc Try.prog W 0 (fun _ => true) true fuel 23 [v] = some x) : ∃ x : Nat × (Nat → Spot), Sps W v x.1 x.2 ∧ ∀ i, i < x.1 → (-9223372036854775808 ≤ (x.2 i).seq ∧ (x.2 i).seq ≤ 9223372036854775807) ∧ (-9223372036854775808 ≤ (x.2 i).words ∧ (x.2 i).words ≤ 9223372036854775807) ∧ (-9223372036854775808 ≤ (x.2 i).first ∧ (x.2 i).first ≤ 9223372036854775807) := by
  obtain ⟨n, f, hr, hff⟩ := recs_of_cs Try.underlying23 Try.underlying48 (by kernel_rfl) (by kernel_rfl) (by decide) hf
  have hall : ∀ i, i < n → ∃ t : Spot, f i 0 = .int .i64 t.owners ∧ f i 1 = .int .i64 t.seq ∧ f i 2 = .int .i64 t.first ∧ f i 3 = .int .i64 t.words ∧ f i 4 = .int .i64 t.depth ∧ (-9223372036854775808 ≤ t.seq ∧ t.seq ≤ 9223372036854775807) ∧ (-9223372036854775808 ≤ t.words ∧ t.words ≤ 9223372036854775807) ∧ (-9223372036854775808 ≤ t.first ∧ t.first ≤ 9223372036854775807) := by
    intro i hi
    obtain ⟨m0, y0, q0⟩ := hff i hi 0 _ rfl
    obtain ⟨m1, y1, q1⟩ := hff i hi 1 _ rfl
    obtain ⟨m2, y2, q2⟩ := hff i hi 2 _ rfl
    obtain ⟨m3, y3, q3⟩ := hff i hi 3 _ rfl
    obtain ⟨m4, y4, q4⟩ := hff i hi 4 _ rfl
    obtain ⟨z0, e0, _, _⟩ := DataW.trod_int Try.underlying3 q0
    obtain ⟨z1, e1, _, w1⟩ := DataW.trod_int Try.underlying3 q1
    obtain ⟨z2, e2, _, w2⟩ := DataW.trod_int Try.underlying3 q2
    obtain ⟨z3, e3, _, w3⟩ := DataW.trod_int Try.underlying3 q3
    obtain ⟨z4, e4, _, _⟩ := DataW.trod_int Try.underlying3 q4
    exact ⟨⟨z0, z1, z2, z3, z4⟩, by simpa using e0, by simpa using e1, by simpa using e2, by simpa using e3, by simpa using e4, i64_bounds w1, i64_bounds w3, i64_bounds w2⟩
  obtain ⟨l, hl, hd⟩ := choose_ltB hall
  obtain ⟨A, k, rfl, hlen, hx⟩ := hr.form
  refine ⟨(n, l), ⟨A, k, rfl, hlen, fun hn => ?_⟩, fun i hi => ⟨(hl i hi).2.2.2.2.2.1, (hl i hi).2.2.2.2.2.2.1, (hl i hi).2.2.2.2.2.2.2⟩⟩
  obtain ⟨b, o, rfl, hb, hc⟩ := hx hn
  refine ⟨b, o, rfl, hb, fun i hi => ?_⟩
  obtain ⟨l0, l1, l2, l3, l4, _⟩ := hl i hi
  have s0 := hc i 0 hi (by decide)
  have s1 := hc i 1 hi (by decide)
  have s2 := hc i 2 hi (by decide)
  have s3 := hc i 3 hi (by decide)
  have s4 := hc i 4 hi (by decide)
  rw [l0] at s0
  rw [l1] at s1
  rw [l2] at s2
  rw [l3] at s3
  rw [l4] at s4
  exact ⟨s0, s1, s2, s3, s4⟩
/-- a case -/
structure Cs where
  v1 : Value
  v2 : Value
  n : Nat
  m : Nat
  l : Nat → Queue.Sub
  s : Nat → Spot
  tries : Int
structure CsAt (w : World) (v : Value) (c : Cs) : Prop where
  form : v = .agg #[c.v1, c.v2, .int .i64 c.tries]
  subs : SubsC w c.v1 c.n c.l
  sps : Sps w c.v2 c.m c.s
  fit : ∀ i, i < c.m → (-9223372036854775808 ≤ (c.s i).seq ∧ (c.s i).seq ≤ 9223372036854775807) ∧ (-9223372036854775808 ≤ (c.s i).words ∧ (c.s i).words ≤ 9223372036854775807) ∧ (-9223372036854775808 ≤ (c.s i).first ∧ (c.s i).first ≤ 9223372036854775807)
set_option maxRecDepth 100000 in
theorem case_of_trod {H : Type} {enc : TypeId × Value → H} {W : World} {r : Reach} {b : Nat} {v : Value} {d : DataW H} {p : List MemPlace}
    (hv : Value.okWide Try.prog W r b 25 v) (h : DataW.Trod enc Try.prog W 0 (fun _ => true) true 25 v d p) : ∃ c : Cs, CsAt W v c := by
  obtain ⟨cs, rfl, hsz, hf⟩ := fields1_of_trod Try.underlying25 (by kernel_rfl) (by kernel_rfl) hv h
  obtain ⟨_, c0, _, k0, h0⟩ := hf 0 _ rfl
  obtain ⟨_, c1, _, k1, h1⟩ := hf 1 _ rfl
  obtain ⟨_, c2, _, k2, h2⟩ := hf 2 _ rfl
  obtain ⟨n2, e2, _, g2⟩ := DataW.trod_int Try.underlying3 h2
  simp only [List.cons.injEq, and_true] at e2
  subst e2
  obtain ⟨x, hx⟩ := subs_of_cs h0
  obtain ⟨y, hy, hyf⟩ := sps_of_cs h1
  refine ⟨⟨c0, c1, x.1, y.1, x.2, y.2, n2⟩, ?_, hx, hy, hyf⟩
  congr 1
  apply Array.ext_getElem?
  intro i
  rcases (show i = 0 ∨ i = 1 ∨ i = 2 ∨ 3 ≤ i by omega) with rfl | rfl | rfl | hi
  · rw [k0]; rfl
  · rw [k1]; rfl
  · rw [k2]; rfl
  · rw [Array.getElem?_eq_none (by rw [hsz]; exact hi), Array.getElem?_eq_none (by simpa using hi)]
end Go.Proofs.Ythcaagkgddeabaa.Bank
