/-
  Law 6: the laws' arguments, opened: spots, configs, pairs. Conditions stand at each. By an AI agent.
-/
import Derived.Test.YtgdfhgoenemanaaDoorPlJ
namespace Go.Proofs.YtgdfhgoenemanaaDoor.Plan
set_option linter.unusedVariables false
set_option linter.unusedSimpArgs false
open Go Go.RowKit Go.Proofs.YtgdfhgoenemanaaDoor.Base Go.ChangeShapes Go.WideShapes Go.Deep
section
variable {H : Type} {enc : TypeId × Value → H} {P : Program}
/-- a slice of structs of one-cell fields, in a cell -/
theorem recs_of_cs {W : World} {t e : TypeId} {fs : Array Field} {v : Value} {x : DataW H × List MemPlace} {fuel : Nat} (ht : P.underlying t = some (.slice e)) (he : P.underlying e = some (.struct fs))
    (hone : oneCellFields P fs = true) (hC : P.cellsOf e = fs.size) (hpos : 0 < fs.size) (hf : DataW.trod enc P W 0 (fun _ => true) true fuel t [v] = some x) :
    ∃ (n : Nat) (f : Nat → Nat → Value), Recs W v fs.size n f ∧ ∀ i, i < n → ∀ (j : Nat) (fd : Field), fs[j]? = some fd → ∃ (m : Nat) (y : DataW H × List MemPlace), DataW.trod enc P W 0 (fun _ => true) true m fd.type [f i j] = some y := by
  rcases open_slice_fields ht he hone hC hf with ⟨hcs, hx⟩ | ⟨a, len', cap', m, D, Pl, hcs, _, hl, hm, hmm, hx, hel⟩
  · simp only [List.cons.injEq, and_true] at hcs
    subst hcs
    exact ⟨0, fun _ _ => undef, ⟨⟨none, 0, rfl, by simp [maxLen], fun hn => absurd hn (by omega)⟩⟩, fun i hi => absurd hi (by omega)⟩
  · simp only [List.cons.injEq, and_true] at hcs
    subst hcs
    simp only [if_true] at hmm
    have hone' : ∀ i, i < len' → ∀ j : Nat, j < fs.size → ∃ u, W.cell? (a.add (i * fs.size + j)) = some u ∧ ∃ (m : Nat) (y : DataW H × List MemPlace), ∀ fd, fs[j]? = some fd → DataW.trod enc P W 0 (fun _ => true) true m fd.type [u] = some y := by
      intro i hi j hj
      obtain ⟨ys, k, _, _, _, hg⟩ := hel i (by omega)
      obtain ⟨u, y, h1, _, h2⟩ := hg j fs[j] (Array.getElem?_eq_getElem hj)
      exact ⟨u, h1, k, y, fun fd hfd => by rw [Array.getElem?_eq_getElem hj] at hfd; injection hfd with hfd; subst hfd; exact h2⟩
    let f : Nat → Nat → Value := fun i j => (W.cell? (a.add (i * fs.size + j))).getD undef
    have hfe : ∀ i, i < len' → ∀ j : Nat, j < fs.size → W.cell? (a.add (i * fs.size + j)) = some (f i j) := by
      intro i hi j hj
      obtain ⟨u, hu, _⟩ := hone' i hi j hj
      show _ = some ((W.cell? (a.add (i * fs.size + j))).getD undef)
      rw [hu]; rfl
    refine ⟨len', f, ⟨⟨some a, cap', rfl, by omega, fun hn => ?_⟩⟩, fun i hi j fd hfd => ?_⟩
    · obtain ⟨ab, ao, sp⟩ := a
      have c0 := hfe 0 hn 0 hpos
      have hsp : sp = none := by
        cases sp with
        | none => rfl
        | some s =>
          simp only [World.cell?, Addr.add] at c0
          split at c0 <;> simp at c0
      subst hsp
      refine ⟨ab, ao, rfl, ?_, fun i j hi hj => ?_⟩
      · simpa [Addr.add] using lt_of_cell c0
      · have c := hfe i hi j hj
        have e : (⟨ab, ao, none⟩ : Addr).add (i * fs.size + j) = ⟨ab, ao + i * fs.size + j, none⟩ := by unfold Addr.add; split <;> simp_all <;> omega
        rwa [e] at c
    · have hj : j < fs.size := (Array.getElem?_eq_some_iff.1 hfd).1
      obtain ⟨u, hu, m, y, hy⟩ := hone' i hi j hj
      have : f i j = u := by show (W.cell? (a.add (i * fs.size + j))).getD undef = u; rw [hu]; rfl
      rw [this]
      exact ⟨m, y, hy fd hfd⟩
/-- a struct of one-cell fields, by value -/
theorem fields1_of_trod {W : World} {t : TypeId} {fs : Array Field} {r : Reach} {b : Nat} {v : Value} {d : DataW H} {p : List MemPlace} (hs : P.underlying t = some (.struct fs)) (hone : oneCellFields P fs = true) (hC : P.cellsOf t = fs.size)
    (hv : Value.okWide P W r b t v) (h : DataW.Trod enc P W 0 (fun _ => true) true t v d p) :
    ∃ cs : Array Value, v = .agg cs ∧ cs.size = fs.size ∧ ∀ (j : Nat) (f : Field), fs[j]? = some f → ∃ (n : Nat) (c : Value) (y : DataW H × List MemPlace), cs[j]? = some c ∧ DataW.trod enc P W 0 (fun _ => true) true n f.type [c] = some y := by
  obtain ⟨cs, rfl, hsz⟩ := okWide_struct hs hv
  rw [hC] at hsz
  obtain ⟨fuel, hf⟩ := h
  obtain ⟨xs, n, _, _, _, hlen, hg⟩ := DataW.trod_struct hs hf
  refine ⟨cs, rfl, hsz, fun j f hj => ?_⟩
  obtain ⟨ho, hk⟩ := hone_of hone j f hj
  have hjl : j < fs.size := (Array.getElem?_eq_some_iff.1 hj).1
  have h1 := hg j f hj
  rw [ho, hk] at h1
  have hcells : (Value.agg cs).cells.toList = cs.toList := by simp [Value.cells]
  rw [hcells] at h1
  have hjc : j < cs.toList.length := by simp; omega
  have e : (cs.toList.drop j).take 1 = [cs.toList[j]] := by
    rw [List.drop_eq_getElem_cons hjc]
    rfl
  rw [e] at h1
  have hjx : j < xs.length := by omega
  rw [List.getElem?_eq_getElem hjx] at h1
  exact ⟨n, cs.toList[j], xs[j], by simp [show j < cs.size by omega], h1⟩
end
theorem choose_ltB {α : Type} [Inhabited α] {n : Nat} {P : Nat → α → Prop} (h : ∀ i, i < n → ∃ a, P i a) : ∃ f : Nat → α, (∀ i, i < n → P i (f i)) ∧ ∀ i, ¬ i < n → f i = default := by
  refine ⟨fun i => if h' : i < n then (h i h').choose else default, fun i hi => ?_, fun i hi => by simp [hi]⟩
  simp only [hi, dif_pos]
  exact (h i hi).choose_spec
set_option maxRecDepth 100000 in
theorem spot_of_trod {H : Type} {enc : TypeId × Value → H} {W : World} {r : Reach} {b : Nat} {v : Value} {d : DataW H} {p : List MemPlace}
    (hv : Value.okWide Tryd.prog W r b 43 v) (h : DataW.Trod enc Tryd.prog W 0 (fun _ => true) true 43 v d p) : ∃ s : Sp, v = s.val := by
  obtain ⟨cs, rfl, hsz, hf⟩ := fields1_of_trod Tryd.underlying43 (by kernel_rfl) (by kernel_rfl) hv h
  obtain ⟨_, c0, _, k0, h0⟩ := hf 0 _ rfl
  obtain ⟨_, c1, _, k1, h1⟩ := hf 1 _ rfl
  obtain ⟨_, c2, _, k2, h2⟩ := hf 2 _ rfl
  obtain ⟨_, c3, _, k3, h3⟩ := hf 3 _ rfl
  obtain ⟨_, c4, _, k4, h4⟩ := hf 4 _ rfl
  obtain ⟨n0, e0, _, g0⟩ := DataW.trod_int Tryd.underlying3 h0
  obtain ⟨n1, e1, _, g1⟩ := DataW.trod_int Tryd.underlying3 h1
  obtain ⟨n2, e2, _, g2⟩ := DataW.trod_int Tryd.underlying3 h2
  obtain ⟨n3, e3, _, g3⟩ := DataW.trod_int Tryd.underlying3 h3
  obtain ⟨n4, e4, _, g4⟩ := DataW.trod_int Tryd.underlying3 h4
  simp only [List.cons.injEq, and_true] at e0 e1 e2 e3 e4
  subst e0 e1 e2 e3 e4
  refine ⟨⟨n0, n1, n2, n3, n4⟩, ?_⟩
  unfold Sp.val
  congr 1
  apply Array.ext_getElem?
  intro i
  rcases (show i = 0 ∨ i = 1 ∨ i = 2 ∨ i = 3 ∨ i = 4 ∨ 5 ≤ i by omega) with rfl | rfl | rfl | rfl | rfl | hi
  · rw [k0]; rfl
  · rw [k1]; rfl
  · rw [k2]; rfl
  · rw [k3]; rfl
  · rw [k4]; rfl
  · rw [Array.getElem?_eq_none (by rw [hsz]; exact hi), Array.getElem?_eq_none (by simpa using hi)]
set_option maxRecDepth 100000 in
theorem pair_of_trod {H : Type} {enc : TypeId × Value → H} {W : World} {r : Reach} {b : Nat} {v : Value} {d : DataW H} {p : List MemPlace}
    (hv : Value.okWide Tryd.prog W r b 44 v) (h : DataW.Trod enc Tryd.prog W 0 (fun _ => true) true 44 v d p) : ∃ x : Int × Int, v = .agg #[.int .i64 x.1, .int .i64 x.2] := by
  obtain ⟨xs, hl, rfl, _⟩ := arr_of_trod Tryd.underlying44 Tryd.underlying3 (by kernel_rfl) (by kernel_rfl) hv h
  match xs, hl with
  | [a, c], _ => exact ⟨(a, c), rfl⟩
instance : Inhabited Tc := ⟨⟨ByteArray.empty, 0, 0⟩⟩
/-- a config that came in: its value's slice, and what it says -/
structure CfAt (w : World) (v : Value) (c : Cf) : Prop where
  form : ∃ A k, v = cfV c A k ∧ Tcs w A c.n c.l ∧ c.n ≤ maxLen
  nms : ∀ q, (c.l q).nm.size ≤ maxLen
set_option maxRecDepth 100000 in
theorem cf_of_trod {H : Type} {enc : TypeId × Value → H} {W : World} {r : Reach} {b : Nat} {v : Value} {d : DataW H} {p : List MemPlace}
    (hv : Value.okWide Tryd.prog W r b 24 v) (h : DataW.Trod enc Tryd.prog W 0 (fun _ => true) true 24 v d p) : ∃ c : Cf, CfAt W v c := by
  obtain ⟨cs, rfl, hsz, hf⟩ := fields1_of_trod Tryd.underlying24 (by kernel_rfl) (by kernel_rfl) hv h
  obtain ⟨_, c0, _, k0, h0⟩ := hf 0 _ rfl
  obtain ⟨_, c1, _, k1, h1⟩ := hf 1 _ rfl
  obtain ⟨_, c2, _, k2, h2⟩ := hf 2 _ rfl
  obtain ⟨_, c3, _, k3, h3⟩ := hf 3 _ rfl
  obtain ⟨n0, e0, _, g0⟩ := DataW.trod_int Tryd.underlying3 h0
  obtain ⟨n2, e2, _, g2⟩ := DataW.trod_int Tryd.underlying3 h2
  obtain ⟨n3, e3, _, g3⟩ := DataW.trod_int Tryd.underlying3 h3
  simp only [List.cons.injEq, and_true] at e0 e2 e3
  subst e0 e2 e3
  obtain ⟨n, f, hr, hff⟩ := recs_of_cs Tryd.underlying22 Tryd.underlying59 (by kernel_rfl) (by kernel_rfl) (by decide) h1
  have hall : ∀ i, i < n → ∃ t : Tc, f i 0 = .string t.nm ∧ f i 1 = .int .i64 t.words ∧ f i 2 = .int .i64 t.depth ∧ t.nm.size ≤ maxLen := by
    intro i hi
    obtain ⟨m0, y0, q0⟩ := hff i hi 0 _ rfl
    obtain ⟨m1, y1, q1⟩ := hff i hi 1 _ rfl
    obtain ⟨m2, y2, q2⟩ := hff i hi 2 _ rfl
    obtain ⟨s, e0, _, w0⟩ := DataW.trod_string Tryd.underlying9 q0
    obtain ⟨z1, e1, _, _⟩ := DataW.trod_int Tryd.underlying3 q1
    obtain ⟨z2, e2, _, _⟩ := DataW.trod_int Tryd.underlying3 q2
    exact ⟨⟨s, z1, z2⟩, by simpa using e0, by simpa using e1, by simpa using e2, w0⟩
  obtain ⟨l, hl, hd⟩ := choose_ltB hall
  obtain ⟨A, k, rfl, hlen, hx⟩ := hr.form
  refine ⟨⟨n0, n, l, n2, n3⟩, ⟨A, k, ?_, fun hn => ?_, hlen⟩, fun q => ?_⟩
  · unfold cfV
    congr 1
    apply Array.ext_getElem?
    intro i
    rcases (show i = 0 ∨ i = 1 ∨ i = 2 ∨ i = 3 ∨ 4 ≤ i by omega) with rfl | rfl | rfl | rfl | hi
    · rw [k0]; rfl
    · rw [k1]; rfl
    · rw [k2]; rfl
    · rw [k3]; rfl
    · rw [Array.getElem?_eq_none (by rw [hsz]; exact hi), Array.getElem?_eq_none (by simpa using hi)]
  · obtain ⟨b, o, rfl, hb, hc⟩ := hx hn
    refine ⟨b, o, rfl, hb, fun i hi => ?_⟩
    obtain ⟨l0, l1, l2, _⟩ := hl i hi
    have s0 := hc i 0 hi (by decide)
    have s1 := hc i 1 hi (by decide)
    have s2 := hc i 2 hi (by decide)
    rw [l0] at s0
    rw [l1] at s1
    rw [l2] at s2
    exact ⟨s0, s1, s2⟩
  · by_cases hq : q < n
    · exact (hl q hq).2.2.2
    · show (l q).nm.size ≤ maxLen
      rw [hd q hq]
      show ByteArray.empty.size ≤ maxLen
      simp [maxLen]
set_option maxRecDepth 100000 in
theorem two_of_trod {H : Type} {enc : TypeId × Value → H} {W : World} {r : Reach} {b : Nat} {v : Value} {d : DataW H} {p : List MemPlace}
    (hv : Value.okWide Tryd.prog W r b 55 v) (h : DataW.Trod enc Tryd.prog W 0 (fun _ => true) true 55 v d p) :
    ∃ x : (Int × Int) × (Int × Int), v = .agg #[.int .u64 x.1.1, .int .u64 x.1.2, .int .i64 x.2.1, .int .i64 x.2.2] ∧ (0 ≤ x.1.1 ∧ x.1.1 ≤ 18446744073709551615) ∧ (0 ≤ x.1.2 ∧ x.1.2 ≤ 18446744073709551615) := by
  obtain ⟨cs, rfl, hsz⟩ := okWide_struct Tryd.underlying55 hv
  rw [show Tryd.prog.cellsOf 55 = 4 by kernel_rfl] at hsz
  obtain ⟨c0, c1, c2, c3, rfl⟩ : ∃ c0 c1 c2 c3, cs = #[c0, c1, c2, c3] := by
    obtain ⟨l⟩ := cs
    match l, hsz with
    | [a, b, c, d], _ => exact ⟨a, b, c, d, rfl⟩
  obtain ⟨fuel, hf⟩ := h
  obtain ⟨ys, m, _, _, _, hyl, hg⟩ := DataW.trod_struct Tryd.underlying55 hf
  have hcells : (Value.agg #[c0, c1, c2, c3]).cells.toList = [c0, c1, c2, c3] := by simp [Value.cells]
  rw [hcells] at hg
  have hs : DataW.trod enc Tryd.prog W 0 (fun _ => true) true m 53 [c0, c1] = ys[0]? := by
    have h9 := hg 0 _ rfl
    change DataW.trod enc Tryd.prog W 0 (fun _ => true) true m 53 (List.take (Tryd.prog.cellsOf 53) (List.drop 0 [c0, c1, c2, c3])) = _ at h9
    rw [show Tryd.prog.cellsOf 53 = 2 by kernel_rfl] at h9
    exact h9
  have ht : DataW.trod enc Tryd.prog W 0 (fun _ => true) true m 44 [c2, c3] = ys[1]? := by
    have h9 := hg 1 _ rfl
    change DataW.trod enc Tryd.prog W 0 (fun _ => true) true m 44 (List.take (Tryd.prog.cellsOf 44) (List.drop 2 [c0, c1, c2, c3])) = _ at h9
    rw [show Tryd.prog.cellsOf 44 = 2 by kernel_rfl] at h9
    exact h9
  obtain ⟨y0, hy0⟩ : ∃ y0, ys[0]? = some y0 := ⟨_, List.getElem?_eq_getElem (by rw [hyl]; decide)⟩
  obtain ⟨y1, hy1⟩ : ∃ y1, ys[1]? = some y1 := ⟨_, List.getElem?_eq_getElem (by rw [hyl]; decide)⟩
  rw [hy0] at hs
  rw [hy1] at ht
  obtain ⟨xs, m1, _, _, _, hlen, hel⟩ := DataW.trod_array Tryd.underlying53 hs
  obtain ⟨xt, m2, _, _, _, hlet, het⟩ := DataW.trod_array Tryd.underlying44 ht
  have one : ∀ i c, i < 2 → [c0, c1][i]? = some c → ∃ z, c = .int .u64 z ∧ (Lit.int .u64 z).wf = true := by
    intro i c hi hc
    have h1 := hel i hi
    rw [show Tryd.prog.cellsOf 45 = 1 by kernel_rfl, Nat.mul_one, List.getElem?_eq_getElem (by omega)] at h1
    obtain ⟨z, hz, _, hw⟩ := DataW.trod_int Tryd.underlying45 h1
    refine ⟨z, ?_, hw⟩
    have := congrArg (·[0]?) hz
    simp only [List.getElem?_take, List.getElem?_drop] at this
    simp at this
    rw [hc] at this
    exact Option.some.inj this
  have one2 : ∀ i c, i < 2 → [c2, c3][i]? = some c → ∃ z, c = .int .i64 z := by
    intro i c hi hc
    have h1 := het i hi
    rw [show Tryd.prog.cellsOf 3 = 1 by kernel_rfl, Nat.mul_one, List.getElem?_eq_getElem (by omega)] at h1
    obtain ⟨z, hz, _, hw⟩ := DataW.trod_int Tryd.underlying3 h1
    refine ⟨z, ?_⟩
    have := congrArg (·[0]?) hz
    simp only [List.getElem?_take, List.getElem?_drop] at this
    simp at this
    rw [hc] at this
    exact Option.some.inj this
  obtain ⟨g0, rfl, w0⟩ := one 0 c0 (by omega) rfl
  obtain ⟨g1, rfl, w1⟩ := one 1 c1 (by omega) rfl
  obtain ⟨g2, rfl⟩ := one2 0 c2 (by omega) rfl
  obtain ⟨g3, rfl⟩ := one2 1 c3 (by omega) rfl
  exact ⟨((g0, g1), (g2, g3)), rfl, u64_bounds w0, u64_bounds w1⟩
end Go.Proofs.YtgdfhgoenemanaaDoor.Plan
