/-
  WriteSteps' arguments, opened; publishings beside the document's own, in memory. Conditions stand at each. By an AI agent.
-/
import Derived.Test.YtpfjadgcnaffgaaRf8s
import Derived.Test.YtpfjadgcnaffgaaNilW
namespace Go.Proofs.Ytpfjadgcnaffgaa.Bank
set_option linter.unusedVariables false
set_option linter.unusedSimpArgs false
open Go Go.RowKit Go.Proofs.Ytpfjadgcnaffgaa.Base Go.ChangeShapes Go.WideShapes Go.Deep
section
variable {H : Type} {enc : TypeId × Value → H} {P : Program}
/-- a slice of structs of one-cell fields, in a cell -/
theorem recs_of_cs {W : World} {t e : TypeId} {fs : Array Field} {v : Value} {x : DataW H × List MemPlace} {fuel : Nat} (ht : P.underlying t = some (.slice e)) (he : P.underlying e = some (.struct fs))
    (hone : oneCellFields P fs = true) (hC : P.cellsOf e = fs.size) (hpos : 0 < fs.size) (hf : DataW.trod enc P W 0 (fun _ => true) true fuel t [v] = some x) :
    ∃ (n : Nat) (f : Nat → Nat → Value), Recs W v fs.size n f ∧ ∀ i, i < n → ∀ (j : Nat) (fd : Field), fs[j]? = some fd → ∃ (m : Nat) (y : DataW H × List MemPlace), DataW.trod enc P W 0 (fun _ => true) true m fd.type [f i j] = some y := by
  rcases open_slice_fields ht he hone hC hf with ⟨hcs, hx⟩ | ⟨a, len', cap', m, D, Pl, hcs, _, hl, hm, hmm, hx, hel⟩
  · simp only [List.cons.injEq, and_true] at hcs
    subst hcs
    exact ⟨0, fun _ _ => undef, ⟨⟨none, 0, rfl, by simp [maxLen], fun hn => absurd hn (by omega)⟩⟩, fun i hi => absurd hi (by omega)⟩
  · simp only [List.cons.injEq, and_true] at hcs
    subst hcs
    simp only [if_true] at hmm
    have hone' : ∀ i, i < len' → ∀ j : Nat, j < fs.size → ∃ u, W.cell? (a.add (i * fs.size + j)) = some u ∧ ∃ (m : Nat) (y : DataW H × List MemPlace), ∀ fd, fs[j]? = some fd → DataW.trod enc P W 0 (fun _ => true) true m fd.type [u] = some y := by
      intro i hi j hj
      obtain ⟨ys, k, _, _, _, hg⟩ := hel i (by omega)
      obtain ⟨u, y, h1, _, h2⟩ := hg j fs[j] (Array.getElem?_eq_getElem hj)
      exact ⟨u, h1, k, y, fun fd hfd => by rw [Array.getElem?_eq_getElem hj] at hfd; injection hfd with hfd; subst hfd; exact h2⟩
    let f : Nat → Nat → Value := fun i j => (W.cell? (a.add (i * fs.size + j))).getD undef
    have hfe : ∀ i, i < len' → ∀ j : Nat, j < fs.size → W.cell? (a.add (i * fs.size + j)) = some (f i j) := by
      intro i hi j hj
      obtain ⟨u, hu, _⟩ := hone' i hi j hj
      show _ = some ((W.cell? (a.add (i * fs.size + j))).getD undef)
      rw [hu]; rfl
    refine ⟨len', f, ⟨⟨some a, cap', rfl, by omega, fun hn => ?_⟩⟩, fun i hi j fd hfd => ?_⟩
    · obtain ⟨ab, ao, sp⟩ := a
      have c0 := hfe 0 hn 0 hpos
      have hsp : sp = none := by
        cases sp with
        | none => rfl
        | some s =>
          simp only [World.cell?, Addr.add] at c0
          split at c0 <;> simp at c0
      subst hsp
      refine ⟨ab, ao, rfl, ?_, fun i j hi hj => ?_⟩
      · simpa [Addr.add] using lt_of_cell c0
      · have c := hfe i hi j hj
        have e : (⟨ab, ao, none⟩ : Addr).add (i * fs.size + j) = ⟨ab, ao + i * fs.size + j, none⟩ := by unfold Addr.add; split <;> simp_all <;> omega
        rwa [e] at c
    · have hj : j < fs.size := (Array.getElem?_eq_some_iff.1 hfd).1
      obtain ⟨u, hu, m, y, hy⟩ := hone' i hi j hj
      have : f i j = u := by show (W.cell? (a.add (i * fs.size + j))).getD undef = u; rw [hu]; rfl
      rw [this]
      exact ⟨m, y, hy fd hfd⟩
/-- a struct of one-cell fields, by value -/
theorem fields1_of_trod {W : World} {t : TypeId} {fs : Array Field} {r : Reach} {b : Nat} {v : Value} {d : DataW H} {p : List MemPlace} (hs : P.underlying t = some (.struct fs)) (hone : oneCellFields P fs = true) (hC : P.cellsOf t = fs.size)
    (hv : Value.okWide P W r b t v) (h : DataW.Trod enc P W 0 (fun _ => true) true t v d p) :
    ∃ cs : Array Value, v = .agg cs ∧ cs.size = fs.size ∧ ∀ (j : Nat) (f : Field), fs[j]? = some f → ∃ (n : Nat) (c : Value) (y : DataW H × List MemPlace), cs[j]? = some c ∧ DataW.trod enc P W 0 (fun _ => true) true n f.type [c] = some y := by
  obtain ⟨cs, rfl, hsz⟩ := okWide_struct hs hv
  rw [hC] at hsz
  obtain ⟨fuel, hf⟩ := h
  obtain ⟨xs, n, _, _, _, hlen, hg⟩ := DataW.trod_struct hs hf
  refine ⟨cs, rfl, hsz, fun j f hj => ?_⟩
  obtain ⟨ho, hk⟩ := hone_of hone j f hj
  have hjl : j < fs.size := (Array.getElem?_eq_some_iff.1 hj).1
  have h1 := hg j f hj
  rw [ho, hk] at h1
  have hcells : (Value.agg cs).cells.toList = cs.toList := by simp [Value.cells]
  rw [hcells] at h1
  have hjc : j < cs.toList.length := by simp; omega
  have e : (cs.toList.drop j).take 1 = [cs.toList[j]] := by
    rw [List.drop_eq_getElem_cons hjc]
    rfl
  rw [e] at h1
  have hjx : j < xs.length := by omega
  rw [List.getElem?_eq_getElem hjx] at h1
  exact ⟨n, cs.toList[j], xs[j], by simp [show j < cs.size by omega], h1⟩
end
set_option maxRecDepth 100000 in
theorem spot_of_trod {H : Type} {enc : TypeId × Value → H} {W : World} {r : Reach} {b : Nat} {v : Value} {d : DataW H} {p : List MemPlace}
    (hv : Value.okWide Try.prog W r b 23 v) (h : DataW.Trod enc Try.prog W 0 (fun _ => true) true 23 v d p) : ∃ s : Spot, v = s.val := by
  obtain ⟨cs, rfl, hsz, hf⟩ := fields1_of_trod Try.underlying23 (by kernel_rfl) (by kernel_rfl) hv h
  obtain ⟨_, c0, _, k0, h0⟩ := hf 0 _ rfl
  obtain ⟨_, c1, _, k1, h1⟩ := hf 1 _ rfl
  obtain ⟨_, c2, _, k2, h2⟩ := hf 2 _ rfl
  obtain ⟨_, c3, _, k3, h3⟩ := hf 3 _ rfl
  obtain ⟨_, c4, _, k4, h4⟩ := hf 4 _ rfl
  obtain ⟨n0, e0, _, g0⟩ := DataW.trod_int Try.underlying3 h0
  obtain ⟨n1, e1, _, g1⟩ := DataW.trod_int Try.underlying3 h1
  obtain ⟨n2, e2, _, g2⟩ := DataW.trod_int Try.underlying3 h2
  obtain ⟨n3, e3, _, g3⟩ := DataW.trod_int Try.underlying3 h3
  obtain ⟨n4, e4, _, g4⟩ := DataW.trod_int Try.underlying3 h4
  simp only [List.cons.injEq, and_true] at e0 e1 e2 e3 e4
  subst e0 e1 e2 e3 e4
  refine ⟨⟨n0, n1, n2, n3, n4⟩, ?_⟩
  unfold Spot.val
  congr 1
  apply Array.ext_getElem?
  intro i
  rcases (show i = 0 ∨ i = 1 ∨ i = 2 ∨ i = 3 ∨ i = 4 ∨ 5 ≤ i by omega) with rfl | rfl | rfl | rfl | rfl | hi
  · rw [k0]; rfl
  · rw [k1]; rfl
  · rw [k2]; rfl
  · rw [k3]; rfl
  · rw [k4]; rfl
  · rw [Array.getElem?_eq_none (by rw [hsz]; exact hi), Array.getElem?_eq_none (by simpa using hi)]
structure Act where
  who : Int
  at_ : Int
  x : Int
structure Acts (w : World) (v : Value) (n : Nat) (l : Nat → Act) : Prop where
  form : ∃ A c, v = .slice A n c ∧ n ≤ maxLen ∧ (0 < n → ∃ b o, A = some ⟨b, o, none⟩ ∧ b < w.heap.size ∧ ∀ i : Nat, i < n →
    w.cell? ⟨b, o + i * 3, none⟩ = some (.int .i64 (l i).who) ∧ w.cell? ⟨b, o + i * 3 + 1, none⟩ = some (.int .i64 (l i).at_) ∧ w.cell? ⟨b, o + i * 3 + 2, none⟩ = some (.int .u64 (l i).x))
  ok : ∀ i : Nat, i < n → 0 ≤ (l i).x ∧ (l i).x ≤ 18446744073709551615
instance : Inhabited Act := ⟨⟨0, 0, 0⟩⟩
def playArr (vs : Nat → Value) (ts : Nat → Int) (va : Value) : Array Value := #[vs 0, .int .i64 (ts 0), vs 1, .int .i64 (ts 1), vs 2, .int .i64 (ts 2), va]
structure PlayAt (w : World) (v : Value) (vs : Nat → Value) (ts : Nat → Int) (xs : Nat → List Int) (va : Value) (n : Nat) (l : Nat → Act) : Prop where
  form : v = .agg (playArr vs ts va)
  rows : ∀ i, i < 3 → Ints w .u64 (vs i) (xs i) ∧ ∀ y ∈ xs i, (Lit.int .u64 y).wf = true
  acts : Acts w va n l
set_option maxRecDepth 100000 in
theorem play_of_trod {H : Type} {enc : TypeId × Value → H} {W : World} {r : Reach} {b : Nat} {v : Value} {d : DataW H} {p : List MemPlace}
    (hv : Value.okWide Try.prog W r b 30 v) (h : DataW.Trod enc Try.prog W 0 (fun _ => true) true 30 v d p) :
    ∃ x : (Nat → Value) × (Nat → Int) × (Nat → List Int) × Value × Nat × (Nat → Act), PlayAt W v x.1 x.2.1 x.2.2.1 x.2.2.2.1 x.2.2.2.2.1 x.2.2.2.2.2 := by
  obtain ⟨cs, rfl, hsz⟩ := okWide_struct Try.underlying30 hv
  rw [show Try.prog.cellsOf 30 = 7 by kernel_rfl] at hsz
  obtain ⟨c0, c1, c2, c3, c4, c5, c6, rfl⟩ : ∃ c0 c1 c2 c3 c4 c5 c6, cs = #[c0, c1, c2, c3, c4, c5, c6] := by
    obtain ⟨l⟩ := cs
    match l, hsz with
    | [a, b, c, d, e, f, g], _ => exact ⟨a, b, c, d, e, f, g, rfl⟩
  obtain ⟨fuel, hf⟩ := h
  obtain ⟨ys, m, _, _, _, hyl, hg⟩ := DataW.trod_struct Try.underlying30 hf
  have hcells : (Value.agg #[c0, c1, c2, c3, c4, c5, c6]).cells.toList = [c0, c1, c2, c3, c4, c5, c6] := by simp [Value.cells]
  rw [hcells] at hg
  have hj : DataW.trod enc Try.prog W 0 (fun _ => true) true m 27 [c0, c1, c2, c3, c4, c5] = ys[0]? := by
    have h9 := hg 0 _ rfl
    change DataW.trod enc Try.prog W 0 (fun _ => true) true m 27 (List.take (Try.prog.cellsOf 27) (List.drop 0 [c0, c1, c2, c3, c4, c5, c6])) = _ at h9
    rw [show Try.prog.cellsOf 27 = 6 by kernel_rfl] at h9
    exact h9
  have ha : DataW.trod enc Try.prog W 0 (fun _ => true) true m 28 [c6] = ys[1]? := by
    have h9 := hg 1 _ rfl
    change DataW.trod enc Try.prog W 0 (fun _ => true) true m 28 (List.take (Try.prog.cellsOf 28) (List.drop 6 [c0, c1, c2, c3, c4, c5, c6])) = _ at h9
    rw [show Try.prog.cellsOf 28 = 1 by kernel_rfl] at h9
    exact h9
  obtain ⟨y0, hy0⟩ : ∃ y0, ys[0]? = some y0 := ⟨_, List.getElem?_eq_getElem (by rw [hyl]; decide)⟩
  obtain ⟨y1, hy1⟩ : ∃ y1, ys[1]? = some y1 := ⟨_, List.getElem?_eq_getElem (by rw [hyl]; decide)⟩
  rw [hy0] at hj
  rw [hy1] at ha
  obtain ⟨zs, m2, _, _, _, hzl, hz⟩ := DataW.trod_array Try.underlying27 hj
  have each : ∀ i, i < 3 → ∃ (a b : Value) (t : Int) (xs : List Int), ([c0, c1, c2, c3, c4, c5].drop (i * 2)).take 2 = [a, b] ∧ b = .int .i64 t ∧ Ints W .u64 a xs ∧ ∀ y ∈ xs, (Lit.int .u64 y).wf = true := by
    intro i hi
    have h1 := hz i hi
    rw [show Try.prog.cellsOf 26 = 2 by kernel_rfl, List.getElem?_eq_getElem (by omega)] at h1
    obtain ⟨a, b, hab⟩ : ∃ a b, ([c0, c1, c2, c3, c4, c5].drop (i * 2)).take 2 = [a, b] := by
      match i, hi with
      | 0, _ => exact ⟨_, _, rfl⟩
      | 1, _ => exact ⟨_, _, rfl⟩
      | 2, _ => exact ⟨_, _, rfl⟩
    rw [hab] at h1
    obtain ⟨us, m3, _, _, _, hul, hu⟩ := DataW.trod_struct Try.underlying26 h1
    have hw : DataW.trod enc Try.prog W 0 (fun _ => true) true m3 24 [a] = us[0]? := by
      have h9 := hu 0 _ rfl
      change DataW.trod enc Try.prog W 0 (fun _ => true) true m3 24 (List.take (Try.prog.cellsOf 24) (List.drop 0 [a, b])) = _ at h9
      rw [show Try.prog.cellsOf 24 = 1 by kernel_rfl] at h9
      exact h9
    have ht : DataW.trod enc Try.prog W 0 (fun _ => true) true m3 3 [b] = us[1]? := by
      have h9 := hu 1 _ rfl
      change DataW.trod enc Try.prog W 0 (fun _ => true) true m3 3 (List.take (Try.prog.cellsOf 3) (List.drop 1 [a, b])) = _ at h9
      rw [show Try.prog.cellsOf 3 = 1 by kernel_rfl] at h9
      exact h9
    obtain ⟨u0, hu0⟩ : ∃ u0, us[0]? = some u0 := ⟨_, List.getElem?_eq_getElem (by rw [hul]; decide)⟩
    obtain ⟨u1, hu1⟩ : ∃ u1, us[1]? = some u1 := ⟨_, List.getElem?_eq_getElem (by rw [hul]; decide)⟩
    rw [hu0] at hw
    rw [hu1] at ht
    obtain ⟨v', xs, e, hi2, hwf⟩ := ints_of_cs Try.underlying24 Try.underlying49 (by kernel_rfl) hw
    obtain ⟨t, e2, _, _⟩ := DataW.trod_int Try.underlying3 ht
    simp only [List.cons.injEq, and_true] at e e2
    subst e e2
    exact ⟨a, _, t, xs, hab, rfl, hi2, hwf⟩
  obtain ⟨a0, b0, t0, x0, e0, rfl, i0, w0⟩ := each 0 (by omega)
  obtain ⟨a1, b1, t1, x1, e1, rfl, i1, w1⟩ := each 1 (by omega)
  obtain ⟨a2, b2, t2, x2, e2, rfl, i2, w2⟩ := each 2 (by omega)
  simp only [Nat.zero_mul, Nat.one_mul, Nat.reduceMul, List.drop_zero, List.take_succ_cons, List.take_zero, List.drop_succ_cons, List.cons.injEq, and_true] at e0 e1 e2
  obtain ⟨rfl, rfl⟩ := e0
  obtain ⟨rfl, rfl⟩ := e1
  obtain ⟨rfl, rfl⟩ := e2
  obtain ⟨n, f, hr, hff⟩ := recs_of_cs Try.underlying28 Try.underlying51 (by kernel_rfl) (by kernel_rfl) (by decide) ha
  have hall : ∀ i, i < n → ∃ a : Act, f i 0 = .int .i64 a.who ∧ f i 1 = .int .i64 a.at_ ∧ f i 2 = .int .u64 a.x ∧ 0 ≤ a.x ∧ a.x ≤ 18446744073709551615 := by
    intro i hi
    obtain ⟨m0, z0, h0⟩ := hff i hi 0 _ rfl
    obtain ⟨m1, z1, h1⟩ := hff i hi 1 _ rfl
    obtain ⟨m2, z2, h2⟩ := hff i hi 2 _ rfl
    obtain ⟨n0, e0, _, g0⟩ := DataW.trod_int Try.underlying3 h0
    obtain ⟨n1, e1, _, g1⟩ := DataW.trod_int Try.underlying3 h1
    obtain ⟨n2, e2, _, g2⟩ := DataW.trod_int Try.underlying49 h2
    exact ⟨⟨n0, n1, n2⟩, by simpa using e0, by simpa using e1, by simpa using e2, u64_bounds g2⟩
  obtain ⟨l, hl⟩ := choose_lt hall
  obtain ⟨A, c, rfl, hlen, hx⟩ := hr.form
  refine ⟨(fun i => if i = 0 then c0 else if i = 1 then c2 else c4, fun i => if i = 0 then t0 else if i = 1 then t1 else t2, fun i => if i = 0 then x0 else if i = 1 then x1 else x2, .slice A n c, n, l), ⟨rfl, fun i hi => ?_, ⟨A, c, rfl, hlen, fun hn => ?_⟩, fun i hi => (hl i hi).2.2.2⟩⟩
  · match i, hi with
    | 0, _ => exact ⟨i0, w0⟩
    | 1, _ => exact ⟨i1, w1⟩
    | 2, _ => exact ⟨i2, w2⟩
  · obtain ⟨b, o, rfl, hb, hc⟩ := hx hn
    refine ⟨b, o, rfl, hb, fun i hi => ?_⟩
    obtain ⟨l0, l1, l2, _⟩ := hl i hi
    have s0 := hc i 0 hi (by decide)
    have s1 := hc i 1 hi (by decide)
    have s2 := hc i 2 hi (by decide)
    rw [l0] at s0
    rw [l1] at s1
    rw [l2] at s2
    exact ⟨s0, s1, s2⟩

/-- a publishing, and the document's own beside it -/
abbrev PX := Nat → Option (Nat × Nat × Nat × WS × Nat × WS)
def updP (px : PX) (k : Nat) (y : Option (Nat × Nat × Nat × WS × Nat × WS)) : PX := fun j => if j = k then y else px j
theorem updP_self (px : PX) (k : Nat) (y) : updP px k y k = y := if_pos rfl
theorem updP_ne (px : PX) {k j : Nat} (y) (h : j ≠ k) : updP px k y j = px j := if_neg h
def pAddr : Option (Nat × Nat × Nat × WS × Nat × WS) → Option Addr
  | none => none
  | some z => some ⟨z.1, 0, none⟩
def fAddr : Option (Nat × Nat × Nat × WS × Nat × WS) → Option Addr
  | none => none
  | some z => some ⟨z.2.2.2.2.1, 0, none⟩
def pArr (px : PX) : Array Value := #[.pointer (pAddr (px 0)), .pointer (pAddr (px 1)), .pointer (pAddr (px 2))]
def fArr (px : PX) : Array Value := #[.pointer (fAddr (px 0)), .pointer (fAddr (px 1)), .pointer (fAddr (px 2))]
theorem pArr_cell (px : PX) {k : Nat} (hk : k < 3) : (pArr px)[k]? = some (.pointer (pAddr (px k))) := by
  match k, hk with
  | 0, _ => rfl
  | 1, _ => rfl
  | 2, _ => rfl
theorem fArr_cell (px : PX) {k : Nat} (hk : k < 3) : (fArr px)[k]? = some (.pointer (fAddr (px k))) := by
  match k, hk with
  | 0, _ => rfl
  | 1, _ => rfl
  | 2, _ => rfl
theorem pArr_set (px : PX) {k : Nat} (hk : k < 3) (y) : (pArr px).setIfInBounds k (.pointer (pAddr y)) = pArr (updP px k y) := by
  match k, hk with
  | 0, _ => rfl
  | 1, _ => rfl
  | 2, _ => rfl
theorem fArr_set (px : PX) {k : Nat} (hk : k < 3) (y) : (fArr px).setIfInBounds k (.pointer (fAddr y)) = fArr (updP px k y) := by
  match k, hk with
  | 0, _ => rfl
  | 1, _ => rfl
  | 2, _ => rfl
theorem pArr_same (px : PX) {k o r c f : Nat} {x x' y y' : WS} (h : px k = some (o, r, c, x, f, y)) : pArr (updP px k (some (o, r, c, x', f, y'))) = pArr px ∧ fArr (updP px k (some (o, r, c, x', f, y'))) = fArr px := by
  have e : ∀ j, pAddr (updP px k (some (o, r, c, x', f, y')) j) = pAddr (px j) ∧ fAddr (updP px k (some (o, r, c, x', f, y')) j) = fAddr (px j) := fun j => by
    by_cases hj : j = k
    · subst hj; rw [updP_self, h]; exact ⟨rfl, rfl⟩
    · rw [updP_ne _ _ hj]; exact ⟨rfl, rfl⟩
  unfold pArr fArr
  rw [(e 0).1, (e 1).1, (e 2).1, (e 0).2, (e 1).2, (e 2).2]
  exact ⟨rfl, rfl⟩
structure Prs (w : World) (lo : Nat) (s : Spot) (tr : Nat → Int) (vs : Nat → Value) (rec : Nat → List Int) (px : PX) : Prop where
  ops : ∀ k o r c x f y, k < 3 → px k = some (o, r, c, x, f, y) → OpAt w o r c s (rec k) (tr k) x ∧ WInv s (rec k) (tr k) x ∧ RefAt w f s (tr k) (vs k) y ∧ WInv s (rec k) (tr k) y ∧ Like x y ∧ lo < r ∧ r < o ∧ o < f
  far : ∀ j k o r c x f y o2 r2 c2 x2 f2 y2, j < 3 → k < 3 → j ≠ k → px j = some (o, r, c, x, f, y) → px k = some (o2, r2, c2, x2, f2, y2) → f < r2 ∨ f2 < r
theorem Prs.empty {w : World} {lo : Nat} {s : Spot} {tr : Nat → Int} {vs : Nat → Value} {rec : Nat → List Int} : Prs w lo s tr vs rec (fun _ => none) :=
  ⟨fun _ _ _ _ _ _ _ _ h => by simp at h, fun _ _ _ _ _ _ _ _ _ _ _ _ _ _ _ _ _ h => by simp at h⟩
theorem Prs.ex {T : Nat → Prop} {w w' : World} {lo : Nat} {s : Spot} {tr : Nat → Int} {vs : Nat → Value} {rec : Nat → List Int} {px : PX} (h : Prs w lo s tr vs rec px) (p : Ex T w w') (hT : ∀ b, T b → b ≤ lo) : Prs w' lo s tr vs rec px :=
  ⟨fun k o r c x f y hk hx => by
    obtain ⟨a, b, c1, d, e, h1, h2, h3⟩ := h.ops k o r c x f y hk hx
    exact ⟨a.ex p (fun ht => by have := hT _ ht; omega) (fun ht => by have := hT _ ht; omega), b, c1.ex p (fun ht => by have := hT _ ht; omega), d, e, h1, h2, h3⟩, h.far⟩
theorem Prs.turn {w w1 w2 : World} {lo g h0 hb : Nat} {s : Spot} {tr : Nat → Int} {vs : Nat → Value} {rec : Nat → List Int} {px : PX} (h : Prs w lo s tr vs rec px) {k o r c f : Nat} {x x' y y' : WS} (hk : k < 3) (hx : px k = some (o, r, c, x, f, y)) (hg : g ≤ lo) (hh : h0 ≤ lo) (hhb : hb ≤ lo)
    (p1 : Ex (fun b => b = f ∨ b = hb) w w1) (hr : RefAt w1 f s (tr k) (vs k) y') (p2 : Ex (fun b => b = g ∨ b = h0 ∨ b = o) w1 w2) (ho : OpAt w2 o r c s (rec k) (tr k) x') (hi : WInv s (rec k) (tr k) x') (hi2 : WInv s (rec k) (tr k) y') (hlk : Like x' y') :
    Prs w2 lo s tr vs rec (updP px k (some (o, r, c, x', f, y'))) := by
  have hl := h.ops k o r c x f y hk hx
  refine ⟨fun j o2 r2 c2 x2 f2 y2 hj hx2 => ?_, fun i j o2 r2 c2 x2 f2 y2 o3 r3 c3 x3 f3 y3 hi2 hj hne h1 h2 => ?_⟩
  · by_cases hjk : j = k
    · subst hjk
      rw [updP_self] at hx2
      simp only [Option.some.injEq, Prod.mk.injEq] at hx2
      obtain ⟨rfl, rfl, rfl, rfl, rfl, rfl⟩ := hx2
      exact ⟨ho, hi, hr.ex p2 (by omega), hi2, hlk, hl.2.2.2.2.2⟩
    · rw [updP_ne _ _ hjk] at hx2
      have hl2 := h.ops j o2 r2 c2 x2 f2 y2 hj hx2
      have hf := h.far j k _ _ _ _ _ _ _ _ _ _ _ _ hj hk hjk hx2 hx
      exact ⟨(hl2.1.ex p1 (by omega) (by omega)).ex p2 (by omega) (by omega), hl2.2.1, (hl2.2.2.1.ex p1 (by omega)).ex p2 (by omega), hl2.2.2.2⟩
  · have key : ∀ i, i < 3 → ∀ o2 r2 c2 x2 f2 y2, updP px k (some (o, r, c, x', f, y')) i = some (o2, r2, c2, x2, f2, y2) → ∃ x9 y9, px i = some (o2, r2, c2, x9, f2, y9) := by
      intro i _ o2 r2 c2 x2 f2 y2 h1
      by_cases hik : i = k
      · subst hik
        rw [updP_self] at h1
        simp only [Option.some.injEq, Prod.mk.injEq] at h1
        obtain ⟨rfl, rfl, rfl, rfl, rfl, rfl⟩ := h1
        exact ⟨x, y, hx⟩
      · rw [updP_ne _ _ hik] at h1
        exact ⟨_, _, h1⟩
    obtain ⟨_, _, e1⟩ := key i hi2 _ _ _ _ _ _ h1
    obtain ⟨_, _, e2⟩ := key j hj _ _ _ _ _ _ h2
    exact h.far i j _ _ _ _ _ _ _ _ _ _ _ _ hi2 hj hne e1 e2
theorem Prs.new {w w1 w2 : World} {lo : Nat} {s : Spot} {tr : Nat → Int} {vs : Nat → Value} {rec : Nat → List Int} {px : PX} (h : Prs w lo s tr vs rec px) {k o r c f : Nat} {x' y' : WS} (hk : k < 3) (hn : px k = none) (hb1 : Below w.heap.size w w1) (hb2 : Below w1.heap.size w1 w2) (hlo : lo < w.heap.size)
    (ho : OpAt w1 o r c s (rec k) (tr k) x') (hr : RefAt w2 f s (tr k) (vs k) y') (hi : WInv s (rec k) (tr k) x') (hi2 : WInv s (rec k) (tr k) y') (hlk : Like x' y') (q1 : w.heap.size ≤ r) (q2 : r < o) (q3 : w1.heap.size ≤ f) : Prs w2 lo s tr vs rec (updP px k (some (o, r, c, x', f, y'))) := by
  have old : ∀ j o2 r2 c2 x2 f2 y2, j < 3 → px j = some (o2, r2, c2, x2, f2, y2) → f2 < w.heap.size := fun j o2 r2 c2 x2 f2 y2 hj hx => Blk.lt (h.ops j o2 r2 c2 x2 f2 y2 hj hx).2.2.1
  have holt := ho.head.lt
  refine ⟨fun j o2 r2 c2 x2 f2 y2 hj hx2 => ?_, fun i j o2 r2 c2 x2 f2 y2 o3 r3 c3 x3 f3 y3 hi2 hj hne h1 h2 => ?_⟩
  · by_cases hjk : j = k
    · subst hjk
      rw [updP_self] at hx2
      simp only [Option.some.injEq, Prod.mk.injEq] at hx2
      obtain ⟨rfl, rfl, rfl, rfl, rfl, rfl⟩ := hx2
      exact ⟨ho.below hb2, hi, hr, hi2, hlk, by omega, q2, by omega⟩
    · rw [updP_ne _ _ hjk] at hx2
      have hl2 := h.ops j o2 r2 c2 x2 f2 y2 hj hx2
      exact ⟨(hl2.1.below hb1).below hb2, hl2.2.1, (hl2.2.2.1.ex (Ex.of_below (T := fun _ => False) hb1) (fun h => h)).ex (Ex.of_below (T := fun _ => False) hb2) (fun h => h), hl2.2.2.2⟩
  · by_cases hik : i = k
    · subst hik
      rw [updP_self] at h1
      rw [updP_ne _ _ (Ne.symm hne)] at h2
      simp only [Option.some.injEq, Prod.mk.injEq] at h1
      obtain ⟨rfl, rfl, rfl, rfl, rfl, rfl⟩ := h1
      have := old j _ _ _ _ _ _ hj h2
      omega
    · rw [updP_ne _ _ hik] at h1
      have := old i _ _ _ _ _ _ hi2 h1
      by_cases hjk : j = k
      · subst hjk
        rw [updP_self] at h2
        simp only [Option.some.injEq, Prod.mk.injEq] at h2
        obtain ⟨rfl, rfl, rfl, rfl, rfl, rfl⟩ := h2
        omega
      · rw [updP_ne _ _ hjk] at h2
        exact h.far i j _ _ _ _ _ _ _ _ _ _ _ _ hi2 hj hne h1 h2
theorem FInv {s : Spot} {rec : List Int} {tries : Int} {y : WS} (ws : List Int) (hf : ∀ z ∈ ws, 0 ≤ z ∧ z ≤ 18446744073709551615) (h : WInv s rec tries y) : WInv s rec tries (fStep s rec tries y ws).1 := by
  unfold fStep
  split
  · rename_i hc
    exact ⟨h.right, h.tr, h.len, .inl rfl, .inr (.inr (.inr rfl)), ⟨h.had.1, fun h => by simp at h⟩, h.sq, ⟨h.n.1, fun h => by simp at h⟩, fun h => by simp at h, ⟨h.steps.1, fun h => by simp at h, fun h => by simp at h, fun h => by simp at h, h.steps.2.2.2.2⟩, h.fit⟩
  · exact h.step ws 0 hf
end Go.Proofs.Ytpfjadgcnaffgaa.Bank
