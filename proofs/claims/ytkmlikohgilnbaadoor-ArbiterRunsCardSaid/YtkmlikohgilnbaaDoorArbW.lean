/-
  Law 15: three operations, each beside the document's own, in memory; and the arguments of ArbiterSteps, opened. Conditions stand at each. By an AI agent.
-/
import Derived.Test.YtkmlikohgilnbaaDoorArbU
import Derived.Test.YtkmlikohgilnbaaDoorArbA
import Derived.Test.YtkmlikohgilnbaaDoorArbT
import Derived.Lib.SmallJoins
namespace Go.Proofs.YtkmlikohgilnbaaDoor.Arb
set_option linter.unusedVariables false
set_option linter.unusedSimpArgs false
open Go Go.RowKit Go.Proofs.YtkmlikohgilnbaaDoor.Base Go.Proofs.YtkmlikohgilnbaaDoor.Reg Go.Deep Go.ChangeShapes Go.WideShapes
open Go.Proofs.YtkmlikohgilnbaaDoor.Bank (BankAt inW wordF setF tickF errF casB wordF_range)
open Go.Proofs.YtkmlikohgilnbaaDoor.Modes (Tab)

structure QX where
  o : Nat
  b : Nat
  x : AX
  r : Nat
  y : RX
abbrev Q3 := Nat → QX
def oV (q : Q3) (k j : Nat) : Value := if j < k then .pointer (some ⟨(q j).o, 0, none⟩) else .pointer none
def rV (q : Q3) (k j : Nat) : Value := if j < k then .pointer (some ⟨(q j).r, 0, none⟩) else .pointer none
def oArr (q : Q3) (k : Nat) : Array Value := #[oV q k 0, oV q k 1, oV q k 2]
def rArr (q : Q3) (k : Nat) : Array Value := #[rV q k 0, rV q k 1, rV q k 2]
def updQ (q : Q3) (k : Nat) (y : QX) : Q3 := fun j => if j = k then y else q j
theorem updQ_self (q : Q3) (k : Nat) (y) : updQ q k y k = y := if_pos rfl
theorem updQ_ne (q : Q3) {k j : Nat} (y) (h : j ≠ k) : updQ q k y j = q j := if_neg h
theorem oArr_cell (q : Q3) (k : Nat) {j : Nat} (hj : j < 3) : (oArr q k)[j]? = some (oV q k j) := by
  match j, hj with
  | 0, _ => rfl
  | 1, _ => rfl
  | 2, _ => rfl
theorem rArr_cell (q : Q3) (k : Nat) {j : Nat} (hj : j < 3) : (rArr q k)[j]? = some (rV q k j) := by
  match j, hj with
  | 0, _ => rfl
  | 1, _ => rfl
  | 2, _ => rfl
theorem oArr_new (q : Q3) {k : Nat} (hk : k < 3) (y : QX) : (oArr q k).setIfInBounds k (.pointer (some ⟨y.o, 0, none⟩)) = oArr (updQ q k y) (k + 1) := by
  match k, hk with
  | 0, _ => rfl
  | 1, _ => rfl
  | 2, _ => rfl
theorem rArr_new (q : Q3) {k : Nat} (hk : k < 3) (y : QX) : (rArr q k).setIfInBounds k (.pointer (some ⟨y.r, 0, none⟩)) = rArr (updQ q k y) (k + 1) := by
  match k, hk with
  | 0, _ => rfl
  | 1, _ => rfl
  | 2, _ => rfl
theorem arr_same (q : Q3) {k : Nat} (hk : k < 3) (x : AX) (y : RX) : oArr (updQ q k ⟨(q k).o, (q k).b, x, (q k).r, y⟩) 3 = oArr q 3 ∧ rArr (updQ q k ⟨(q k).o, (q k).b, x, (q k).r, y⟩) 3 = rArr q 3 := by
  match k, hk with
  | 0, _ => exact ⟨rfl, rfl⟩
  | 1, _ => exact ⟨rfl, rfl⟩
  | 2, _ => exact ⟨rfl, rfl⟩
structure Trio (w : World) (lo : Nat) (ps : Nat → Pl) (ts : Nat → Int) (k : Nat) (q : Q3) : Prop where
  ops : ∀ j, j < k → ArbAt w (q j).o (q j).b (ps j).kd 1 (q j).x ∧ AInv (ps j).kd ((ps j).n (ts j)) (q j).x ∧ Blk w (q j).r 46 (RX.cells (ps j) (ts j) (q j).y) ∧ Link (ps j).kd ((ps j).n (ts j)) (q j).x (q j).y ∧ (q j).b < w.heap.size
  low : ∀ j, j < k → lo < (q j).o ∧ lo < (q j).r ∧ (lo < (q j).b ∨ (q j).b = 0) ∧ (q j).r ≠ (q j).o ∧ (q j).b ≠ (q j).r
  far : ∀ i j, i < k → j < k → i ≠ j → (q i).o ≠ (q j).o ∧ (q i).b ≠ (q j).o ∧ (q i).r ≠ (q j).o ∧ (q i).o ≠ (q j).r ∧ (q i).b ≠ (q j).r ∧ (q i).r ≠ (q j).r
section
variable {w w1 w2 : World} {lo g rr : Nat} {ps : Nat → Pl} {ts : Nat → Int} {k : Nat} {q : Q3}
theorem Trio.empty : Trio w lo ps ts 0 q := ⟨fun _ h => absurd h (by omega), fun _ h => absurd h (by omega), fun _ _ h => absurd h (by omega)⟩
theorem Trio.ex {T : Nat → Prop} (h : Trio w lo ps ts k q) (p : Ex T w w2) (hT : ∀ b, T b → b ≤ lo ∧ 0 < b) : Trio w2 lo ps ts k q :=
  ⟨fun j hj => by
    obtain ⟨a, b, c, d, e⟩ := h.ops j hj
    obtain ⟨l1, l2, l3, _, _⟩ := h.low j hj
    exact ⟨a.ex p (fun ht => by have := hT _ ht; omega) (fun ht => by have := hT _ ht; omega), b, c.ex p (fun ht => by have := hT _ ht; omega), d, Nat.lt_of_lt_of_le e p.size⟩, h.low, h.far⟩
theorem Trio.new (h : Trio w lo ps ts k q) (hb : Below w.heap.size w w2) (hlo : lo < w.heap.size) {y : QX} (ho : ArbAt w2 y.o y.b (ps k).kd 1 y.x) (hi : AInv (ps k).kd ((ps k).n (ts k)) y.x) (hr : Blk w2 y.r 46 (RX.cells (ps k) (ts k) y.y)) (hl : Link (ps k).kd ((ps k).n (ts k)) y.x y.y) (hbl : y.b < w2.heap.size)
    (q1 : w.heap.size ≤ y.o) (q2 : w.heap.size ≤ y.b ∨ y.b = 0) (q3 : w.heap.size ≤ y.r) (q4 : y.r ≠ y.o) (q5 : y.b ≠ y.r) : Trio w2 lo ps ts (k + 1) (updQ q k y) := by
  have old : ∀ j, j < k → (q j).o < w.heap.size ∧ (q j).r < w.heap.size ∧ (q j).b < w.heap.size := fun j hj => by
    obtain ⟨a, _, c, _, e⟩ := h.ops j hj
    exact ⟨a.head.lt, Blk.lt c, e⟩
  have hx : Ex (fun _ => False) w w2 := Ex.of_below hb
  refine ⟨fun j hj => ?_, fun j hj => ?_, fun i j hi2 hj hne => ?_⟩
  · by_cases e : j = k
    · subst e
      rw [updQ_self]
      exact ⟨ho, hi, hr, hl, hbl⟩
    · rw [updQ_ne _ _ e]
      obtain ⟨a, b, c, d, e2⟩ := h.ops j (by omega)
      exact ⟨a.ex hx (fun h => h) (fun h => h), b, c.ex hx (fun h => h), d, Nat.lt_of_lt_of_le e2 hb.size⟩
  · by_cases e : j = k
    · subst e
      rw [updQ_self]
      exact ⟨by omega, by omega, by omega, q4, q5⟩
    · rw [updQ_ne _ _ e]
      exact h.low j (by omega)
  · by_cases e : i = k
    · subst e
      rw [updQ_self, updQ_ne _ _ (Ne.symm hne)]
      have := old j (by omega)
      have := h.low j (by omega)
      omega
    · rw [updQ_ne _ _ e]
      by_cases e2 : j = k
      · subst e2
        rw [updQ_self]
        have := old i (by omega)
        have := h.low i (by omega)
        omega
      · rw [updQ_ne _ _ e2]
        exact h.far i j (by omega) (by omega) hne
theorem Trio.turn (h : Trio w lo ps ts 3 q) (hk : k < 3) (p1 : Ex (fun z => z = g ∨ z = rr ∨ z = (q k).o) w w1) (p2 : Ex (fun z => z = (q k).r) w1 w2) (hg : g ≤ lo ∧ 0 < g) (hrr : rr ≤ lo ∧ 0 < rr) {x : AX} {y : RX}
    (ho : ArbAt w1 (q k).o (q k).b (ps k).kd 1 x) (hi : AInv (ps k).kd ((ps k).n (ts k)) x) (hr : Blk w2 (q k).r 46 (RX.cells (ps k) (ts k) y)) (hl : Link (ps k).kd ((ps k).n (ts k)) x y) : Trio w2 lo ps ts 3 (updQ q k ⟨(q k).o, (q k).b, x, (q k).r, y⟩) := by
  obtain ⟨l1, l2, l3, l4, l5⟩ := h.low k hk
  refine ⟨fun j hj => ?_, fun j hj => ?_, fun i j hi2 hj hne => ?_⟩
  · by_cases e : j = k
    · subst e
      rw [updQ_self]
      exact ⟨ho.ex p2 (fun h => l4 h.symm) l5, hi, hr, hl, Nat.lt_of_lt_of_le (h.ops j hj).2.2.2.2 (Nat.le_trans p1.size p2.size)⟩
    · rw [updQ_ne _ _ e]
      obtain ⟨a, b, c, d, e2⟩ := h.ops j hj
      obtain ⟨m1, m2, m3, m4, m5⟩ := h.low j hj
      obtain ⟨f1, f2, f3, f4, f5, f6⟩ := h.far j k hj hk e
      exact ⟨(a.ex p1 (by omega) (by omega)).ex p2 f4 f5, b, (c.ex p1 (by omega)).ex p2 f6, d, Nat.lt_of_lt_of_le e2 (Nat.le_trans p1.size p2.size)⟩
  · by_cases e : j = k
    · subst e; rw [updQ_self]; exact h.low j hj
    · rw [updQ_ne _ _ e]; exact h.low j hj
  · have key : ∀ i, (updQ q k ⟨(q k).o, (q k).b, x, (q k).r, y⟩ i).o = (q i).o ∧ (updQ q k ⟨(q k).o, (q k).b, x, (q k).r, y⟩ i).b = (q i).b ∧ (updQ q k ⟨(q k).o, (q k).b, x, (q k).r, y⟩ i).r = (q i).r := fun i => by
      by_cases e : i = k
      · subst e; rw [updQ_self]; exact ⟨rfl, rfl, rfl⟩
      · rw [updQ_ne _ _ e]; exact ⟨rfl, rfl, rfl⟩
    obtain ⟨a1, a2, a3⟩ := key i
    obtain ⟨b1, b2, b3⟩ := key j
    rw [a1, a2, a3, b1, b3]
    exact h.far i j hi2 hj hne
end
def plArr (ps : Nat → Pl) : Array Value := #[.int .i64 (ps 0).kind, .int .i64 (ps 0).source, .int .i64 (ps 0).mode, .bool (ps 0).free, .int .i64 (ps 0).flags, .int .i64 (ps 1).kind, .int .i64 (ps 1).source, .int .i64 (ps 1).mode, .bool (ps 1).free, .int .i64 (ps 1).flags, .int .i64 (ps 2).kind, .int .i64 (ps 2).source, .int .i64 (ps 2).mode, .bool (ps 2).free, .int .i64 (ps 2).flags]
theorem plArr_cell (ps : Nat → Pl) {k : Nat} (hk : k < 3) : (plArr ps)[k * 5]? = some (.int .i64 (ps k).kind) ∧ (plArr ps)[k * 5 + 1]? = some (.int .i64 (ps k).source) ∧ (plArr ps)[k * 5 + 2]? = some (.int .i64 (ps k).mode) ∧ (plArr ps)[k * 5 + 3]? = some (.bool (ps k).free) ∧ (plArr ps)[k * 5 + 4]? = some (.int .i64 (ps k).flags) := by
  match k, hk with
  | 0, _ => exact ⟨rfl, rfl, rfl, rfl, rfl⟩
  | 1, _ => exact ⟨rfl, rfl, rfl, rfl, rfl⟩
  | 2, _ => exact ⟨rfl, rfl, rfl, rfl, rfl⟩
def trArr (ts : Nat → Int) : Array Value := #[.int .i64 (ts 0), .int .i64 (ts 1), .int .i64 (ts 2)]
theorem trArr_cell (ts : Nat → Int) {k : Nat} (hk : k < 3) : (trArr ts)[k]? = some (.int .i64 (ts k)) := by
  match k, hk with
  | 0, _ => rfl
  | 1, _ => rfl
  | 2, _ => rfl
structure Plans (v : Value) (ps : Nat → Pl) : Prop where
  form : v = .agg (plArr ps)
  ok : ∀ i, i < 3 → (ps i).Ok
def Tries (v : Value) (ts : Nat → Int) : Prop := v = .agg (trArr ts)
structure Tn where
  who : Int
  store : Bool
  x : Int
instance : Inhabited Tn := ⟨⟨0, false, 0⟩⟩
structure Turns (w : World) (v : Value) (n : Nat) (l : Nat → Tn) : Prop where
  form : ∃ A c, v = .slice A n c ∧ n ≤ maxLen ∧ (0 < n → ∃ b o, A = some ⟨b, o, none⟩ ∧ b < w.heap.size ∧ ∀ i : Nat, i < n →
    w.cell? ⟨b, o + i * 3, none⟩ = some (.int .i64 (l i).who) ∧ w.cell? ⟨b, o + i * 3 + 1, none⟩ = some (.bool (l i).store) ∧ w.cell? ⟨b, o + i * 3 + 2, none⟩ = some (.int .u64 (l i).x))
  ok : ∀ i : Nat, i < n → 0 ≤ (l i).x ∧ (l i).x ≤ 18446744073709551615
structure PlayAt (w : World) (v : Value) (z : Int) (va : Value) (n : Nat) (l : Nat → Tn) : Prop where
  form : v = .agg #[.int .u64 z, va]
  ok : 0 ≤ z ∧ z ≤ 18446744073709551615
  turns : Turns w va n l
section
variable {H : Type} {enc : TypeId × Value → H} {P : Program}
/-- a slice of structs of one-cell fields, in a cell -/
theorem recs_of_cs {W : World} {t e : TypeId} {fs : Array Field} {v : Value} {x : DataW H × List MemPlace} {fuel : Nat} (ht : P.underlying t = some (.slice e)) (he : P.underlying e = some (.struct fs))
    (hone : oneCellFields P fs = true) (hC : P.cellsOf e = fs.size) (hpos : 0 < fs.size) (hf : DataW.trod enc P W 0 (fun _ => true) true fuel t [v] = some x) :
    ∃ (n : Nat) (f : Nat → Nat → Value), Recs W v fs.size n f ∧ ∀ i, i < n → ∀ (j : Nat) (fd : Field), fs[j]? = some fd → ∃ (m : Nat) (y : DataW H × List MemPlace), DataW.trod enc P W 0 (fun _ => true) true m fd.type [f i j] = some y := by
  rcases open_slice_fields ht he hone hC hf with ⟨hcs, hx⟩ | ⟨a, len', cap', m, D, Pl, hcs, _, hl, hm, hmm, hx, hel⟩
  · simp only [List.cons.injEq, and_true] at hcs
    subst hcs
    exact ⟨0, fun _ _ => undef, ⟨⟨none, 0, rfl, by simp [maxLen], fun hn => absurd hn (by omega)⟩⟩, fun i hi => absurd hi (by omega)⟩
  · simp only [List.cons.injEq, and_true] at hcs
    subst hcs
    simp only [if_true] at hmm
    have hone' : ∀ i, i < len' → ∀ j : Nat, j < fs.size → ∃ u, W.cell? (a.add (i * fs.size + j)) = some u ∧ ∃ (m : Nat) (y : DataW H × List MemPlace), ∀ fd, fs[j]? = some fd → DataW.trod enc P W 0 (fun _ => true) true m fd.type [u] = some y := by
      intro i hi j hj
      obtain ⟨ys, k, _, _, _, hg⟩ := hel i (by omega)
      obtain ⟨u, y, h1, _, h2⟩ := hg j fs[j] (Array.getElem?_eq_getElem hj)
      exact ⟨u, h1, k, y, fun fd hfd => by rw [Array.getElem?_eq_getElem hj] at hfd; injection hfd with hfd; subst hfd; exact h2⟩
    let f : Nat → Nat → Value := fun i j => (W.cell? (a.add (i * fs.size + j))).getD undef
    have hfe : ∀ i, i < len' → ∀ j : Nat, j < fs.size → W.cell? (a.add (i * fs.size + j)) = some (f i j) := by
      intro i hi j hj
      obtain ⟨u, hu, _⟩ := hone' i hi j hj
      show _ = some ((W.cell? (a.add (i * fs.size + j))).getD undef)
      rw [hu]; rfl
    refine ⟨len', f, ⟨⟨some a, cap', rfl, by omega, fun hn => ?_⟩⟩, fun i hi j fd hfd => ?_⟩
    · obtain ⟨ab, ao, sp⟩ := a
      have c0 := hfe 0 hn 0 hpos
      have hsp : sp = none := by
        cases sp with
        | none => rfl
        | some s =>
          simp only [World.cell?, Addr.add] at c0
          split at c0 <;> simp at c0
      subst hsp
      refine ⟨ab, ao, rfl, ?_, fun i j hi hj => ?_⟩
      · simpa [Addr.add] using lt_of_cell c0
      · have c := hfe i hi j hj
        have e : (⟨ab, ao, none⟩ : Addr).add (i * fs.size + j) = ⟨ab, ao + i * fs.size + j, none⟩ := by unfold Addr.add; split <;> simp_all <;> omega
        rwa [e] at c
    · have hj : j < fs.size := (Array.getElem?_eq_some_iff.1 hfd).1
      obtain ⟨u, hu, m, y, hy⟩ := hone' i hi j hj
      have : f i j = u := by show (W.cell? (a.add (i * fs.size + j))).getD undef = u; rw [hu]; rfl
      rw [this]
      exact ⟨m, y, hy fd hfd⟩
end
set_option maxRecDepth 100000 in
theorem play_of_trod {H : Type} {enc : TypeId × Value → H} {W : World} {r : Reach} {b : Nat} {v : Value} {d : DataW H} {p : List MemPlace}
    (hv : Value.okWide Tryd.prog W r b 54 v) (h : DataW.Trod enc Tryd.prog W 0 (fun _ => true) true 54 v d p) :
    ∃ x : Int × Value × Nat × (Nat → Tn), PlayAt W v x.1 x.2.1 x.2.2.1 x.2.2.2 := by
  obtain ⟨cs, rfl, hsz, hf⟩ := fields_of_trod Tryd.underlying54 (by kernel_rfl) (by kernel_rfl) hv h
  obtain ⟨_, c0, _, k0, h0⟩ := hf 0 _ rfl
  obtain ⟨_, c1, _, k1, h1⟩ := hf 1 _ rfl
  obtain ⟨n0, e0, _, g0⟩ := DataW.trod_int Tryd.underlying32 h0
  simp only [List.cons.injEq, and_true] at e0
  subst e0
  obtain ⟨n, f, hr, hff⟩ := recs_of_cs Tryd.underlying52 Tryd.underlying60 (by kernel_rfl) (by kernel_rfl) (by decide) h1
  have hall : ∀ i, i < n → ∃ a : Tn, f i 0 = .int .i64 a.who ∧ f i 1 = .bool a.store ∧ f i 2 = .int .u64 a.x ∧ 0 ≤ a.x ∧ a.x ≤ 18446744073709551615 := by
    intro i hi
    obtain ⟨m0, z0, h0⟩ := hff i hi 0 _ rfl
    obtain ⟨m1, z1, h1⟩ := hff i hi 1 _ rfl
    obtain ⟨m2, z2, h2⟩ := hff i hi 2 _ rfl
    obtain ⟨n0, e0, _, g0⟩ := DataW.trod_int Tryd.underlying3 h0
    obtain ⟨n1, e1, _⟩ := DataW.trod_bool Tryd.underlying4 h1
    obtain ⟨n2, e2, _, g2⟩ := DataW.trod_int Tryd.underlying32 h2
    exact ⟨⟨n0, n1, n2⟩, by simpa using e0, by simpa using e1, by simpa using e2, u64_bounds g2⟩
  obtain ⟨l, hl⟩ := choose_lt hall
  obtain ⟨A, c, rfl, hlen, hx⟩ := hr.form
  refine ⟨(n0, .slice A n c, n, l), ⟨?_, u64_bounds g0, ⟨A, c, rfl, hlen, fun hn => ?_⟩, fun i hi => (hl i hi).2.2.2⟩⟩
  · congr 1
    apply Array.ext_getElem?
    intro i
    rcases (show i = 0 ∨ i = 1 ∨ 2 ≤ i by omega) with rfl | rfl | hi
    · rw [k0]; rfl
    · rw [k1]; rfl
    · rw [Array.getElem?_eq_none (by rw [hsz]; exact hi), Array.getElem?_eq_none (by simpa using hi)]
  · obtain ⟨b, o, rfl, hb, hc⟩ := hx hn
    refine ⟨b, o, rfl, hb, fun i hi => ?_⟩
    obtain ⟨l0, l1, l2, _⟩ := hl i hi
    have s0 := hc i 0 hi (by decide)
    have s1 := hc i 1 hi (by decide)
    have s2 := hc i 2 hi (by decide)
    rw [l0] at s0
    rw [l1] at s1
    rw [l2] at s2
    exact ⟨s0, s1, s2⟩
set_option maxRecDepth 100000 in
theorem tries_of_trod {H : Type} {enc : TypeId × Value → H} {W : World} {r : Reach} {b : Nat} {v : Value} {d : DataW H} {p : List MemPlace}
    (hv : Value.okWide Tryd.prog W r b 51 v) (h : DataW.Trod enc Tryd.prog W 0 (fun _ => true) true 51 v d p) : ∃ ts : Nat → Int, Tries v ts := by
  obtain ⟨xs, hl, rfl, hw⟩ := arr_of_trod (k := .i64) Tryd.underlying51 Tryd.underlying3 (by kernel_rfl) (by kernel_rfl) hv h
  match xs, hl with
  | [a0, a1, a2], _ => exact ⟨fun i => if i = 0 then a0 else if i = 1 then a1 else a2, rfl⟩
set_option maxRecDepth 100000 in
theorem plans_of_trod {H : Type} {enc : TypeId × Value → H} {W : World} {r : Reach} {b : Nat} {v : Value} {d : DataW H} {p : List MemPlace}
    (hv : Value.okWide Tryd.prog W r b 50 v) (h : DataW.Trod enc Tryd.prog W 0 (fun _ => true) true 50 v d p) : ∃ ps : Nat → Pl, Plans v ps := by
  simp only [Value.okWide, Tryd.underlying50] at hv
  obtain ⟨cs, rfl, hsz, _⟩ := hv
  rw [show Tryd.prog.cellsOf 50 = 15 by kernel_rfl] at hsz
  obtain ⟨fuel, hf⟩ := h
  obtain ⟨xs, m, _, _, _, hlen, hel⟩ := DataW.trod_array Tryd.underlying50 hf
  have hcells : (Value.agg cs).cells.toList = cs.toList := by simp [Value.cells]
  rw [hcells] at hel
  have each : ∀ i, i < 3 → ∃ a : Pl, a.Ok ∧ (cs.toList.drop (i * 5)).take 5 = [.int .i64 a.kind, .int .i64 a.source, .int .i64 a.mode, .bool a.free, .int .i64 a.flags] := by
    intro i hi
    have h1 := hel i hi
    rw [show Tryd.prog.cellsOf 41 = 5 by kernel_rfl, List.getElem?_eq_getElem (by omega)] at h1
    obtain ⟨c0, c1, c2, c3, c4, hc⟩ : ∃ c0 c1 c2 c3 c4, (cs.toList.drop (i * 5)).take 5 = [c0, c1, c2, c3, c4] := by
      have hl9 : ((cs.toList.drop (i * 5)).take 5).length = 5 := by simp; omega
      match hq : (cs.toList.drop (i * 5)).take 5, hl9 with
      | [a, b, c, d, e], _ => exact ⟨a, b, c, d, e, rfl⟩
    rw [hc] at h1
    obtain ⟨us, m3, _, _, _, hul, hu⟩ := DataW.trod_struct Tryd.underlying41 h1
    obtain ⟨u0, hu0⟩ : ∃ u0, us[0]? = some u0 := ⟨_, List.getElem?_eq_getElem (by rw [hul]; decide)⟩
    obtain ⟨u1, hu1⟩ : ∃ u1, us[1]? = some u1 := ⟨_, List.getElem?_eq_getElem (by rw [hul]; decide)⟩
    obtain ⟨u2, hu2⟩ : ∃ u2, us[2]? = some u2 := ⟨_, List.getElem?_eq_getElem (by rw [hul]; decide)⟩
    obtain ⟨u3, hu3⟩ : ∃ u3, us[3]? = some u3 := ⟨_, List.getElem?_eq_getElem (by rw [hul]; decide)⟩
    obtain ⟨u4, hu4⟩ : ∃ u4, us[4]? = some u4 := ⟨_, List.getElem?_eq_getElem (by rw [hul]; decide)⟩
    have f0 : DataW.trod enc Tryd.prog W 0 (fun _ => true) true m3 3 [c0] = us[0]? := by
      have h9 := hu 0 _ rfl
      change DataW.trod enc Tryd.prog W 0 (fun _ => true) true m3 3 (List.take (Tryd.prog.cellsOf 3) (List.drop 0 [c0, c1, c2, c3, c4])) = _ at h9
      rw [show Tryd.prog.cellsOf 3 = 1 by kernel_rfl] at h9
      exact h9
    have f1 : DataW.trod enc Tryd.prog W 0 (fun _ => true) true m3 3 [c1] = us[1]? := by
      have h9 := hu 1 _ rfl
      change DataW.trod enc Tryd.prog W 0 (fun _ => true) true m3 3 (List.take (Tryd.prog.cellsOf 3) (List.drop 1 [c0, c1, c2, c3, c4])) = _ at h9
      rw [show Tryd.prog.cellsOf 3 = 1 by kernel_rfl] at h9
      exact h9
    have f2 : DataW.trod enc Tryd.prog W 0 (fun _ => true) true m3 3 [c2] = us[2]? := by
      have h9 := hu 2 _ rfl
      change DataW.trod enc Tryd.prog W 0 (fun _ => true) true m3 3 (List.take (Tryd.prog.cellsOf 3) (List.drop 2 [c0, c1, c2, c3, c4])) = _ at h9
      rw [show Tryd.prog.cellsOf 3 = 1 by kernel_rfl] at h9
      exact h9
    have f3 : DataW.trod enc Tryd.prog W 0 (fun _ => true) true m3 4 [c3] = us[3]? := by
      have h9 := hu 3 _ rfl
      change DataW.trod enc Tryd.prog W 0 (fun _ => true) true m3 4 (List.take (Tryd.prog.cellsOf 4) (List.drop 3 [c0, c1, c2, c3, c4])) = _ at h9
      rw [show Tryd.prog.cellsOf 4 = 1 by kernel_rfl] at h9
      exact h9
    have f4 : DataW.trod enc Tryd.prog W 0 (fun _ => true) true m3 3 [c4] = us[4]? := by
      have h9 := hu 4 _ rfl
      change DataW.trod enc Tryd.prog W 0 (fun _ => true) true m3 3 (List.take (Tryd.prog.cellsOf 3) (List.drop 4 [c0, c1, c2, c3, c4])) = _ at h9
      rw [show Tryd.prog.cellsOf 3 = 1 by kernel_rfl] at h9
      exact h9
    rw [hu0] at f0
    rw [hu1] at f1
    rw [hu2] at f2
    rw [hu3] at f3
    rw [hu4] at f4
    obtain ⟨n0, e0, _, g0⟩ := DataW.trod_int Tryd.underlying3 f0
    obtain ⟨n1, e1, _, g1⟩ := DataW.trod_int Tryd.underlying3 f1
    obtain ⟨n2, e2, _, g2⟩ := DataW.trod_int Tryd.underlying3 f2
    obtain ⟨n3, e3, _⟩ := DataW.trod_bool Tryd.underlying4 f3
    obtain ⟨n4, e4, _, g4⟩ := DataW.trod_int Tryd.underlying3 f4
    simp only [List.cons.injEq, and_true] at e0 e1 e2 e3 e4
    subst e0 e1 e2 e3 e4
    exact ⟨⟨n0, n1, n2, n3, n4⟩, ⟨i64_bounds g1, i64_bounds g2, i64_bounds g4⟩, hc⟩
  obtain ⟨a0, o0, e0⟩ := each 0 (by omega)
  obtain ⟨a1, o1, e1⟩ := each 1 (by omega)
  obtain ⟨a2, o2, e2⟩ := each 2 (by omega)
  refine ⟨fun i => if i = 0 then a0 else if i = 1 then a1 else a2, ?_, fun i hi => ?_⟩
  · congr 1
    apply Array.toList_inj.1
    have hs : cs.toList.length = 15 := by simpa using hsz
    have e : cs.toList = (cs.toList.drop (0 * 5)).take 5 ++ ((cs.toList.drop (1 * 5)).take 5 ++ (cs.toList.drop (2 * 5)).take 5) := by
      apply List.ext_getElem?
      intro i
      simp only [List.getElem?_append, List.getElem?_take, List.getElem?_drop, List.length_take, List.length_drop, hs]
      rcases (show i < 5 ∨ (5 ≤ i ∧ i < 10) ∨ 10 ≤ i by omega) with h | h | h
      · simp [h]
      · simp [show ¬ i < 5 by omega, show i - 5 < 5 by omega, show 5 + (i - 5) = i by omega]
      · by_cases h15 : i < 15
        · simp [show ¬ i < 5 by omega, show ¬ i - 5 < 5 by omega, show i - 5 - 5 < 5 by omega, show 10 + (i - 5 - 5) = i by omega]
        · rw [List.getElem?_eq_none (by omega)]
          simp [show ¬ i < 5 by omega, show ¬ i - 5 < 5 by omega, show ¬ i - 5 - 5 < 5 by omega]
    rw [e, e0, e1, e2]
    rfl
  · match i, hi with
    | 0, _ => exact o0
    | 1, _ => exact o1
    | 2, _ => exact o2
end Go.Proofs.YtkmlikohgilnbaaDoor.Arb
