/-
  What every proof of this seat leans on: a law that returns true, behind which all that was there is as it was, meets the statement's end; words for memory. No condition. By an AI agent.
-/
import Derived.Below
import Derived.Carry
import Derived.ChangeSame
import Derived.ProofKit
import Derived.OpenShut
import Derived.Laws.OwnMore
import Derived.Deep.AppendLies
import Derived.Deep.Draws
import Derived.Laws.Rows
import Derived.Deep.Slices
import Derived.Deep.Fields
import Derived.Deep.QuietTactic
import Derived.BigQuiet
namespace Go.Proofs.Ythcaagkgddeabaa.Base
set_option linter.unusedVariables false
set_option linter.unusedSimpArgs false
open Go Go.RowKit Go.ChangeShapes Go.WideShapes Go.Deep

section
variable {H : Type} {enc : TypeId × Value → H} {P : Program}

theorem trodAll_below (hl : laidOutB P = true) {W W' : World} (hb : Below W.heap.size W W') :
    ∀ {ts : List TypeId} {vs : List Value} {ds : List (DataW H)} {ps : List MemPlace},
      (ts.all fun t => P.readableRec t && decide (t < P.types.size)) = true →
      DataW.TrodAll enc P W 0 (fun _ => true) true ts vs ds ps → (∀ x ∈ ps, x.block < W.heap.size) →
      DataW.TrodAll enc P W' 0 (fun b => decide (b < W.heap.size)) true ts vs ds ps := by
  intro ts
  induction ts with
  | nil =>
    intro vs ds ps _ h _
    cases vs <;> cases ds <;> first | exact h | exact h.elim
  | cons t ts ih =>
    intro vs ds ps hr h hlt
    cases vs with
    | nil => cases ds <;> exact h.elim
    | cons v vs =>
      cases ds with
      | nil => exact h.elim
      | cons d ds =>
        obtain ⟨p, q, h1, h2, rfl⟩ := h
        simp only [List.all_cons, Bool.and_eq_true, decide_eq_true_eq] at hr
        exact ⟨p, q, Below.trod hl hr.1.1 hr.1.2 h1 hb (fun x hx => hlt x (List.mem_append_left _ hx)),
          ih (by simpa using hr.2) h2 (fun x hx => hlt x (List.mem_append_right _ hx)), rfl⟩

/-- THE LAW's END: it returned true, and below the old heap nothing has turned. -/
theorem post_law {f : Func} {s : ChangeSpec} {W W' : World} {args : Array Value} {ds gs : List (DataW H)} {before : List MemPlace} {tb : TypeId}
    (hl : laidOutB P = true) (hr : (f.params.toList.all fun t => P.readableRec t && decide (t < P.types.size)) = true)
    (hvars : s.vars = []) (hrt : f.resultTypes = #[tb]) (htb : P.underlying tb = some .bool)
    (hs : s.fn H ds = { results := [.lit (.bool true)], args := ds })
    (hW : DataW.Whole enc P f.params.toList s.vars false W args.toList ds gs before) (hb : Below W.heap.size W W') :
    s.post enc P f false true false false W args (.bool true) W' := by
  have hlt : ∀ p ∈ before, p.block < W.heap.size := fun p hp => hW.lt p hp
  have hW0 := hW
  obtain ⟨p, q, hA, hV, hpq, hz, _⟩ := hW
  rw [hvars] at hV
  obtain ⟨rfl, rfl⟩ := trodVars_none hV
  rw [List.append_nil] at hpq
  subst hpq
  refine ⟨ds, [], before, [], before, [], hW0, ?_, ?_, ?_, hb.frame _, fun h => by cases h⟩
  · rw [List.append_nil, hs, hrt]
    exact trodAll_cons_mk (shut_bool htb _) trodAll_mk0
  · rw [List.append_nil, hs]
    exact trodAll_below hl hb hr hA hlt
  · rw [List.append_nil, hs, hvars]
    rfl
end

/-- below an older size, transitively -/
theorem bl {a b c : World} (h : Below a.heap.size a b) (k : Below b.heap.size b c) : Below a.heap.size a c := h.trans (k.mono h.size)
theorem bcell {W w1 : World} (hb : Below W.heap.size W w1) : (∀ b o, b < W.heap.size → w1.cell? ⟨b, o, none⟩ = W.cell? ⟨b, o, none⟩) ∧ (∀ b o, b < W.heap.size → w1.frozen? ⟨b, o, none⟩ = W.frozen? ⟨b, o, none⟩) :=
  ⟨fun b o h => hb.cell (p := ⟨b, o, none⟩) h, fun b o h => hb.frozen (p := ⟨b, o, none⟩) h⟩
theorem below_drewN {B : Nat} {a w : World} (h : Below B a w) (n : Nat) : Below B a (w.drewN n) := ⟨h.os, h.tape, h.output, h.size, h.block⟩
theorem lt_of_cell {w : World} {a : Addr} {u : Value} (h : w.cell? a = some u) : a.block < w.heap.size := World.block_lt_of_cell? _ _ h

/-! ### a callee that leaves the world alone, in a region that draws -/
theorem quiet_add_left {P : Program} {f : FuncId} {args : Array Value} {w : World} {a n : Nat} {v : Value}
    (h : Calls P f args (w.drewN (a + n)) fun e w' => e = .returned v ∧ w.drewN (a + n) = w') :
    Calls P f args (w.drewN (a + n)) fun e w'' => e = .returned v ∧ ∃ m, w'' = w.drewN (a + m) :=
  h.mono fun _ _ ⟨he, hm⟩ => ⟨he, n, hm.symm⟩
theorem quiet_left {P : Program} {f : FuncId} {args : Array Value} {w : World} {n : Nat} {v : Value}
    (h : Calls P f args (w.drewN n) fun e w' => e = .returned v ∧ w.drewN n = w') : Calls P f args (w.drewN n) fun e w'' => e = .returned v ∧ ∃ m, w'' = w.drewN m :=
  h.mono fun _ _ ⟨he, hm⟩ => ⟨he, n, hm.symm⟩

/-! ### a region that draws its order, whose operations only read, and whose callees lead from worlds of a class into worlds of it: one walk, in the order of the text.
  refine drawn_held (S := ..) (by kernel_rfl) (by kernel_rfl) hS ?_; repeat (go_big_quiet_step ((go_at_call N; exact held_call HC))); refine wpQuiet_nil ?_; intro _ hw'; obtain ⟨x, hw''⟩ := hw'; subst hw''; obtain ⟨w', hw'⟩ := x
  the cells: 'have c : ∀ x : Held S, x.w.cell? .. = some ..' -/
structure Held (S : World → Prop) where
  w : World
  ok : S w
theorem drawn_held {P : Program} {S : World → Prop} {id : Nat} {Q : Exit → Act → World → Prop} {a : Act} {w : World} {l : List Oper} (hm : P.follows .mixedOrders = true) (hB : Region.lexB .any l.toArray = true) (hS : S w.drew)
    (h : wpQuiet P l.toArray (fun w' => ∃ x : Held S, w' = x.w) (fun a' => ∀ w', (∃ x : Held S, w' = x.w) → Q .normal a' w') l a) : (Code.region id l.toArray true).wp P Q a w :=
  wp_region_quiet (C := fun w' => ∃ x : Held S, w' = x.w) hm hB ⟨⟨w.drew, hS⟩, rfl⟩ (by simpa using h)
theorem held_call {P : Program} {S : World → Prop} {f : FuncId} {args : Array Value} {x : Held S} {v : Value} (h : ∀ W, S W → Calls P f args W fun e w' => e = .returned v ∧ S w') :
    Calls P f args x.w fun e w'' => e = .returned v ∧ ∃ y : Held S, w'' = y.w :=
  (h x.w x.ok).mono fun _ w'' ⟨he, hs⟩ => ⟨he, ⟨w'', hs⟩, rfl⟩

/-! ### a block that is known whole -/
def Blk (w : World) (g : Nat) (t : TypeId) (cs : Array Value) : Prop := w.heap[g]? = some (.cells cs t (0, 0))
section
variable {w w' : World} {g : Nat} {t : TypeId} {cs : Array Value}
theorem Blk.lt (h : Blk w g t cs) : g < w.heap.size := by
  rcases Nat.lt_or_ge g w.heap.size with hlt | hge
  · exact hlt
  · unfold Blk at h; rw [Array.getElem?_eq_none hge] at h; cases h
theorem Blk.cell (h : Blk w g t cs) (i : Nat) : w.cell? ⟨g, i, none⟩ = cs[i]? := cell_of_row w g i cs t (0, 0) h
theorem Blk.frozen (h : Blk w g t cs) (i : Nat) : w.frozen? ⟨g, i, none⟩ = false := by
  unfold Blk at h
  simp [World.frozen?, h]
theorem Blk.new (w : World) (t : TypeId) (cs : Array Value) : Blk (w.alloc (.cells cs t)) w.heap.size t cs := heap_alloc_new w _
theorem Blk.drew (h : Blk w g t cs) : Blk w.drew g t cs := h
theorem Blk.drewN (h : Blk w g t cs) (n : Nat) : Blk (w.drewN n) g t cs := h
theorem Blk.alloc (h : Blk w g t cs) (o : Obj) : Blk (w.alloc o) g t cs := (Below.heap_alloc w o g h.lt).trans h
theorem Blk.set_ (h : Blk w g t cs) (i : Nat) (u : Value) : Blk (w.setCell ⟨g, i, none⟩ u) g t (cs.setIfInBounds i u) := by
  unfold Blk at h ⊢
  simp [World.setCell, Array.getElem?_modify, h]
theorem Blk.far (h : Blk w g t cs) {p : Addr} (hp : g ≠ p.block) (u : Value) : Blk (w.setCell p u) g t cs := (Below.heap_setCell w p u g hp).trans h
theorem Blk.below {B : Nat} (h : Blk w g t cs) (hb : Below B w w') (hg : g < B) : Blk w' g t cs := (hb.block g hg).trans h
theorem Blk.bl (h : Blk w g t cs) (hb : Below w.heap.size w w') : Blk w' g t cs := h.below hb h.lt
theorem Blk.grown {row : Option Nat} (h : Blk w g t cs) (hb : w.grownBy w' row) (hg : some g ≠ row) : Blk w' g t cs := (hb.block g h.lt hg).trans h
end

/-! ### a slice that reads as a list of integers of one kind -/
/-- element i; a name of its own, so that no rule of simp opens it -/
def nth (xs : List Int) (i : Nat) : Int := xs.getD i 0
structure Ints (w : World) (k : IntKind) (v : Value) (xs : List Int) : Prop where
  form : ∃ A c, v = .slice A xs.length c ∧ xs.length ≤ maxLen ∧ (xs ≠ [] → ∃ b o, A = some ⟨b, o, none⟩ ∧ b < w.heap.size ∧ ∀ i : Nat, i < xs.length → w.cell? ⟨b, o + i, none⟩ = some (.int k (nth xs i)))
theorem Ints.keep {w w' : World} {k : IntKind} {v : Value} {xs : List Int} (h : Ints w k v xs) (hs : w.heap.size ≤ w'.heap.size) (hk : ∀ p : Addr, p.block < w.heap.size → w'.cell? p = w.cell? p) : Ints w' k v xs := by
  obtain ⟨A, c, rfl, hl, h⟩ := h.form
  exact ⟨A, c, rfl, hl, fun hn => by
    obtain ⟨b, o, rfl, hb, hc⟩ := h hn
    exact ⟨b, o, rfl, by omega, fun i hi => (hk _ (by exact hb)).trans (hc i hi)⟩⟩
theorem Ints.below {w w' : World} {k : IntKind} {v : Value} {xs : List Int} (h : Ints w k v xs) (hb : Below w.heap.size w w') : Ints w' k v xs := h.keep hb.size fun _ hp => hb.cell hp
theorem Ints.alloc {w : World} {k : IntKind} {v : Value} {xs : List Int} (h : Ints w k v xs) (o : Obj) : Ints (w.alloc o) k v xs := h.below ((Below.refl _ _).alloc (Nat.le_refl _) o)
theorem Ints.drew {w : World} {k : IntKind} {v : Value} {xs : List Int} (h : Ints w k v xs) : Ints w.drew k v xs := h.below (Below.refl _ _).drew
theorem Ints.drewN {w : World} {k : IntKind} {v : Value} {xs : List Int} (h : Ints w k v xs) (n : Nat) : Ints (w.drewN n) k v xs := h.below (below_drewN (Below.refl _ _) n)
theorem World_ownsRow_bl {w w' : World} {base e size n : Nat} {v : Value} {xs : List Value} (h : w.ownsRow base e size v n xs) (hb : Below w.heap.size w w') : w'.ownsRow base e size v n xs :=
  h.kept (row := none) ⟨hb.os, hb.tape, hb.output, hb.size, fun i hi _ => hb.block i hi⟩ (by cases hv : v.ownBlock <;> simp)
theorem ints_of_own {w : World} {base e : Nat} {k : IntKind} {v : Value} {xs : List Int} (h : w.ownsRow base e 1 v xs.length (xs.map (Value.int k))) (hl : xs.length ≤ maxLen) : Ints w k v xs := by
  rcases h.2 with ⟨rfl, h0⟩ | ⟨g, cap, cur, rfl, _, hh, _⟩
  · have : xs = [] := by simpa using h0
    subst this
    exact ⟨none, 0, rfl, by simp [maxLen], fun hn => absurd rfl hn⟩
  · refine ⟨some ⟨g, 0, none⟩, cap, rfl, hl, fun hn => ⟨g, 0, rfl, ?_, fun i hi => ?_⟩⟩
    · rcases Nat.lt_or_ge g w.heap.size with hlt | hge
      · exact hlt
      · rw [Array.getElem?_eq_none hge] at hh; cases hh
    · have := h.cells (g := g) rfl i (.int k (nth xs i)) (by simp [nth, List.getD_eq_getElem?_getD, List.getElem?_eq_getElem hi])
      have e : (⟨g, 0, none⟩ : Addr).add i = ⟨g, 0 + i, none⟩ := by unfold Addr.add; split <;> simp_all
      rwa [e] at this
theorem ints_new (w : World) (t : TypeId) (k : IntKind) (xs : List Int) (hl : xs.length ≤ maxLen) (c : Nat) : Ints (w.alloc (.cells (xs.map (Value.int k)).toArray t)) k (.slice (some ⟨w.heap.size, 0, none⟩) xs.length c) xs :=
  ⟨_, c, rfl, hl, fun _ => ⟨w.heap.size, 0, rfl, by simp, fun i hi => by
    have := (Blk.new w t (xs.map (Value.int k)).toArray).cell (0 + i)
    rw [this]
    simp [nth, List.getD_eq_getElem?_getD, List.getElem?_eq_getElem hi]⟩⟩
/-- one element more, behind append's law -/
theorem own_push {w wr w1 : World} {base e : Nat} {k : IntKind} {xs : List Int} {x : Int} {v v' : Value} {o : Obj} (hb : Below w.heap.size w wr) (hbase : w.heap.size ≤ base) (hsz : base ≤ wr.heap.size)
    (hown : wr.ownsRow base e 1 v xs.length (xs.map (Value.int k))) (hown' : w1.ownsRow base e 1 v' (xs.length + 1) (xs.map (Value.int k) ++ [.int k x])) (hg : (wr.alloc o).grownBy w1 v.ownBlock) :
    w1.ownsRow base e 1 v' (xs ++ [x]).length ((xs ++ [x]).map (Value.int k)) ∧ Below w.heap.size w w1 ∧ Below base wr w1 := by
  have hrow : ∀ k, v.ownBlock = some k → base ≤ k := fun k hk => (hown.lt k hk).1
  have h2 : Below base wr w1 := ((Below.refl _ _).alloc hsz o).grown hg (by simp; omega) hrow
  exact ⟨by simpa using hown', hb.trans (h2.mono hbase), h2⟩
theorem below_setRow {B : Nat} {a w : World} (h : Below B a w) {g : Nat} (hg : B ≤ g) (cs : Array Value) : Below B a (w.setRow g cs) :=
  h.trans ⟨rfl, rfl, rfl, by simp, fun k hk => setRow_other _ _ _ _ (by omega)⟩

/-- but for blocks g and h, and what is new, w' is as w was -/
structure Ex2 (g h : Nat) (w w' : World) : Prop where
  os : w'.os = w.os
  tape : w'.tape = w.tape
  output : w'.output = w.output
  size : w.heap.size ≤ w'.heap.size
  block : ∀ k, k < w.heap.size → k ≠ g → k ≠ h → w'.heap[k]? = w.heap[k]?
section
variable {g h B : Nat} {a b c : World}
theorem Ex2.refl (g h : Nat) (w : World) : Ex2 g h w w := ⟨rfl, rfl, rfl, Nat.le_refl _, fun _ _ _ _ => rfl⟩
theorem Ex2.trans (p : Ex2 g h a b) (q : Ex2 g h b c) : Ex2 g h a c :=
  ⟨q.os.trans p.os, q.tape.trans p.tape, q.output.trans p.output, Nat.le_trans p.size q.size, fun k hk h1 h2 => (q.block k (Nat.lt_of_lt_of_le hk p.size) h1 h2).trans (p.block k hk h1 h2)⟩
theorem Ex2.of_below (p : Below a.heap.size a b) : Ex2 g h a b := ⟨p.os, p.tape, p.output, p.size, fun k hk _ _ => p.block k hk⟩
theorem Ex2.setCell (p : Ex2 g h a b) {q : Addr} (hq : q.block = g ∨ q.block = h) (u : Value) : Ex2 g h a (b.setCell q u) :=
  p.trans ⟨rfl, rfl, rfl, by simp [World.setCell], fun k hk h1 h2 => Below.heap_setCell _ _ _ _ (by rcases hq with e | e <;> rw [e] <;> assumption)⟩
theorem Ex2.below (p : Below B a b) (q : Ex2 g h b c) (hg : B ≤ g) (hh : B ≤ h) (hb : B ≤ b.heap.size) : Below B a c :=
  p.trans ⟨q.os, q.tape, q.output, q.size, fun k hk => q.block k (by omega) (by omega) (by omega)⟩
theorem Ex2.blk (q : Ex2 g h a b) {k : Nat} {t : TypeId} {cs : Array Value} (p : Blk a k t cs) (h1 : k ≠ g) (h2 : k ≠ h) : Blk b k t cs := (q.block k p.lt h1 h2).trans p
theorem Ex2.cell (q : Ex2 g h a b) {k o : Nat} {u : Value} (p : a.cell? ⟨k, o, none⟩ = some u) (h1 : k ≠ g) (h2 : k ≠ h) : b.cell? ⟨k, o, none⟩ = some u :=
  (World.cell?_of_block (w := a) (q.block k (lt_of_cell p) h1 h2)).trans p
end

section
variable {H : Type} {enc : TypeId × Value → H} {P : Program}
/-- a slice of integers that came in -/
theorem ints_of_trod {W : World} {t e : TypeId} {k : IntKind} {r : Reach} {b : Nat} {v : Value} {d : DataW H} {p : List MemPlace} (ht : P.underlying t = some (.slice e)) (he : P.underlying e = some (.int k)) (hc : P.cellsOf e = 1)
    (hv : Value.okWide P W r b t v) (h : DataW.Trod enc P W 0 (fun _ => true) true t v d p) :
    ∃ xs : List Int, Ints W k v xs ∧ ∀ n ∈ xs, (Lit.int k n).wf = true := by
  obtain ⟨a0, len, cap, rfl⟩ := okWide_slice ht hv
  obtain ⟨fuel, hf⟩ := h
  rcases open_ints ht he hc hf with ⟨hcs, hx⟩ | ⟨a, len', cap', zs, hcs, _, hl, hm, hz, hx, hcell, hwz⟩
  · have hcs' : [Value.slice a0 len cap] = [.slice none 0 0] := hcs
    simp only [List.cons.injEq, Value.slice.injEq, and_true] at hcs'
    obtain ⟨rfl, rfl, rfl⟩ := hcs'
    exact ⟨[], ⟨⟨none, 0, rfl, by simp [maxLen], fun hn => absurd rfl hn⟩⟩, by simp⟩
  · have hcs' : [Value.slice a0 len cap] = [.slice (some a) len' cap'] := hcs
    simp only [List.cons.injEq, Value.slice.injEq, and_true] at hcs'
    obtain ⟨rfl, rfl, rfl⟩ := hcs'
    have hzl : zs.length = cap := by simpa using hz
    refine ⟨zs.take len, ⟨⟨some a, cap, ?_, ?_, fun hn => ?_⟩⟩, fun n hn => hwz n (List.mem_of_mem_take hn)⟩
    · rw [List.length_take, Nat.min_eq_left (by omega)]
    · rw [List.length_take]; omega
    · have hpos : 0 < len := by
        rcases Nat.eq_zero_or_pos len with h0 | h0
        · subst h0; simp at hn
        · exact h0
      obtain ⟨ab, ao, sp⟩ := a
      have c0 := hcell 0 (by omega)
      have hsp : sp = none := by
        cases sp with
        | none => rfl
        | some s =>
          simp only [World.cell?, Addr.add] at c0
          split at c0 <;> simp at c0
      subst hsp
      refine ⟨ab, ao, rfl, ?_, fun i hi => ?_⟩
      · simpa [Addr.add] using lt_of_cell c0
      · rw [List.length_take, Nat.min_eq_left (by omega)] at hi
        have c := hcell i (by omega)
        have e : (⟨ab, ao, none⟩ : Addr).add i = ⟨ab, ao + i, none⟩ := by unfold Addr.add; split <;> simp_all
        rw [e] at c
        rw [c]
        simp [nth, List.getD_eq_getElem?_getD, List.getElem?_take, hi]
end
/-! ### a slice of structs that came in, whatever the number of its one-cell fields -/
section
variable {H : Type} {enc : TypeId × Value → H} {P : Program} {w : World} {base : Nat} {spare : Nat → Bool} {held : Bool}
theorem open_slice_fields {t e : TypeId} {fs : Array Field} {fuel : Nat} {cs : List Value} {x : DataW H × List MemPlace} (ht : P.underlying t = some (.slice e)) (he : P.underlying e = some (.struct fs))
    (hone : oneCellFields P fs = true) (hC : P.cellsOf e = fs.size) (h : DataW.trod enc P w base spare held fuel t cs = some x) :
    (cs = [.slice none 0 0] ∧ x = (.nil, [])) ∨
    ∃ (a : Addr) (len cap m : Nat) (D : Nat → DataW H) (Pl : Nat → List MemPlace), cs = [.slice (some a) len cap] ∧ base ≤ a.block ∧ len ≤ cap ∧ cap ≤ maxLen ∧ m = (if spare a.block then cap else len) ∧
      x = (.slice ((List.range len).map D) ((List.range (m - len)).map fun j => D (len + j)), MemPlace.row a (m * fs.size) ++ (List.range m).flatMap Pl) ∧
      ∀ i, i < m → ∃ (ys : List (DataW H × List MemPlace)) (n : Nat), D i = .agg (ys.map (·.1)) ∧ Pl i = ys.flatMap (·.2) ∧ ys.length = fs.size ∧
        ∀ (j : Nat) (f : Field), fs[j]? = some f → ∃ (v : Value) (y : DataW H × List MemPlace), w.cell? (a.add (i * fs.size + j)) = some v ∧ ys[j]? = some y ∧ DataW.trod enc P w base spare held n f.type [v] = some y := by
  rcases open_slice ht h with h0 | ⟨a, len, cap, m, n, D, Pl, hcs, hb, hl, hm, hmm, hx, hi⟩
  · exact .inl h0
  · refine .inr ⟨a, len, cap, m, D, Pl, hcs, hb, hl, hm, hmm, by rw [hC] at hx; exact hx, fun i him => ?_⟩
    obtain ⟨cs', hc, ht'⟩ := hi i him
    rw [hC] at hc
    obtain ⟨ys, n', hn', hy, hlen, hyl, hf⟩ := DataW.trod_struct he ht'
    obtain ⟨_, hcl, hat⟩ := World.cells?_some hc
    simp only [Prod.mk.injEq] at hy
    refine ⟨ys, n', hy.1, hy.2, hyl, fun j f hj => ?_⟩
    obtain ⟨ho, hk⟩ := hone_of hone j f hj
    have hjl : j < fs.size := (Array.getElem?_eq_some_iff.1 hj).1
    have hcell := hat j hjl
    have hv : cs'[j]? = some (cs'[j]'(by omega)) := List.getElem?_eq_getElem (by omega)
    have h1 := hf j f hj
    rw [ho, hk] at h1
    have hone' : (cs'.drop j).take 1 = [cs'[j]'(by omega)] := by
      rw [List.drop_eq_getElem_cons (by omega)]
      rfl
    rw [hone'] at h1
    have hys : ys[j]? = some (ys[j]'(by omega)) := List.getElem?_eq_getElem (by omega)
    refine ⟨_, _, ?_, hys, h1.trans hys⟩
    rw [← Go.Deep.add_add, hcell, hv]
end
structure Recs (w : World) (v : Value) (size n : Nat) (f : Nat → Nat → Value) : Prop where
  form : ∃ A c, v = .slice A n c ∧ n ≤ maxLen ∧ (0 < n → ∃ b o, A = some ⟨b, o, none⟩ ∧ b < w.heap.size ∧ ∀ i j : Nat, i < n → j < size → w.cell? ⟨b, o + i * size + j, none⟩ = some (f i j))
theorem Recs.below {w w' : World} {v : Value} {size n : Nat} {f : Nat → Nat → Value} (h : Recs w v size n f) (hb : Below w.heap.size w w') : Recs w' v size n f := by
  obtain ⟨A, c, rfl, hl, h⟩ := h.form
  exact ⟨A, c, rfl, hl, fun hn => by
    obtain ⟨b, o, rfl, hlt, hc⟩ := h hn
    exact ⟨b, o, rfl, Nat.lt_of_lt_of_le hlt hb.size, fun i j hi hj => (hb.cell (p := ⟨b, _, none⟩) hlt).trans (hc i j hi hj)⟩⟩
section
variable {H : Type} {enc : TypeId × Value → H} {P : Program}
theorem recs_of_trod {W : World} {t e : TypeId} {fs : Array Field} {r : Reach} {b : Nat} {v : Value} {d : DataW H} {p : List MemPlace} (ht : P.underlying t = some (.slice e)) (he : P.underlying e = some (.struct fs))
    (hone : oneCellFields P fs = true) (hC : P.cellsOf e = fs.size) (hpos : 0 < fs.size) (hv : Value.okWide P W r b t v) (h : DataW.Trod enc P W 0 (fun _ => true) true t v d p) :
    ∃ (n : Nat) (f : Nat → Nat → Value), Recs W v fs.size n f ∧ ∀ i, i < n → ∀ (j : Nat) (fd : Field), fs[j]? = some fd → ∃ (m : Nat) (y : DataW H × List MemPlace), DataW.trod enc P W 0 (fun _ => true) true m fd.type [f i j] = some y := by
  obtain ⟨a0, len, cap, rfl⟩ := okWide_slice ht hv
  obtain ⟨fuel, hf⟩ := h
  rcases open_slice_fields ht he hone hC hf with ⟨hcs, hx⟩ | ⟨a, len', cap', m, D, Pl, hcs, _, hl, hm, hmm, hx, hel⟩
  · have hcs' : [Value.slice a0 len cap] = [.slice none 0 0] := hcs
    simp only [List.cons.injEq, Value.slice.injEq, and_true] at hcs'
    obtain ⟨rfl, rfl, rfl⟩ := hcs'
    exact ⟨0, fun _ _ => undef, ⟨⟨none, 0, rfl, by simp [maxLen], fun hn => absurd hn (by omega)⟩⟩, fun i hi => absurd hi (by omega)⟩
  · have hcs' : [Value.slice a0 len cap] = [.slice (some a) len' cap'] := hcs
    simp only [List.cons.injEq, Value.slice.injEq, and_true] at hcs'
    obtain ⟨rfl, rfl, rfl⟩ := hcs'
    simp only [if_true] at hmm
    have hone' : ∀ i, i < len → ∀ j : Nat, j < fs.size → ∃ u, W.cell? (a.add (i * fs.size + j)) = some u ∧ ∃ (m : Nat) (y : DataW H × List MemPlace), ∀ fd, fs[j]? = some fd → DataW.trod enc P W 0 (fun _ => true) true m fd.type [u] = some y := by
      intro i hi j hj
      obtain ⟨ys, k, _, _, _, hg⟩ := hel i (by omega)
      obtain ⟨u, y, h1, _, h2⟩ := hg j fs[j] (Array.getElem?_eq_getElem hj)
      exact ⟨u, h1, k, y, fun fd hfd => by rw [Array.getElem?_eq_getElem hj] at hfd; injection hfd with hfd; subst hfd; exact h2⟩
    let f : Nat → Nat → Value := fun i j => (W.cell? (a.add (i * fs.size + j))).getD undef
    have hfe : ∀ i, i < len → ∀ j : Nat, j < fs.size → W.cell? (a.add (i * fs.size + j)) = some (f i j) := by
      intro i hi j hj
      obtain ⟨u, hu, _⟩ := hone' i hi j hj
      show _ = some ((W.cell? (a.add (i * fs.size + j))).getD undef)
      rw [hu]; rfl
    refine ⟨len, f, ⟨⟨some a, cap, rfl, by omega, fun hn => ?_⟩⟩, fun i hi j fd hfd => ?_⟩
    · obtain ⟨ab, ao, sp⟩ := a
      have c0 := hfe 0 hn 0 hpos
      have hsp : sp = none := by
        cases sp with
        | none => rfl
        | some s =>
          simp only [World.cell?, Addr.add] at c0
          split at c0 <;> simp at c0
      subst hsp
      refine ⟨ab, ao, rfl, ?_, fun i j hi hj => ?_⟩
      · simpa [Addr.add] using lt_of_cell c0
      · have c := hfe i hi j hj
        have e : (⟨ab, ao, none⟩ : Addr).add (i * fs.size + j) = ⟨ab, ao + i * fs.size + j, none⟩ := by unfold Addr.add; split <;> simp_all <;> omega
        rwa [e] at c
    · have hj : j < fs.size := (Array.getElem?_eq_some_iff.1 hfd).1
      obtain ⟨u, hu, m, y, hy⟩ := hone' i hi j hj
      have : f i j = u := by show (W.cell? (a.add (i * fs.size + j))).getD undef = u; rw [hu]; rfl
      rw [this]
      exact ⟨m, y, hy fd hfd⟩
end
section
variable {H : Type} {enc : TypeId × Value → H} {P : Program}
def numIn : Value → Int | .int _ z => z | _ => 0
/-- an array of integers, by value -/
theorem arr_of_trod {W : World} {t e : TypeId} {n : Nat} {k : IntKind} {r : Reach} {b : Nat} {v : Value} {d : DataW H} {p : List MemPlace} (ht : P.underlying t = some (.array n e)) (he : P.underlying e = some (.int k)) (hce : P.cellsOf e = 1) (hct : P.cellsOf t = n)
    (hv : Value.okWide P W r b t v) (h : DataW.Trod enc P W 0 (fun _ => true) true t v d p) : ∃ xs : List Int, xs.length = n ∧ v = .agg (xs.map (Value.int k)).toArray ∧ ∀ x ∈ xs, (Lit.int k x).wf = true := by
  simp only [Value.okWide, ht] at hv
  obtain ⟨cs, rfl, hsz, _⟩ := hv
  rw [hct] at hsz
  obtain ⟨fuel, hf⟩ := h
  obtain ⟨xs, m, _, _, _, hlen, hel⟩ := DataW.trod_array ht hf
  have hcells : (Value.agg cs).cells.toList = cs.toList := by simp [Value.cells]
  rw [hcells] at hel
  have each : ∀ i, i < n → ∃ z, cs.toList[i]? = some (.int k z) ∧ (Lit.int k z).wf = true := by
    intro i hi
    have h1 := hel i hi
    rw [hce, Nat.mul_one, List.getElem?_eq_getElem (by omega)] at h1
    obtain ⟨z, hz, _, hw⟩ := DataW.trod_int he h1
    refine ⟨z, ?_, hw⟩
    have := congrArg (·[0]?) hz
    simpa [List.getElem?_take, List.getElem?_drop] using this
  refine ⟨cs.toList.map numIn, by simpa using hsz, ?_, ?_⟩
  · congr 1
    apply Array.toList_inj.1
    apply List.ext_getElem?
    intro i
    by_cases hi : i < n
    · obtain ⟨z, hz, _⟩ := each i hi
      simp only [List.getElem?_map, hz, Option.map_some]
      rfl
    · have h1 : cs.toList.length ≤ i := by simp; omega
      simp only [List.getElem?_map, List.getElem?_eq_none h1, Option.map_none]
  · intro x hx
    obtain ⟨v, hv, rfl⟩ := List.mem_map.1 hx
    obtain ⟨i, hi, rfl⟩ := List.mem_iff_getElem.1 hv
    obtain ⟨z, hz, hw⟩ := each i (by simpa [hsz] using hi)
    rw [List.getElem?_eq_getElem hi] at hz
    injection hz with hz
    rw [hz]
    exact hw
end
theorem nth_mem {xs : List Int} {i : Nat} (h : i < xs.length) : nth xs i ∈ xs := by
  simp [nth, List.getD_eq_getElem?_getD, List.getElem?_eq_getElem h]
theorem i64_bounds {n : Int} (h : (Lit.int .i64 n).wf = true) : -9223372036854775808 ≤ n ∧ n ≤ 9223372036854775807 := by simpa [Lit.wf, IntKind.min, IntKind.max, IntKind.signed, IntKind.bits] using h
theorem u64_bounds {n : Int} (h : (Lit.int .u64 n).wf = true) : 0 ≤ n ∧ n ≤ 18446744073709551615 := by simpa [Lit.wf, IntKind.min, IntKind.max, IntKind.signed, IntKind.bits] using h
/-- a struct result in a block of its own, and one in a slot -/
theorem res_cell_tmp {P : Program} {fn : Func} {p q : Tmp} {ty : TypeId} (h : fn.results = #[.cell p ty, .tmp q]) (tmps : Array Value) (w : World) (g : Nat) (t : TypeId) (cs : Array Value) (fr : Nat × Nat) (d : TypeDesc)
    (hp : tmps.getD p undef = .pointer (some ⟨g, 0, none⟩)) (hg : w.heap[g]? = some (.cells cs t fr))
    (hu : P.underlying ty = some d) (hd : (match d with | .struct _ | .array _ _ => true | _ => false) = true) (hi : (P.info? ty).map (·.size) = some cs.size) :
    (results fn tmps).run P w = .ok (.tuple #[.agg cs, tmps.getD q undef]) w := by
  have hp' : tmps[p]?.getD undef = .pointer (some ⟨g, 0, none⟩) := by simpa using hp
  simp [results, h, hp', asAddr, run_loadVar_row w g t ty cs fr d hg hu hd hi]
end Go.Proofs.Ythcaagkgddeabaa.Base
