/-
  What a call turns, as a class of blocks: but for those, and what is new, the world is as it was. And a drawn region in which any number of operations come alone, each behind those that only read. No condition. By an AI agent.
-/
import Derived.Test.YthcaagkgddeabaaPhase
namespace Go.Proofs.Ythcaagkgddeabaa.Base
set_option linter.unusedVariables false
set_option linter.unusedSimpArgs false
open Go Go.RowKit

structure Ex (T : Nat → Prop) (w w' : World) : Prop where
  os : w'.os = w.os
  tape : w'.tape = w.tape
  output : w'.output = w.output
  size : w.heap.size ≤ w'.heap.size
  block : ∀ k, k < w.heap.size → ¬ T k → w'.heap[k]? = w.heap[k]?
section
variable {T T' : Nat → Prop} {B : Nat} {a b c : World}
theorem Ex.refl (T : Nat → Prop) (a : World) : Ex T a a := ⟨rfl, rfl, rfl, Nat.le_refl _, fun _ _ _ => rfl⟩
theorem Ex.trans (p : Ex T a b) (q : Ex T b c) : Ex T a c :=
  ⟨q.os.trans p.os, q.tape.trans p.tape, q.output.trans p.output, Nat.le_trans p.size q.size, fun k hk h => (q.block k (Nat.lt_of_lt_of_le hk p.size) h).trans (p.block k hk h)⟩
theorem Ex.mono (p : Ex T a b) (h : ∀ k, T k → T' k) : Ex T' a b := ⟨p.os, p.tape, p.output, p.size, fun k hk hn => p.block k hk fun ht => hn (h k ht)⟩
/-- what is new need not be named -/
theorem Ex.mono' (p : Ex T a b) (h : ∀ k, k < a.heap.size → T k → T' k) : Ex T' a b := ⟨p.os, p.tape, p.output, p.size, fun k hk hn => p.block k hk fun ht => hn (h k hk ht)⟩
theorem Ex.of_below (p : Below a.heap.size a b) : Ex T a b := ⟨p.os, p.tape, p.output, p.size, fun k hk _ => p.block k hk⟩
theorem Ex.to_below (p : Ex T a b) (h : ∀ k, k < B → ¬ T k) (hB : B ≤ a.heap.size) : Below B a b := ⟨p.os, p.tape, p.output, p.size, fun k hk => p.block k (by omega) (h k hk)⟩
theorem Ex.below {w : World} (p : Below w.heap.size w a) (q : Ex T a b) (h : ∀ k, T k → w.heap.size ≤ k) : Below w.heap.size w b :=
  p.trans (q.to_below (fun k hk ht => by have := h k ht; omega) p.size)
theorem Ex.of_ex2 {g h : Nat} (p : Ex2 g h a b) (hg : T g) (hh : T h) : Ex T a b := ⟨p.os, p.tape, p.output, p.size, fun k hk ht => p.block k hk (fun e => ht (e ▸ hg)) (fun e => ht (e ▸ hh))⟩
theorem Ex.drew (p : Ex T a b) : Ex T a b.drew := ⟨p.os, p.tape, p.output, p.size, p.block⟩
theorem Ex.undrew (p : Ex T a.drew b) : Ex T a b := ⟨p.os, p.tape, p.output, p.size, p.block⟩
theorem Ex2.undrew {g h : Nat} (p : Ex2 g h a.drew b) : Ex2 g h a b := ⟨p.os, p.tape, p.output, p.size, p.block⟩
theorem Ex.drewN (p : Ex T a b) (n : Nat) : Ex T a (b.drewN n) := ⟨p.os, p.tape, p.output, p.size, p.block⟩
theorem Ex.alloc (p : Ex T a b) (o : Obj) : Ex T a (b.alloc o) :=
  p.trans (Ex.of_below ((Below.refl _ _).alloc (Nat.le_refl _) o))
theorem Ex.setCell (p : Ex T a b) {q : Addr} (h : T q.block ∨ a.heap.size ≤ q.block) (u : Value) : Ex T a (b.setCell q u) :=
  ⟨p.os, p.tape, p.output, by simpa [World.setCell] using p.size, fun k hk hn => (Below.heap_setCell b q u k (by rintro rfl; rcases h with h | h; exact hn h; omega)).trans (p.block k hk hn)⟩
theorem Ex.cell (p : Ex T a b) {k o : Nat} {u : Value} (h : a.cell? ⟨k, o, none⟩ = some u) (hk : ¬ T k) : b.cell? ⟨k, o, none⟩ = some u :=
  (World.cell?_of_block (w := a) (p.block k (lt_of_cell h) hk)).trans h
theorem Ex.frozen (p : Ex T a b) {k o : Nat} (h : a.frozen? ⟨k, o, none⟩ = false) (hl : k < a.heap.size) (hk : ¬ T k) : b.frozen? ⟨k, o, none⟩ = false := by
  have := p.block k hl hk
  unfold World.frozen? at h ⊢
  simp only [this]
  exact h
theorem Blk.ex {g : Nat} {t : TypeId} {cs : Array Value} (h : Blk a g t cs) (p : Ex T a b) (hg : ¬ T g) : Blk b g t cs := (p.block g h.lt hg).trans h
/-- a slice of integers that begins at the head of block r -/
structure IntsIn (w : World) (k : IntKind) (r c : Nat) (xs : List Int) : Prop where
  lt : r < w.heap.size
  len : xs.length ≤ maxLen
  at_ : ∀ i : Nat, i < xs.length → w.cell? ⟨r, i, none⟩ = some (.int k (nth xs i))
theorem IntsIn.ex {k : IntKind} {r n : Nat} {xs : List Int} (h : IntsIn a k r n xs) (p : Ex T a b) (hg : ¬ T r) : IntsIn b k r n xs := ⟨Nat.lt_of_lt_of_le h.lt p.size, h.len, fun i hi => p.cell (h.at_ i hi) hg⟩
theorem IntsIn.ints {k : IntKind} {r n : Nat} {xs : List Int} (h : IntsIn a k r n xs) : Ints a k (.slice (some ⟨r, 0, none⟩) xs.length n) xs :=
  ⟨_, n, rfl, h.len, fun _ => ⟨r, 0, rfl, h.lt, fun i hi => by rw [Nat.zero_add]; exact h.at_ i hi⟩⟩
theorem IntsIn.below {k : IntKind} {r n : Nat} {xs : List Int} (h : IntsIn a k r n xs) (p : Below a.heap.size a b) : IntsIn b k r n xs := h.ex (T := fun _ => False) (Ex.of_below p) (by simp)
/-- a row that a slice owns, whole -/
theorem intsIn_of_own {base e : Nat} {k : IntKind} {v : Value} {xs : List Int} (h : a.ownsRow base e 1 v xs.length (xs.map (Value.int k))) (hl : xs.length ≤ maxLen) (hn : xs ≠ []) :
    ∃ r n, v = .slice (some ⟨r, 0, none⟩) xs.length n ∧ base ≤ r ∧ IntsIn a k r n xs := by
  rcases h.2 with ⟨rfl, h0⟩ | ⟨g, cap, cur, rfl, _, hh, _⟩
  · exact absurd (by simpa using h0) hn
  · refine ⟨g, cap, rfl, (h.lt g rfl).1, (h.lt g rfl).2, hl, fun i hi => ?_⟩
    have := h.cells (g := g) rfl i (.int k (nth xs i)) (by simp [nth, List.getD_eq_getElem?_getD, List.getElem?_eq_getElem hi])
    have e : (⟨g, 0, none⟩ : Addr).add i = ⟨g, i, none⟩ := by unfold Addr.add; split <;> simp_all
    rwa [e] at this
end

section
variable {P : Program}
/-- Phases: some that only read, one that then comes alone, again and again; at the end what turns nothing. -/
def Phased (P : Program) (l : List Oper) (Q : Exit → Act → World → Prop) : List (List Nat × Nat) → List Nat → (World → Prop) → Act → World → Prop
  | [], fin, S, a, w => wpQuiet P l.toArray (fun w' => ∃ x : Held (fun W => W = w), w' = x.w) (fun a' => Q .normal a' w) (pick l fin) a
  | (s, n) :: ph, fin, S, a, w => wpQuiet P l.toArray (fun w' => ∃ x : Held S, w' = x.w) (fun a1 => wpList P l.toArray (behind (fun a2 w2 => ∃ S1 : World → Prop, (∀ W, S1 W → S W) ∧ S1 w2 ∧ Phased P l Q ph fin S1 a2 w2) (plainEnd Q)) (pick l [n]) a1 w) (pick l s) a
def schedP (md : Region.Mode) (ops : Array Oper) : List (List Nat × Nat) → List Nat → Array Bool → Bool
  | [], fin, b => schedB md ops (fun b => decide (Region.ready md ops b = [])) false fin b
  | (s, n) :: ph, fin, b => schedB md ops (fun b => decide (n < ops.size) && decide (Region.ready md ops b = [n]) && schedP md ops ph fin (b.setIfInBounds n true)) true s b
def cntP : List (List Nat × Nat) → List Nat → Nat
  | [], fin => fin.length
  | (s, _) :: ph, fin => cntP ph fin + 1 + s.length
theorem phased_any {md : Region.Mode} {l : List Oper} {Q : Exit → Act → World → Prop} (hsel : Region.noSelect l.toArray = true) : ∀ (ph : List (List Nat × Nat)) (fin : List Nat) (S : World → Prop) (listed : Array Bool) (a : Act) (w : World),
    schedP md l.toArray ph fin listed = true → S w → Phased P l Q ph fin S a w → wpAnyH P md l.toArray (plainEnd Q) S (cntP ph fin) listed a w
  | [], fin, S, listed, a, w, hB, hS, h => by
    refine held_end (S' := fun W => W = w) fin hsel hB (fun W hW => by rw [hW]; exact hS) rfl ?_
    refine wpQuiet_mono (fun a5 h5 => ?_) _ _ h
    rintro w' ⟨⟨x, hx⟩, h⟩
    have e : w' = w := h.trans hx
    rw [e]; exact h5
  | (s, n) :: ph, fin, S, listed, a, w, hB, hS, h => by
    refine held_hoist hsel hS (f := cntP ph fin + 1) s _ a hB ?_
    refine wpQuiet_mono (fun a1 h1 => ?_) _ _ h
    intro listed' _ hT
    simp only [Bool.and_eq_true, decide_eq_true_eq] at hT
    have hn : n < l.length := by simpa using hT.1.1
    refine held_bar n ((l[n]?).getD default) hT.1.2 (by simp [hn]) ?_
    refine wpList_one_mono (fun a2 w2 hh => ?_) h1
    obtain ⟨S1, hSS, hS1, h2⟩ := hh
    exact ⟨hSS _ hS1, wpAnyH_mono hSS _ _ _ _ (phased_any hsel ph fin S1 _ a2 w2 hT.2 hS1 h2)⟩
theorem drawn_bars {S : World → Prop} {id : Nat} {Q : Exit → Act → World → Prop} {a : Act} {w : World} {l : List Oper} (ph : List (List Nat × Nat)) (fin : List Nat) (hm : P.follows .mixedOrders = true)
    (hsel : Region.noSelect l.toArray = true) (hB : schedP .any l.toArray ph fin (Array.replicate l.length false) = true) (hlen : l.length = cntP ph fin) (hS : S w.drew) (h : Phased P l Q ph fin S a w.drew) :
    (Code.region id l.toArray true).wp P Q a w := by
  refine region_phases (S := S) hm ?_
  rw [show l.toArray.size = cntP ph fin by simpa using hlen]
  rw [show Array.replicate (cntP ph fin) false = Array.replicate l.length false by rw [hlen]]
  exact phased_any hsel ph fin S _ a _ hB hS h
theorem Phased.go {l : List Oper} {Q : Exit → Act → World → Prop} {s : List Nat} {n : Nat} {ph : List (List Nat × Nat)} {fin : List Nat} {S : World → Prop} {a : Act} {w : World}
    (h : wpQuiet P l.toArray (fun w' => ∃ x : Held S, w' = x.w) (fun a1 => wpList P l.toArray (behind (fun a2 w2 => ∃ S1 : World → Prop, (∀ W, S1 W → S W) ∧ S1 w2 ∧ Phased P l Q ph fin S1 a2 w2) (plainEnd Q)) (pick l [n]) a1 w) (pick l s) a) :
    Phased P l Q ((s, n) :: ph) fin S a w := h
theorem Phased.end_ {l : List Oper} {Q : Exit → Act → World → Prop} {fin : List Nat} {S : World → Prop} {a : Act} {w : World}
    (h : wpQuiet P l.toArray (fun w' => ∃ x : Held (fun W => W = w), w' = x.w) (fun a' => Q .normal a' w) (pick l fin) a) :
    Phased P l Q [] fin S a w := h
end
end Go.Proofs.Ythcaagkgddeabaa.Base
