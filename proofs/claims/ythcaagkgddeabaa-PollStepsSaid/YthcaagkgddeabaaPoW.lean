/-
  PollNil, walked. Printed by wip/tools/mkpow.py. Conditions stand at each. By an AI agent.
-/
import Derived.Test.YthcaagkgddeabaaPoV
import Derived.Deep.CutRange
import Derived.Deep.CutBlock
namespace Go.Proofs.Ythcaagkgddeabaa.Bank
set_option linter.unusedVariables false
set_option linter.unusedSimpArgs false
open Go Go.RowKit Go.Proofs.Ythcaagkgddeabaa.Base Go.Deep Go.ChangeShapes Go.WideShapes Go.Proofs.Ythcaagkgddeabaa.Queue
/-- what is told of a poll: which subscription, which record, its words -/
def gotK (x : PX) : Int := if x.how = 1 then x.pick else -1
def gotG (x : PX) : Int := if x.how = 1 then x.gen else 0
def gotW (x : PX) : List Int := if x.how = 1 then x.words else []
def gotN (c : PC) (x : PX) : Nat := if x.how = 1 then c.n else 0
theorem LGot_both (lam : Nat → Nat) (tag o : Nat) (c : PC) (x : PX) (w : World) (h : PLive w lam tag o c x) (hl : x.how = 1 → x.words.length ≤ 64) : Calls Try.prog 8 #[.pointer (some ⟨o, 0, none⟩)] w fun e w' => ∃ A cc, e = .returned (.tuple #[.int .i64 (gotK x), .int .u64 (gotG x), .slice A (gotW x).length cc]) ∧ w'.ownsRow w.heap.size 32 1 (.slice A (gotW x).length cc) (gotW x).length ((gotW x).map (Value.int .u64)) ∧ Below w.heap.size w w' := by
  by_cases hh : x.how = 1
  · have e1 : gotK x = x.pick := if_pos hh
    have e2 : gotG x = x.gen := if_pos hh
    have e3 : gotW x = x.words := if_pos hh
    rw [e1, e2, e3]
    refine (LGot_any lam tag o c x w h hh (hl hh)).mono ?_
    rintro e w' ⟨v', rfl, ho, hb⟩
    obtain ⟨A, cc, rfl⟩ := own_form ho
    exact ⟨A, cc, rfl, ho, hb⟩
  · have e1 : gotK x = -1 := if_neg hh
    have e2 : gotG x = 0 := if_neg hh
    have e3 : gotW x = [] := if_neg hh
    rw [e1, e2, e3]
    refine (LGot_not lam tag o c x w h hh).mono ?_
    rintro e w' ⟨rfl, rfl⟩
    exact ⟨none, 0, rfl, World.ownsRow_nil _ _ _ _, Below.refl _ _⟩
/-- a row of subscriptions of so many, be it none -/
structure SubR (w : World) (B : Nat) (v : Value) (n : Nat) (l : Nat → Queue.Sub) : Prop where
  form : ∃ A cc, v = .slice A n cc ∧ n ≤ cc ∧ (0 < n → ∃ r, A = some ⟨r, 0, none⟩ ∧ B ≤ r ∧ SubsIn w r n l)
theorem LSubs_both (lam : Nat → Nat) (tag o : Nat) (c : PC) (x : PX) (w : World) (h : PLive w lam tag o c x) (hc : c.Ok) (hok : x.how = 1 → ∀ i, i < c.n → (x.cu i).Ok) : Calls Try.prog 10 #[.pointer (some ⟨o, 0, none⟩)] w fun e w' => ∃ A cc, e = .returned (.slice A (gotN c x) cc) ∧ SubR w' w.heap.size (.slice A (gotN c x) cc) (gotN c x) (c.sub x.cu) ∧ Below w.heap.size w w' := by
  by_cases hh : x.how = 1
  · have e1 : gotN c x = c.n := if_pos hh
    rw [e1]
    refine (LSubs_any lam tag o c x w h hh hc (hok hh)).mono ?_
    rintro e w' ⟨r, cc, rfl, h1, h2, h3, hb⟩
    exact ⟨_, cc, rfl, ⟨_, cc, rfl, h1, fun _ => ⟨r, rfl, h2, h3⟩⟩, hb⟩
  · have e1 : gotN c x = 0 := if_neg hh
    rw [e1]
    refine (LSubs_not lam tag o c x w h hh).mono ?_
    rintro e w' ⟨rfl, rfl⟩
    exact ⟨none, 0, rfl, ⟨none, 0, rfl, Nat.le_refl 0, fun h => by omega⟩, Below.refl _ _⟩
theorem SubsIn.setNext {w : World} {r n : Nat} {l : Nat → Queue.Sub} (h : SubsIn w r n l) {i : Nat} (hi : i < n) (z : Int) : ∃ l', SubsIn (w.setCell ⟨r, i * 6 + 2, none⟩ (.int .u64 z)) r n l' :=
  ⟨fun k => if k = i then ⟨(l i).topic, (l i).rank, ⟨z, (l i).cur.cap, (l i).cur.got, (l i).cur.lost⟩⟩ else l k, by simpa [World.setCell] using h.lt, fun k hk j hj => by
    have h6 := h.cells i hi 2 (by decide)
    have hcj := h.cells k hk j hj
    rw [cell_set h6]
    by_cases e : k = i
    · subst e
      have hj6 : j = 0 ∨ j = 1 ∨ j = 2 ∨ j = 3 ∨ j = 4 ∨ j = 5 := by omega
      simp only [if_pos]
      rcases hj6 with rfl | rfl | rfl | rfl | rfl | rfl
      · rw [if_neg (by omega)]; exact hcj
      · rw [if_neg (by omega)]; exact hcj
      · rw [if_pos rfl]; rfl
      · rw [if_neg (by omega)]; exact hcj
      · rw [if_neg (by omega)]; exact hcj
      · rw [if_neg (by omega)]; exact hcj
    · simp only [if_neg e]
      rw [if_neg (by omega)]; exact hcj, fun a => by simp only [setCell_fro]; exact h.fro a⟩
theorem SubsIn.setTopic {w : World} {r n : Nat} {l : Nat → Queue.Sub} (h : SubsIn w r n l) {i : Nat} (hi : i < n) (z : Int) : ∃ l', SubsIn (w.setCell ⟨r, i * 6, none⟩ (.int .i64 z)) r n l' :=
  ⟨fun k => if k = i then ⟨z, (l i).rank, (l i).cur⟩ else l k, by simpa [World.setCell] using h.lt, fun k hk j hj => by
    have h6 := h.cells i hi 0 (by decide)
    have hcj := h.cells k hk j hj
    rw [cell_set (a := i * 6) h6]
    by_cases e : k = i
    · subst e
      have hj6 : j = 0 ∨ j = 1 ∨ j = 2 ∨ j = 3 ∨ j = 4 ∨ j = 5 := by omega
      simp only [if_pos]
      rcases hj6 with rfl | rfl | rfl | rfl | rfl | rfl
      · rw [if_pos (by omega)]; rfl
      · rw [if_neg (by omega)]; exact hcj
      · rw [if_neg (by omega)]; exact hcj
      · rw [if_neg (by omega)]; exact hcj
      · rw [if_neg (by omega)]; exact hcj
      · rw [if_neg (by omega)]; exact hcj
    · simp only [if_neg e]
      rw [if_neg (by omega)]; exact hcj, fun a => by simp only [setCell_fro]; exact h.fro a⟩
theorem SubsIn.setRank {w : World} {r n : Nat} {l : Nat → Queue.Sub} (h : SubsIn w r n l) {i : Nat} (hi : i < n) (z : Int) : ∃ l', SubsIn (w.setCell ⟨r, i * 6 + 1, none⟩ (.int .i64 z)) r n l' :=
  ⟨fun k => if k = i then ⟨(l i).topic, z, (l i).cur⟩ else l k, by simpa [World.setCell] using h.lt, fun k hk j hj => by
    have h6 := h.cells i hi 1 (by decide)
    have hcj := h.cells k hk j hj
    rw [cell_set h6]
    by_cases e : k = i
    · subst e
      have hj6 : j = 0 ∨ j = 1 ∨ j = 2 ∨ j = 3 ∨ j = 4 ∨ j = 5 := by omega
      simp only [if_pos]
      rcases hj6 with rfl | rfl | rfl | rfl | rfl | rfl
      · rw [if_neg (by omega)]; exact hcj
      · rw [if_pos rfl]; rfl
      · rw [if_neg (by omega)]; exact hcj
      · rw [if_neg (by omega)]; exact hcj
      · rw [if_neg (by omega)]; exact hcj
      · rw [if_neg (by omega)]; exact hcj
    · simp only [if_neg e]
      rw [if_neg (by omega)]; exact hcj, fun a => by simp only [setCell_fro]; exact h.fro a⟩
/-- spots in a block of one's own -/
def scell (s : Spot) : Nat → Value
  | 0 => .int .i64 s.owners | 1 => .int .i64 s.seq | 2 => .int .i64 s.first | 3 => .int .i64 s.words | _ => .int .i64 s.depth
structure SpIn (w : World) (r n : Nat) (l : Nat → Spot) : Prop where
  lt : r < w.heap.size
  cells : ∀ i : Nat, i < n → ∀ j, j < 5 → w.cell? ⟨r, i * 5 + j, none⟩ = some (scell (l i) j)
  fro : ∀ i, w.frozen? ⟨r, i, none⟩ = false
theorem SpIn.ex {T : Nat → Prop} {w w' : World} {r n : Nat} {l : Nat → Spot} (h : SpIn w r n l) (p : Ex T w w') (hg : ¬ T r) : SpIn w' r n l :=
  ⟨Nat.lt_of_lt_of_le h.lt p.size, fun i hi j hj => p.cell (h.cells i hi j hj) hg, fun i => p.frozen (h.fro i) h.lt hg⟩
theorem SpIn.sps {w : World} {r n c : Nat} {l : Nat → Spot} (h : SpIn w r n l) (hn : n ≤ maxLen) : Sps w (.slice (some ⟨r, 0, none⟩) n c) n l :=
  ⟨⟨_, c, rfl, hn, fun _ => ⟨r, 0, rfl, h.lt, fun i hi => by rw [Nat.zero_add]; exact ⟨h.cells i hi 0 (by decide), h.cells i hi 1 (by decide), h.cells i hi 2 (by decide), h.cells i hi 3 (by decide), h.cells i hi 4 (by decide)⟩⟩⟩⟩
theorem SpIn.setSeq {w : World} {r n : Nat} {l : Nat → Spot} (h : SpIn w r n l) {i : Nat} (hi : i < n) (z : Int) : ∃ l', SpIn (w.setCell ⟨r, i * 5 + 1, none⟩ (.int .i64 z)) r n l' :=
  ⟨fun k => if k = i then ⟨(l i).owners, z, (l i).first, (l i).words, (l i).depth⟩ else l k, by simpa [World.setCell] using h.lt, fun k hk j hj => by
    have h6 := h.cells i hi 1 (by decide)
    have hcj := h.cells k hk j hj
    rw [cell_set h6]
    by_cases e : k = i
    · subst e
      have hj6 : j = 0 ∨ j = 1 ∨ j = 2 ∨ j = 3 ∨ j = 4 := by omega
      simp only [if_pos]
      rcases hj6 with rfl | rfl | rfl | rfl | rfl
      · rw [if_neg (by omega)]; exact hcj
      · rw [if_pos rfl]; rfl
      · rw [if_neg (by omega)]; exact hcj
      · rw [if_neg (by omega)]; exact hcj
      · rw [if_neg (by omega)]; exact hcj
    · simp only [if_neg e]
      rw [if_neg (by omega)]; exact hcj, fun a => by simp only [setCell_fro]; exact h.fro a⟩
def scells (l : Nat → Spot) (k : Nat) : List Value := (List.range (5 * k)).map fun t => scell (l (t / 5)) (t % 5)
theorem scells_len (l : Nat → Spot) (n : Nat) : (scells l n).length = 5 * n := by simp [scells]
theorem scells_at (l : Nat → Spot) {k i j : Nat} (hi : i < k) (hj : j < 5) : (scells l k)[i * 5 + j]? = some (scell (l i) j) := by
  unfold scells
  rw [List.getElem?_map, List.getElem?_range (by omega)]
  simp only [Option.map_some]
  rw [show (i * 5 + j) / 5 = i by omega, show (i * 5 + j) % 5 = j by omega]
theorem spIn_of_own {w : World} {base : Nat} {t : TypeId} {v : Value} {n : Nat} {l : Nat → Spot} (h : w.ownsRow base t 5 v n (scells l n)) (hn : 0 < n) : ∃ r c, v = .slice (some ⟨r, 0, none⟩) n c ∧ base ≤ r ∧ SpIn w r n l := by
  have hf := fun g (hg : v.ownBlock = some g) => own_fro h hg
  rcases h.2 with ⟨rfl, h0⟩ | ⟨g, cap, cur, rfl, hbg, hh, _⟩
  · omega
  · refine ⟨g, cap, rfl, hbg, (h.lt g rfl).2, fun i hi j hj => ?_, hf _ rfl⟩
    have := h.cells (g := g) rfl (i * 5 + j) _ (scells_at l hi hj)
    have e : (⟨g, 0, none⟩ : Addr).add (i * 5 + j) = ⟨g, i * 5 + j, none⟩ := by unfold Addr.add; split <;> simp_all
    rwa [e] at this
theorem spot_info : (Try.prog.info? 48).map (fun i => (i.zero, i.size, i.bytes)) = some (some (.agg #[.int .i64 0, .int .i64 0, .int .i64 0, .int .i64 0, .int .i64 0]), 5, 40) := by kernel_rfl
/-- the cells that slices of subscriptions, and of spots, have, beside an empty block that was just made -/
theorem subs_news {w : World} {b off n : Nat} {l : Nat → Queue.Sub} {ob : Obj} (hc : ∀ i : Nat, i < n → w.cell? ⟨b, off + i * 6, none⟩ = some (.int .i64 (l i).topic) ∧ w.cell? ⟨b, off + i * 6 + 1, none⟩ = some (.int .i64 (l i).rank) ∧ w.cell? ⟨b, off + i * 6 + 2, none⟩ = some (.int .u64 (l i).cur.next) ∧ w.cell? ⟨b, off + i * 6 + 3, none⟩ = some (.int .i64 (l i).cur.cap) ∧ w.cell? ⟨b, off + i * 6 + 4, none⟩ = some (.int .u64 (l i).cur.got) ∧ w.cell? ⟨b, off + i * 6 + 5, none⟩ = some (.int .u64 (l i).cur.lost)) :
    ∀ j u, (subCs l n)[j]? = some u → (w.alloc ob).cell? ((⟨b, off, none⟩ : Addr).add j) = some u := by
  intro j u hj
  have hjn : j < n * 6 := by
    have := (List.getElem?_eq_some_iff.1 hj).1
    rw [subCs_len] at this
    omega
  rw [Addr.add_lit]
  refine Lib.cell?_alloc_some _ ?_
  have hj2 := subCs_at l (k := n) (i := j / 6) (j := j % 6) (by omega) (by omega)
  rw [show j / 6 * 6 + j % 6 = j by omega, hj] at hj2
  cases hj2
  have h5 := hc (j / 6) (by omega)
  rcases (show j % 6 = 0 ∨ j % 6 = 1 ∨ j % 6 = 2 ∨ j % 6 = 3 ∨ j % 6 = 4 ∨ j % 6 = 5 by omega) with e | e | e | e | e | e <;> rw [e]
  · rw [show off + j = off + j / 6 * 6 by omega]; exact h5.1
  · rw [show off + j = off + j / 6 * 6 + 1 by omega]; exact h5.2.1
  · rw [show off + j = off + j / 6 * 6 + 2 by omega]; exact h5.2.2.1
  · rw [show off + j = off + j / 6 * 6 + 3 by omega]; exact h5.2.2.2.1
  · rw [show off + j = off + j / 6 * 6 + 4 by omega]; exact h5.2.2.2.2.1
  · rw [show off + j = off + j / 6 * 6 + 5 by omega]; exact h5.2.2.2.2.2
theorem spots_news {w : World} {b off n : Nat} {l : Nat → Spot} {ob : Obj} (hc : ∀ i : Nat, i < n → w.cell? ⟨b, off + i * 5, none⟩ = some (.int .i64 (l i).owners) ∧ w.cell? ⟨b, off + i * 5 + 1, none⟩ = some (.int .i64 (l i).seq) ∧ w.cell? ⟨b, off + i * 5 + 2, none⟩ = some (.int .i64 (l i).first) ∧ w.cell? ⟨b, off + i * 5 + 3, none⟩ = some (.int .i64 (l i).words) ∧ w.cell? ⟨b, off + i * 5 + 4, none⟩ = some (.int .i64 (l i).depth)) :
    ∀ j u, (scells l n)[j]? = some u → (w.alloc ob).cell? ((⟨b, off, none⟩ : Addr).add j) = some u := by
  intro j u hj
  have hjn : j < n * 5 := by
    have := (List.getElem?_eq_some_iff.1 hj).1
    rw [scells_len] at this
    omega
  rw [Addr.add_lit]
  refine Lib.cell?_alloc_some _ ?_
  have hj2 := scells_at l (k := n) (i := j / 5) (j := j % 5) (by omega) (by omega)
  rw [show j / 5 * 5 + j % 5 = j by omega, hj] at hj2
  cases hj2
  have h5 := hc (j / 5) (by omega)
  rcases (show j % 5 = 0 ∨ j % 5 = 1 ∨ j % 5 = 2 ∨ j % 5 = 3 ∨ j % 5 = 4 by omega) with e | e | e | e | e <;> rw [e]
  · rw [show off + j = off + j / 5 * 5 by omega]; exact h5.1
  · rw [show off + j = off + j / 5 * 5 + 1 by omega]; exact h5.2.1
  · rw [show off + j = off + j / 5 * 5 + 2 by omega]; exact h5.2.2.1
  · rw [show off + j = off + j / 5 * 5 + 3 by omega]; exact h5.2.2.2.1
  · rw [show off + j = off + j / 5 * 5 + 4 by omega]; exact h5.2.2.2.2
theorem subCs_one (l : Nat → Queue.Sub) (n : Nat) : ∀ u ∈ subCs l n, u.oneCell' = true := by
  intro u hu
  obtain ⟨t, _, rfl⟩ := List.mem_map.1 hu
  rcases (show t % 6 = 0 ∨ t % 6 = 1 ∨ t % 6 = 2 ∨ t % 6 = 3 ∨ t % 6 = 4 ∨ t % 6 = 5 by omega) with e | e | e | e | e | e <;> rw [e] <;> rfl
theorem scells_one (l : Nat → Spot) (n : Nat) : ∀ u ∈ scells l n, u.oneCell' = true := by
  intro u hu
  obtain ⟨t, _, rfl⟩ := List.mem_map.1 hu
  rcases (show t % 5 = 0 ∨ t % 5 = 1 ∨ t % 5 = 2 ∨ t % 5 = 3 ∨ t % 5 = 4 by omega) with e | e | e | e | e <;> rw [e] <;> rfl
theorem made_own {w : World} {t e : TypeId} {sz n : Nat} {xs : List Value} {v' : Value} {w1 : World} (hown : w1.ownsRow w.heap.size e sz v' n xs) (hgrow : (w.alloc (.cells #[] e)).grownBy w1 (Value.slice (some ⟨w.heap.size, 0, none⟩) 0 0).ownBlock) : w1.ownsRow w.heap.size e sz v' n xs ∧ Below w.heap.size w w1 :=
  ⟨hown, ((Below.refl _ w).alloc (Nat.le_refl _) _).grown hgrow (by simp) (by intro k hk; simp [Value.ownBlock] at hk; omega)⟩
theorem PLive.beside {w w' : World} {lam : Nat → Nat} {tag tag' o g h : Nat} {c : PC} {x : PX} (p : PLive w lam tag' o c x) (hx : Ex (fun k => k = g ∨ k = h ∨ lam k = tag) w w') (hne : tag ≠ tag') (hg : lam g ≠ tag') (hh : lam h ≠ tag') : PLive w' (lamN lam w.heap.size tag) tag' o c x := by
  refine (p.relam (lam' := lamN lam w.heap.size tag) (fun k hk => lamN_lt hk)).ex hx (fun k hk => ?_)
  rcases Nat.lt_or_ge k w.heap.size with h1 | h1
  · rw [lamN_lt h1]
    rcases hk with rfl | rfl | h2
    · exact hg
    · exact hh
    · rw [h2]; exact hne
  · rw [lamN_ge h1]; exact hne
/-- a row of words of one's own, whose block, if any, lies between two numbers -/
structure RowB (w : World) (B E : Nat) (v : Value) (W : List Int) : Prop where
  row : w.ownsRow 0 32 1 v W.length (W.map (Value.int .u64))
  own : ∀ k, v.ownBlock = some k → B ≤ k ∧ k < E
theorem RowB.ex {T : Nat → Prop} {w w' : World} {B E : Nat} {v : Value} {W : List Int} (h : RowB w B E v W) (p : Ex T w w') (hT : ∀ k, B ≤ k → k < E → ¬ T k) : RowB w' B E v W :=
  ⟨ownsRow_ex h.row p (fun k hk => hT k (h.own k hk).1 (h.own k hk).2), h.own⟩
theorem own_zero {w : World} {base size n : Nat} {t : TypeId} {v : Value} {xs : List Value} (h : w.ownsRow base t size v n xs) : w.ownsRow 0 t size v n xs :=
  ⟨h.1, h.2.imp id (fun ⟨g, cap, cur, hv, _, r⟩ => ⟨g, cap, cur, hv, Nat.zero_le _, r⟩)⟩
theorem RowB.of_own {w : World} {B : Nat} {v : Value} {W : List Int} (h : w.ownsRow B 32 1 v W.length (W.map (Value.int .u64))) : RowB w B w.heap.size v W := ⟨own_zero h, fun k hk => World.ownsRow.lt h k hk⟩
theorem RowB.ints {w : World} {B E : Nat} {v : Value} {W : List Int} (h : RowB w B E v W) (hl : W.length ≤ maxLen) : Ints w .u64 v W := ints_of_own h.row hl
theorem RowB.at_ {w : World} {B E LW c : Nat} {A : Option Addr} {W : List Int} (h : RowB w B E (.slice A LW c) W) (hl : W.length = LW) {i : Nat} (hi : i < LW) :
    ∃ r, A = some ⟨r, 0, none⟩ ∧ B ≤ r ∧ r < E ∧ w.cell? ⟨r, i, none⟩ = some (.int .u64 (nth W i)) ∧ w.frozen? ⟨r, i, none⟩ = false ∧ ∀ z : Int, RowB (w.setCell ⟨r, i, none⟩ (.int .u64 z)) B E (.slice A LW c) (W.set i z) := by
  have hr := h.row
  have ho := h.own
  rcases hr.2 with ⟨h1, h0⟩ | ⟨g, cap, cur, hv, hb, hg, hn, hcap, hcur, ht⟩
  · simp only [Value.slice.injEq] at h1; omega
  · simp only [Value.slice.injEq] at hv
    obtain ⟨rfl, h2, rfl⟩ := hv
    obtain ⟨b1, b2⟩ := ho g rfl
    have hc := World.ownsRow.cells (g := g) hr rfl i (.int .u64 (nth W i)) (by simp [nth, List.getD_eq_getElem?_getD, List.getElem?_eq_getElem (show i < W.length by omega)])
    have e : (⟨g, 0, none⟩ : Addr).add i = ⟨g, i, none⟩ := by unfold Addr.add; split <;> simp_all
    rw [e] at hc
    refine ⟨g, rfl, b1, b2, hc, own_fro hr rfl i, fun z => ⟨⟨by simp, .inr ⟨g, c, cur.setIfInBounds i (.int .u64 z), by rw [List.length_set, h2], hb, ?_, by rw [List.length_set]; exact hn, hcap, by simpa using hcur, ?_⟩⟩, ho⟩⟩
    · simp [World.setCell, Array.getElem?_modify, hg]
    · rw [Array.toList_setIfInBounds, List.take_set]
      simp only [List.length_set]
      rw [ht, List.map_set]
structure SubRB (w : World) (B E : Nat) (v : Value) (n : Nat) (l : Nat → Queue.Sub) : Prop where
  form : ∃ A cc, v = .slice A n cc ∧ (0 < n → ∃ r, A = some ⟨r, 0, none⟩ ∧ B ≤ r ∧ r < E ∧ SubsIn w r n l)
theorem SubRB.ex {T : Nat → Prop} {w w' : World} {B E : Nat} {v : Value} {n : Nat} {l : Nat → Queue.Sub} (h : SubRB w B E v n l) (p : Ex T w w') (hT : ∀ k, B ≤ k → k < E → ¬ T k) : SubRB w' B E v n l := by
  obtain ⟨A, cc, hv, hf⟩ := h.form
  exact ⟨A, cc, hv, fun h0 => by obtain ⟨r, e, h1, h2, h3⟩ := hf h0; exact ⟨r, e, h1, h2, h3.ex p (hT r h1 h2)⟩⟩
theorem SubR.to_b {w : World} {B : Nat} {v : Value} {n : Nat} {l : Nat → Queue.Sub} (h : SubR w B v n l) : SubRB w B w.heap.size v n l := by
  obtain ⟨A, cc, hv, _, hf⟩ := h.form
  exact ⟨A, cc, hv, fun h0 => by obtain ⟨r, e, h1, h3⟩ := hf h0; exact ⟨r, e, h1, h3.lt, h3⟩⟩
theorem SubRB.at_ {w : World} {B E n c : Nat} {A : Option Addr} {l : Nat → Queue.Sub} (h : SubRB w B E (.slice A n c) n l) (hn : 0 < n) : ∃ r, A = some ⟨r, 0, none⟩ ∧ B ≤ r ∧ r < E ∧ SubsIn w r n l := by
  obtain ⟨A', c', hv, hf⟩ := h.form
  simp only [Value.slice.injEq, true_and] at hv
  obtain ⟨rfl, rfl⟩ := hv
  exact hf hn
theorem low_keep {lam : Nat → Nat} {N M t : Nat} (h : ∀ k, k < N → lam k = 0) (hM : N ≤ M) : ∀ k, k < N → lamN lam M t k = 0 := fun k hk => by rw [lamN_lt (by omega)]; exact h k hk
theorem low_ge {lam : Nat → Nat} {N k t : Nat} (h : ∀ k, k < N → lam k = 0) (ht : t ≠ 0) (hk : lam k = t) : N ≤ k := by
  rcases Nat.lt_or_ge k N with h1 | h1
  · rw [h k h1] at hk; exact absurd hk.symm ht
  · exact h1
set_option maxRecDepth 100000 in
set_option maxHeartbeats 30000000 in
theorem PollNil_walk (v0 v1 : Value) (c : Cs) (ws0 : List Int) (w : World) (hc : CsAt w v0 c) (hws : Ints w .u64 v1 ws0) (hfit : (∀ y ∈ ws0, 0 ≤ y ∧ y ≤ 18446744073709551615)) :
    Calls Try.prog 3 #[v0, v1] w fun e w' => e = .returned (.bool true) ∧ Below w.heap.size w w' := by
  obtain ⟨va, vb, n, m, l, s, tries⟩ := c
  obtain ⟨hv0, hsub, hsps, hcfit⟩ := hc
  simp only at hv0 hsub hsps
  subst hv0
  obtain ⟨A1, c1, rfl, hnc⟩ := hsub.cap
  obtain ⟨A2, c2, rfl, hm, _⟩ := hsps.form
  obtain ⟨A3, c3, rfl, hlen3, hf3⟩ := hws.form
  have HSUB := Lib.hid hsub
  have HSPS := Lib.hid hsps
  have HF3 := Lib.hid hf3
  have HFIT := Lib.hid hfit
  obtain ⟨len, hlen⟩ : ∃ len, ws0.length = len := ⟨_, rfl⟩
  have HLEN := Lib.hid hlen
  rw [hlen]
  clear hcfit hsub hsps hws hf3 hfit hnc hm hlen3 hlen
  have L0 := Lib.hid (Below.refl w.heap.size w)
  go_enter Try.func3, Try.ntmps3
  go_upto_region 1 with fail
  have hn := Blk.new w 25 #[.slice A1 n c1, .slice A2 m c2, .int .i64 tries]
  obtain ⟨cb, hnb⟩ : ∃ cb, w.heap.size = cb := ⟨_, rfl⟩
  have hlo_ : w.heap.size ≤ cb := hnb ▸ L0.out.size
  simp only [hnb] at hn ⊢
  have ORD1 := Lib.hid (show w.heap.size ≤ cb from by omega)
  have ee : Ex (fun _ => False) w (w.alloc (.cells #[.slice A1 n c1, .slice A2 m c2, .int .i64 tries] 25)) := (Ex.refl _ w).alloc (.cells #[.slice A1 n c1, .slice A2 m c2, .int .i64 tries] 25)
  have L2 := Lib.hid (Ex.below L0.out ee (fun k hk => hk.elim))
  have C2 := Lib.hid (hn)
  clear ee L0 hn hnb  hlo_
  generalize w.alloc (.cells #[.slice A1 n c1, .slice A2 m c2, .int .i64 tries] 25) = w1 at *
  go_wp2_with fail
  refine (New_in 60 (by decide) (by decide) w1).mono ?_; rintro e w2 ⟨rfl, hb, hl, hsz⟩
  have hb : BankAt w2 (w1.heap.size + 1) w1.heap.size (zeros 60) 0 := hb
  obtain ⟨h, hrr⟩ : ∃ h, w1.heap.size = h := ⟨_, rfl⟩
  have hlt_cb : cb < h := hrr ▸ C2.out.lt
  have hlo_ : w.heap.size ≤ h := hrr ▸ L2.out.size
  simp only [hrr] at hb ⊢
  obtain ⟨g, hg⟩ : ∃ g, h + 1 = g := ⟨_, rfl⟩
  simp only [hg] at hb ⊢
  have ORD3 := Lib.hid (show w.heap.size ≤ cb ∧ cb < h ∧ w.heap.size ≤ h ∧ h + 1 = g from by have o_ := ORD1.out; omega)
  clear ORD1
  have ee : Ex (fun _ => False) w1 w2 := Ex.of_below hl
  have L4 := Lib.hid (Ex.below L2.out ee (fun k hk => hk.elim))
  have C4 := Lib.hid (C2.out.ex ee (fun h => h))
  have K4 := Lib.hid (hb)
  clear ee L2 C2 hb hl hsz hrr hg hlt_cb hlo_
  go_wp2_with fail
  refine (PGot_none w2).mono ?_; rintro e w3 ⟨rfl, rfl⟩
  have kn : ((-1 : Int) != -1) = false := rfl
  have k0 : ((0 : Int) != 0) = false := rfl
  have k3 : ((3 : Int) != 3) = false := rfl
  go_wp2_with fail
  refine (PStep_none _ w2).mono ?_; rintro e w3 ⟨rfl, rfl⟩
  go_wp2_with fail
  refine (PSubs_none w2).mono ?_; rintro e w3 ⟨rfl, rfl⟩
  go_wp2_with fail
  refine (PGens_none w2).mono ?_; rintro e w3 ⟨rfl, rfl⟩
  go_wp2_with fail
  refine (PAt_none w2).mono ?_; rintro e w3 ⟨rfl, rfl⟩
  go_wp2_with fail
  refine (PSteps_none w2).mono ?_; rintro e w3 ⟨rfl, rfl⟩
  clear kn k0 k3
  have cq0 := C4.out.cell 0
  have cq1 := C4.out.cell 1
  have cq2 := C4.out.cell 2
  simp only [List.getElem?_toArray, List.getElem?_cons_succ, List.getElem?_cons_zero] at cq0 cq1 cq2
  go_upto_region 6 with fail
  by_cases h8 : n ≤ 8
  rotate_left
  · have k8 : decide ((n : Int) > 8) = true := decide_eq_true (by omega)
    clear h8
    go_wp2_with fail
    clear cq0 cq1 cq2
    clear k8
    refine (awake_any w2).mono ?_; rintro e wz ⟨rfl, hbz⟩
    have ee : Ex (fun _ => False) w2 wz := Ex.of_below hbz
    have L5 := Lib.hid (Ex.below L4.out ee (fun k hk => hk.elim))
    have C5 := Lib.hid (C4.out.ex ee (fun h => h))
    have K5 := Lib.hid (K4.out.ex ee (fun h => h) (fun h => h))
    clear ee L4 C4 K4 hbz
    go_wp2_with fail
    go_ret
    exact ⟨rfl, L5.out⟩
  have k8 : decide ((n : Int) > 8) = false := decide_eq_false (by omega)
  by_cases m8 : m ≤ 8
  rotate_left
  · have k9 : decide ((m : Int) > 8) = true := decide_eq_true (by omega)
    clear h8 m8
    go_wp2_with fail
    clear cq0 cq1 cq2
    clear k8 k9
    refine (awake_any w2).mono ?_; rintro e wz ⟨rfl, hbz⟩
    have ee : Ex (fun _ => False) w2 wz := Ex.of_below hbz
    have L5 := Lib.hid (Ex.below L4.out ee (fun k hk => hk.elim))
    have C5 := Lib.hid (C4.out.ex ee (fun h => h))
    have K5 := Lib.hid (K4.out.ex ee (fun h => h) (fun h => h))
    clear ee L4 C4 K4 hbz
    go_wp2_with fail
    go_ret
    exact ⟨rfl, L5.out⟩
  have k9 : decide ((m : Int) > 8) = false := decide_eq_false (by omega)
  have H8 := Lib.hid (And.intro h8 m8)
  clear h8 m8
  go_upto_region 8 with fail
  clear k8 k9
  by_cases hf : Fits n m l s
  rotate_left
  · have HW := Lib.hid (fun W (hb : Below w.heap.size w W) => PNew_unfit _ _ n m l s tries W (HSUB.out.below hb) (HSPS.out.below hb) hf)
    clear hf
    go_wp2_with fail
    refine (HW.out w2 L4.out).mono ?_; rintro e w3 ⟨rfl, hb⟩
    clear cq0 cq1 cq2
    have ee : Ex (fun _ => False) w2 w3 := Ex.of_below hb
    have L5 := Lib.hid (Ex.below L4.out ee (fun k hk => hk.elim))
    have C5 := Lib.hid (C4.out.ex ee (fun h => h))
    have K5 := Lib.hid (K4.out.ex ee (fun h => h) (fun h => h))
    clear ee L4 C4 K4 hb
    have ke : ((1 : Int) != 0) = true := rfl
    go_wp2_with fail
    clear ke
    refine (awake_any w3).mono ?_; rintro e wz ⟨rfl, hbz⟩
    have ee : Ex (fun _ => False) w3 wz := Ex.of_below hbz
    have L6 := Lib.hid (Ex.below L5.out ee (fun k hk => hk.elim))
    have C6 := Lib.hid (C5.out.ex ee (fun h => h))
    have K6 := Lib.hid (K5.out.ex ee (fun h => h) (fun h => h))
    clear ee L5 C5 K5 hbz
    go_wp2_with fail
    go_ret
    exact ⟨rfl, L6.out⟩
  by_cases ht : 1 ≤ tries ∧ tries ≤ 16
  rotate_left
  · have HW := Lib.hid (fun W (hb : Below w.heap.size w W) => PNew_range _ _ n m l s tries W (HSUB.out.below hb) (HSPS.out.below hb) hf ht)
    clear hf ht
    go_wp2_with fail
    refine (HW.out w2 L4.out).mono ?_; rintro e w3 ⟨rfl, hb⟩
    clear cq0 cq1 cq2
    have ee : Ex (fun _ => False) w2 w3 := Ex.of_below hb
    have L5 := Lib.hid (Ex.below L4.out ee (fun k hk => hk.elim))
    have C5 := Lib.hid (C4.out.ex ee (fun h => h))
    have K5 := Lib.hid (K4.out.ex ee (fun h => h) (fun h => h))
    clear ee L4 C4 K4 hb
    have ke : ((10 : Int) != 0) = true := rfl
    go_wp2_with fail
    clear ke
    refine (awake_any w3).mono ?_; rintro e wz ⟨rfl, hbz⟩
    have ee : Ex (fun _ => False) w3 wz := Ex.of_below hbz
    have L6 := Lib.hid (Ex.below L5.out ee (fun k hk => hk.elim))
    have C6 := Lib.hid (C5.out.ex ee (fun h => h))
    have K6 := Lib.hid (K5.out.ex ee (fun h => h) (fun h => h))
    clear ee L5 C5 K5 hbz
    go_wp2_with fail
    go_ret
    exact ⟨rfl, L6.out⟩
  have HFM := Lib.hid hf.2.1
  have HOK := Lib.hid (show (cOf n l s).Ok from cOf_ok hf (by have := H8.out; omega) (fun i hi => HSUB.out.subs.ok i hi))
  have HGOOD := Lib.hid (x0F_good hf (by have := H8.out; omega) (fun i hi => HSUB.out.subs.ok i hi) ht)
  have HW := Lib.hid (fun lam tag va vb W (h1 : SubsC W va n l) (h2 : Sps W vb m s) => LNew_in lam tag va vb n m l s tries W h1 h2 (by have := H8.out; omega) hf ht)
  clear hf ht
  go_wp2_with fail
  refine (HW.out (fun _ => 0) 1 _ _ w2 (HSUB.out.below L4.out) (HSPS.out.below L4.out)).mono ?_; rintro e w3 ⟨o, rfl, hp, ho, hb⟩
  obtain ⟨cc, hcc⟩ : ∃ cc, cOf n l s = cc := ⟨_, rfl⟩
  obtain ⟨x0, hx0⟩ : ∃ x0, x0F n l s tries = x0 := ⟨_, rfl⟩
  have HX0 := Lib.hid (show x0.how = 0 ∧ x0.steps = 0 from by rw [← hx0]; exact ⟨rfl, rfl⟩)
  have HNX := Lib.hid (show cc.n = n from by rw [← hcc]; rfl)
  have HRK := Lib.hid (show ∀ i, cc.rk i = (l i).rank from by rw [← hcc]; exact fun i => rfl)
  have HP0 := Lib.hid hp
  rw [hcc] at HOK HGOOD hp
  rw [hx0] at HGOOD hp
  have HCCX := Lib.hid (And.intro hcc hx0)
  clear hcc hx0
  obtain ⟨N1, hN⟩ : ∃ N1, w2.heap.size = N1 := ⟨_, rfl⟩
  have hlt_cb : cb < N1 := hN ▸ C4.out.lt
  have hlt_g : g < N1 := hN ▸ K4.out.head.lt
  have hlt_h : h < N1 := hN ▸ K4.out.row.lt
  have hlo_ : w.heap.size ≤ N1 := hN ▸ L4.out.size
  rw [hN] at hp ho HP0
  have ORD5 := Lib.hid (show w.heap.size ≤ cb ∧ cb < h ∧ w.heap.size ≤ h ∧ h + 1 = g ∧ cb < N1 ∧ g < N1 ∧ h < N1 ∧ w.heap.size ≤ N1 ∧ N1 ≤ o from by have o_ := ORD3.out; omega)
  clear ORD3
  clear cq0 cq1 cq2
  have ee : Ex (fun _ => False) w2 w3 := Ex.of_below hb
  have L6 := Lib.hid (Ex.below L4.out ee (fun k hk => hk.elim))
  have C6 := Lib.hid (C4.out.ex ee (fun h => h))
  have K6 := Lib.hid (K4.out.ex ee (fun h => h) (fun h => h))
  have A6 := Lib.hid (hp)
  clear ee L4 C4 K4 hb hp ho hN hlo_ hlt_cb hlt_g hlt_h
  have k0 : ((0 : Int) != 0) = false := rfl
  have k3 : ((3 : Int) != 3) = false := rfl
  have kn : ((-1 : Int) != -1) = false := rfl
  have kl : (((0 : Nat) : Int) != 0) = false := rfl
  go_wp2_with fail
  refine (LGot_not (lamN (fun _ => 0) N1 1) 1 o cc x0 w3 A6.out (by rw [HX0.out.1]; decide)).mono ?_; rintro e w4 ⟨rfl, rfl⟩
  go_wp2_with fail
  have hA : PLive w3 (lamN (fun _ => 0) N1 1) 1 o (cOf n l s) ⟨tries, 1, ((0 : Nat) : Int), -1, 0, 0, 0, 0, 0, 0, [], zeros (cOf n l s).T, fun i => (l i).cur⟩ := by
    have h := A6.out
    rw [← HCCX.out.1, ← HCCX.out.2] at h
    exact h
  have hT : 0 < (cOf n l s).T := by have := HOK.out.t1; rw [← HCCX.out.1] at this; omega
  refine (LNil_any (lamN (fun _ => 0) N1 1) 1 o (cOf n l s) tries (-1) 0 0 0 0 0 [] (zeros (cOf n l s).T) (fun i => (l i).cur) 0 w3 hA hT).mono ?_; rintro e w4 ⟨rfl, hl, hx⟩
  clear hA hT
  have hx2 : Ex (fun k => N1 ≤ k) w3 w4 := hx.mono (fun k hk => LB_iff (N := N1) hk)
  clear hx
  have ee : Ex (fun k => N1 ≤ k) w3 w4 := hx2
  have L7 := Lib.hid (Ex.below L6.out ee (fun k hk => by have hk : N1 ≤ k := hk; have o_ := ORD5.out; omega))
  have C7 := Lib.hid (C6.out.ex ee (fun hT => by have hT : N1 ≤ cb := hT; have o_ := ORD5.out; omega))
  have K7 := Lib.hid (K6.out.ex ee (fun hT => by have hT : N1 ≤ g := hT; have o_ := ORD5.out; omega) (fun hT => by have hT : N1 ≤ h := hT; have o_ := ORD5.out; omega))
  have A7 := Lib.hid (hl)
  clear ee L6 C6 K6 A6 hl hx2
  obtain ⟨x3, hx3⟩ : ∃ x3 : PX, (⟨tries, 1, ((0 : Nat) : Int), -1, 0, 0, 0, 3, 0, 0, [], zeros (cOf n l s).T, fun i => (l i).cur⟩ : PX) = x3 := ⟨_, rfl⟩
  have HX3 := Lib.hid (show x3.how = 3 ∧ x3.steps = 0 from by rw [← hx3]; exact ⟨rfl, rfl⟩)
  have hA3 := A7.out
  rw [hx3] at hA3
  have A3 := Lib.hid hA3
  clear hA3 hx3 A7
  go_wp2_with fail
  refine (LDone_any (lamN (fun _ => 0) N1 1) 1 o (cOf n l s) x3 _ w4 A3.out (by rw [HX3.out.1]; decide)).mono ?_; rintro e w5 ⟨rfl, rfl⟩
  rw [HX3.out.1]
  go_wp2_with fail
  refine (LSteps_any (lamN (fun _ => 0) N1 1) 1 o (cOf n l s) x3 w4 A3.out).mono ?_; rintro e w5 ⟨rfl, rfl⟩
  rw [HX3.out.2]
  go_wp2_with fail
  refine (LAt_any (lamN (fun _ => 0) N1 1) 1 o (cOf n l s) x3 w4 A3.out).mono ?_; rintro e w5 ⟨rfl, rfl⟩
  rw [if_neg (by rw [HX3.out.1]; decide)]
  go_wp2_with fail
  refine (Touches_any g h (zeros 60) 0 w4 K7.out).mono ?_; rintro e w5 ⟨rfl, rfl⟩
  go_wp2_with fail
  clear k0 k3 kn kl A3
  have Y0 := Lib.hid (Ex.refl (fun k => k = g ∨ k = h) w4)
  go_loopw [13] (fun s13 wr => ∃ i : Nat, i ≤ 60 ∧ s13 = .int .i64 i ∧ (∃ (WS : List Int) (t : Int), BankAt wr g h WS t ∧ WS.length = 60) ∧ Ex (fun k => k = g ∨ k = h) w4 wr) (fun s13 _ => 60 - (intOf s13).toNat)
  case atStart => exact ⟨0, by omega, rfl, ⟨_, _, K7.out, by simp [zeros]⟩, Y0.out⟩
  case round =>
    obtain ⟨i, hi, rfl, ⟨WS, t, hk, hwl⟩, hy⟩ := hrel
    have KK := Lib.hid hk
    have HWL := Lib.hid hwl
    have Y1 := Lib.hid hy
    clear hk hwl
    have ee : Ex (fun k => k = g ∨ k = h) w4 wr := hy
    have L8 := Lib.hid (Ex.below L7.out ee (fun k hk => by have hk : k = g ∨ k = h := hk; have o_ := ORD5.out; omega))
    have C8 := Lib.hid (C7.out.ex ee (fun hT => by have hT : cb = g ∨ cb = h := hT; have o_ := ORD5.out; omega))
    have K8 := Lib.hid (KK.out)
    clear ee L7 C7 hy KK
    go_upto_region 15 with fail
    obtain ⟨cb, hcb⟩ : ∃ cb, decide ((i < 60) ∧ (i < len)) = cb := ⟨_, rfl⟩
    have Hcb := Lib.hid hcb
    clear hcb
    obtain ⟨wq, rfl⟩ : ∃ W : World, W = wr := ⟨_, rfl⟩
    go_cut [160] from 153 to 160 (fun v wx => v = .bool cb ∧ wx = wq)
    case first =>
      by_cases t0 : i < 60
      · have u0_0 : decide ((i : Int) < 60) = true := by first | exact decide_eq_true (by omega) | simpa using t0
        by_cases t1 : i < len
        · have u1_0 : decide ((i : Int) < (len : Int)) = true := by first | exact decide_eq_true (by omega) | simpa using t1
          have u1_1 : decide (i < len) = true := by first | exact decide_eq_true (by omega) | simpa using t1
          have hh := Hcb.out
          rw [decide_eq_true (show (i < 60) ∧ (i < len) from ⟨t0, t1⟩)] at hh
          subst hh
          clear t0 t1
          go_wp2_with fail
          go_meet
          exact ⟨rfl, rfl⟩
        · have u1_0 : decide ((i : Int) < (len : Int)) = false := by first | exact decide_eq_false (by omega) | simpa using t1
          have u1_1 : decide (i < len) = false := by first | exact decide_eq_false (by omega) | simpa using t1
          have hh := Hcb.out
          rw [decide_eq_false (show ¬ ((i < 60) ∧ (i < len)) from fun h => t1 h.2)] at hh
          subst hh
          clear t0 t1
          go_wp2_with fail
          go_meet
          exact ⟨rfl, rfl⟩
      · have u0_0 : decide ((i : Int) < 60) = false := by first | exact decide_eq_false (by omega) | simpa using t0
        have hh := Hcb.out
        rw [decide_eq_false (show ¬ ((i < 60) ∧ (i < len)) from fun h => t0 h.1)] at hh
        subst hh
        clear t0
        go_wp2_with fail
        go_meet
        exact ⟨rfl, rfl⟩
    case rest =>
      obtain ⟨rfl, hwc⟩ := hcut
      subst hwc
      cases cb with
      | true =>
        have hh := of_decide_eq_true Hcb.out
        have HI := Lib.hid hh
        clear hi
        have ki0 : (0 : Int) ≤ (i : Int) := by omega
        have ki1 : (i : Int) < (len : Int) := by omega
        have HM := Lib.hid (turn_no i 60 hh.1 (by decide))
        obtain ⟨b3, o3, rfl, hb3, hc3⟩ := HF3.out (by intro hz; have h1 := HLEN.out; rw [hz] at h1; simp at h1; omega)
        have hcell := (L8.out.cell (p := ⟨b3, o3 + i, none⟩) hb3).trans (hc3 i (by rw [HLEN.out]; omega))
        have hvf := HFIT.out _ (nth_mem (xs := ws0) (i := i) (by rw [HLEN.out]; omega))
        obtain ⟨vv, hvv⟩ : ∃ vv, nth ws0 i = vv := ⟨_, rfl⟩
        rw [hvv] at hcell hvf
        have HV := Lib.hid hvf
        clear hvf hvv hb3 hc3 hh
        go_wp2_with fail
        refine (Store_any g h WS t (i : Int) vv wc K8.out HV.out).mono ?_; rintro e wd ⟨rfl, hk, hx⟩
        clear hcell
        rw [errF_in (show inW WS (i : Int) from by unfold inW; rw [HWL.out]; have := HI.out; omega)]
        have YX := Lib.hid (Y1.out.trans (Ex.of_ex2 (T := fun k => k = g ∨ k = h) hx (.inl rfl) (.inr rfl)))
        have KX := Lib.hid hk
        have HWX := Lib.hid (show (setF WS (i : Int) vv).length = 60 from by unfold setF; split <;> simp [HWL.out])
        clear hk hx
        have ke : ((0 : Int) != 0) = false := rfl
        go_wp2_with fail
        go_roundw
        case rel => exact ⟨i + 1, by have := HI.out; omega, HM.out.1, ⟨_, _, KX.out, HWX.out⟩, YX.out⟩
        case measure => exact HM.out.2
      | false =>
        clear hi Hcb Y1 Y0
        obtain ⟨A_, c_, hv_, _, hgs⟩ := HSUB.out.subs.form
        have hpos : 0 < n := by have h1 := HOK.out.n1; have h2 := HNX.out; omega
        obtain ⟨b, off, hA1, hb1, hcs1⟩ := hgs hpos
        simp only [Value.slice.injEq, true_and] at hv_
        obtain ⟨rfl, rfl⟩ := hv_
        subst hA1
        obtain ⟨A_, c_, hv_, _, hgs2⟩ := HSPS.out.form
        have HMN := Lib.hid (show m = n from by have h := HFM.out; omega)
        obtain ⟨b2, off2, hA2, hb2, hcs2⟩ := hgs2 (by have h := HMN.out; omega)
        simp only [Value.slice.injEq, true_and] at hv_
        obtain ⟨rfl, rfl⟩ := hv_
        subst hA2
        have HPOS := Lib.hid hpos
        clear hgs hgs2 hpos
        have HCS1 := Lib.hid (show ∀ W, Below w.heap.size w W → _ from fun W hW => subs_news (w := W) (b := b) (off := off) (n := n) (l := l) (ob := .cells #[] 46) (fun i hi => by
          obtain ⟨x0, x1, x2, x3, x4, x5⟩ := hcs1 i hi
          exact ⟨(hW.cell (p := ⟨b, _, none⟩) hb1).trans x0, (hW.cell (p := ⟨b, _, none⟩) hb1).trans x1, (hW.cell (p := ⟨b, _, none⟩) hb1).trans x2, (hW.cell (p := ⟨b, _, none⟩) hb1).trans x3, (hW.cell (p := ⟨b, _, none⟩) hb1).trans x4, (hW.cell (p := ⟨b, _, none⟩) hb1).trans x5⟩))
        have HCS2 := Lib.hid (show ∀ W, Below w.heap.size w W → _ from fun W hW => spots_news (w := W) (b := b2) (off := off2) (n := n) (l := s) (ob := .cells #[] 48) (fun i hi => by
          obtain ⟨x0, x1, x2, x3, x4⟩ := hcs2 i (by have h := HMN.out; omega)
          exact ⟨(hW.cell (p := ⟨b2, _, none⟩) hb2).trans x0, (hW.cell (p := ⟨b2, _, none⟩) hb2).trans x1, (hW.cell (p := ⟨b2, _, none⟩) hb2).trans x2, (hW.cell (p := ⟨b2, _, none⟩) hb2).trans x3, (hW.cell (p := ⟨b2, _, none⟩) hb2).trans x4⟩))
        have HRANK := Lib.hid (show ∀ W, Below w.heap.size w W → ∀ i, i < n → W.cell? ⟨b, off + i * 6 + 1, none⟩ = some (.int .i64 (l i).rank) from fun W hW i hi => (hW.cell (p := ⟨b, _, none⟩) hb1).trans (hcs1 i hi).2.1)
        clear hcs1 hcs2 hb1 hb2
        have cq0 := C8.out.cell 0
        simp only [List.getElem?_toArray, List.getElem?_cons_succ, List.getElem?_cons_zero] at cq0
        have cq0a : (wc.alloc (.cells #[] 46)).cell? ⟨cb, 0, none⟩ = some (.slice (some ⟨b, off, none⟩) n c1) := Lib.cell?_alloc_some _ cq0
        obtain ⟨i0, hi0, hz0, hz1, hz2⟩ := info_parts sub_info
        go_wp2_with (at_builtin; refine wpList_append_own _ rfl _ _ 22 rfl wc.heap.size 46 i0 (.agg #[.int .i64 0, .int .i64 0, .int .u64 0, .int .i64 0, .int .u64 0, .int .u64 0]) 6 48 Try.underlying22 hi0 hz0 hz1 hz2 rfl (by decide) _ _ _ rfl (World.ownsRow_made wc #[] 0 (Nat.le_refl _) (Nat.zero_le _) rfl) ⟨b, off, none⟩ n c1 (subCs l n) rfl ?qc1 (HCS1.out wc L8.out) (subCs_one l n) ?qc4 ?qc5 ?qc6 ?_)
        case qc1 => rw [subCs_len]; omega
        case qc4 => have h := H8.out; unfold maxLen; omega
        case qc5 => have h := H8.out; omega
        case qc6 => simp
        intro v' w5 hown hgrow _
        obtain ⟨hown2, hbl⟩ := made_own (t := 22) hown hgrow
        obtain ⟨rl, cl, rfl, hcl, hrl, hsin⟩ := subsIn_of_own hown2 HPOS.out
        have HCL := Lib.hid hcl
        clear hown hgrow hown2 hcl
        clear cq0 cq0a
        have hlt_cb : cb < rl := Nat.lt_of_lt_of_le C8.out.lt hrl
        have hlt_g : g < rl := Nat.lt_of_lt_of_le K8.out.head.lt hrl
        have hlt_h : h < rl := Nat.lt_of_lt_of_le K8.out.row.lt hrl
        have hlo_ : w.heap.size ≤ rl := Nat.le_trans L8.out.size hrl
        have ORD9 := Lib.hid (show w.heap.size ≤ cb ∧ cb < h ∧ w.heap.size ≤ h ∧ h + 1 = g ∧ cb < N1 ∧ g < N1 ∧ h < N1 ∧ w.heap.size ≤ N1 ∧ N1 ≤ o ∧ cb < rl ∧ g < rl ∧ h < rl ∧ w.heap.size ≤ rl from by have o_ := ORD5.out; omega)
        clear ORD5
        have ee : Ex (fun _ => False) wc w5 := Ex.of_below hbl
        have L10 := Lib.hid (Ex.below L8.out ee (fun k hk => hk.elim))
        have C10 := Lib.hid (C8.out.ex ee (fun h => h))
        have K10 := Lib.hid (K8.out.ex ee (fun h => h) (fun h => h))
        have S10 := Lib.hid (hsin)
        clear ee L8 C8 K8 hbl hrl hsin hlt_cb hlt_g hlt_h hlo_
        have cq1 := C10.out.cell 1
        simp only [List.getElem?_toArray, List.getElem?_cons_succ, List.getElem?_cons_zero] at cq1
        have cq1a : (w5.alloc (.cells #[] 48)).cell? ⟨cb, 1, none⟩ = some (.slice (some ⟨b2, off2, none⟩) m c2) := Lib.cell?_alloc_some _ cq1
        obtain ⟨i1, hi1, hy0, hy1, hy2⟩ := info_parts spot_info
        go_wp2_with (at_builtin; refine wpList_append_own _ rfl _ _ 23 rfl w5.heap.size 48 i1 (.agg #[.int .i64 0, .int .i64 0, .int .i64 0, .int .i64 0, .int .i64 0]) 5 40 Try.underlying23 hi1 hy0 hy1 hy2 rfl (by decide) _ _ _ rfl (World.ownsRow_made w5 #[] 0 (Nat.le_refl _) (Nat.zero_le _) rfl) ⟨b2, off2, none⟩ m c2 (scells s n) rfl ?qd1 (HCS2.out w5 L10.out) (scells_one s n) ?qd4 ?qd5 ?qd6 ?_)
        case qd1 => rw [scells_len]; have h := HMN.out; omega
        case qd4 => have h := H8.out; unfold maxLen; omega
        case qd5 => have h := H8.out; omega
        case qd6 => simp
        intro v' w6 hown hgrow _
        obtain ⟨hown2, hbl⟩ := made_own (t := 23) hown hgrow
        have hmn := HMN.out.symm
        subst hmn
        obtain ⟨rp, cp, rfl, hrp, hpin⟩ := spIn_of_own hown2 HPOS.out
        clear hown hgrow hown2
        clear cq1 cq1a
        have hlt_cb : cb < rp := Nat.lt_of_lt_of_le C10.out.lt hrp
        have hlt_g : g < rp := Nat.lt_of_lt_of_le K10.out.head.lt hrp
        have hlt_h : h < rp := Nat.lt_of_lt_of_le K10.out.row.lt hrp
        have hlt_rl : rl < rp := Nat.lt_of_lt_of_le S10.out.lt hrp
        have hlo_ : w.heap.size ≤ rp := Nat.le_trans L10.out.size hrp
        have ORD11 := Lib.hid (show w.heap.size ≤ cb ∧ cb < h ∧ w.heap.size ≤ h ∧ h + 1 = g ∧ cb < N1 ∧ g < N1 ∧ h < N1 ∧ w.heap.size ≤ N1 ∧ N1 ≤ o ∧ cb < rl ∧ g < rl ∧ h < rl ∧ w.heap.size ≤ rl ∧ cb < rp ∧ g < rp ∧ h < rp ∧ rl < rp ∧ w.heap.size ≤ rp from by have o_ := ORD9.out; omega)
        clear ORD9
        have ee : Ex (fun _ => False) w5 w6 := Ex.of_below hbl
        have L12 := Lib.hid (Ex.below L10.out ee (fun k hk => hk.elim))
        have C12 := Lib.hid (C10.out.ex ee (fun h => h))
        have K12 := Lib.hid (K10.out.ex ee (fun h => h) (fun h => h))
        have S12 := Lib.hid (S10.out.ex ee (fun h => h))
        have T12 := Lib.hid (hpin)
        clear ee L10 C10 K10 S10 hbl hrp hpin i0 hi0 hz0 hz1 hz2 i1 hi1 hy0 hy1 hy2 hlt_cb hlt_g hlt_h hlt_rl hlo_
        have cq2 := C12.out.cell 2
        simp only [List.getElem?_toArray, List.getElem?_cons_succ, List.getElem?_cons_zero] at cq2
        go_wp2_with fail
        clear cq2
        refine (HW.out (fun _ => 0) 1 _ _ w6 (S12.out.subsC (by have h := H8.out; unfold maxLen; omega) HCL.out (fun i hi => HSUB.out.subs.ok i hi)) (T12.out.sps (by have h := H8.out; unfold maxLen; omega))).mono ?_; rintro e w7 ⟨op, rfl, hp, ho, hb⟩
        rw [HCCX.out.1, HCCX.out.2] at hp
        obtain ⟨NP, hN⟩ : ∃ NP, w6.heap.size = NP := ⟨_, rfl⟩
        have hlt_cb : cb < NP := hN ▸ C12.out.lt
        have hlt_g : g < NP := hN ▸ K12.out.head.lt
        have hlt_h : h < NP := hN ▸ K12.out.row.lt
        have hlt_rl : rl < NP := hN ▸ S12.out.lt
        have hlt_rp : rp < NP := hN ▸ T12.out.lt
        have hlo_ : w.heap.size ≤ NP := hN ▸ L12.out.size
        rw [hN] at hp ho
        have ORD13 := Lib.hid (show w.heap.size ≤ cb ∧ cb < h ∧ w.heap.size ≤ h ∧ h + 1 = g ∧ cb < N1 ∧ g < N1 ∧ h < N1 ∧ w.heap.size ≤ N1 ∧ N1 ≤ o ∧ cb < rl ∧ g < rl ∧ h < rl ∧ w.heap.size ≤ rl ∧ cb < rp ∧ g < rp ∧ h < rp ∧ rl < rp ∧ w.heap.size ≤ rp ∧ cb < NP ∧ g < NP ∧ h < NP ∧ rl < NP ∧ rp < NP ∧ w.heap.size ≤ NP ∧ NP ≤ op from by have o_ := ORD11.out; omega)
        clear ORD11
        have ee : Ex (fun _ => False) w6 w7 := Ex.of_below hb
        have L14 := Lib.hid (Ex.below L12.out ee (fun k hk => hk.elim))
        have C14 := Lib.hid (C12.out.ex ee (fun h => h))
        have K14 := Lib.hid (K12.out.ex ee (fun h => h) (fun h => h))
        have S14 := Lib.hid (S12.out.ex ee (fun h => h))
        have T14 := Lib.hid (T12.out.ex ee (fun h => h))
        have P14 := Lib.hid (hp)
        clear ee L12 C12 K12 S12 T12 hb hp ho hN hlo_ hlt_cb hlt_g hlt_h hlt_rl hlt_rp
        have cq0 := C14.out.cell 0
        have cq1 := C14.out.cell 1
        have cq2 := C14.out.cell 2
        simp only [List.getElem?_toArray, List.getElem?_cons_succ, List.getElem?_cons_zero] at cq0 cq1 cq2
        go_wp2_with fail
        clear cq0 cq1 cq2
        refine (HW.out (lamN (fun _ => 0) NP 1) 2 _ _ w7 (HSUB.out.below L14.out) (HSPS.out.below L14.out)).mono ?_; rintro e w8 ⟨oq, rfl, hp, ho, hb⟩
        rw [HCCX.out.1, HCCX.out.2] at hp
        obtain ⟨NQ, hN⟩ : ∃ NQ, w7.heap.size = NQ := ⟨_, rfl⟩
        have hlt_cb : cb < NQ := hN ▸ C14.out.lt
        have hlt_g : g < NQ := hN ▸ K14.out.head.lt
        have hlt_h : h < NQ := hN ▸ K14.out.row.lt
        have hlt_rl : rl < NQ := hN ▸ S14.out.lt
        have hlt_rp : rp < NQ := hN ▸ T14.out.lt
        have hlt_op : op < NQ := hN ▸ P14.out.lt
        have hlo_ : w.heap.size ≤ NQ := hN ▸ L14.out.size
        rw [hN] at hp ho
        have ORD15 := Lib.hid (show w.heap.size ≤ cb ∧ cb < h ∧ w.heap.size ≤ h ∧ h + 1 = g ∧ cb < N1 ∧ g < N1 ∧ h < N1 ∧ w.heap.size ≤ N1 ∧ N1 ≤ o ∧ cb < rl ∧ g < rl ∧ h < rl ∧ w.heap.size ≤ rl ∧ cb < rp ∧ g < rp ∧ h < rp ∧ rl < rp ∧ w.heap.size ≤ rp ∧ cb < NP ∧ g < NP ∧ h < NP ∧ rl < NP ∧ rp < NP ∧ w.heap.size ≤ NP ∧ NP ≤ op ∧ cb < NQ ∧ g < NQ ∧ h < NQ ∧ rl < NQ ∧ rp < NQ ∧ op < NQ ∧ w.heap.size ≤ NQ ∧ NQ ≤ oq from by have o_ := ORD13.out; omega)
        clear ORD13
        have hp2 : PLive w7 (lamN (lamN (fun _ => 0) NP 1) NQ 2) 1 op cc x0 := P14.out.relam (fun k hk => lamN_lt (by omega))
        obtain ⟨lam, hlam⟩ : ∃ lam, lamN (lamN (fun _ => 0) NP 1) NQ 2 = lam := ⟨_, rfl⟩
        have HL0 := Lib.hid (show ∀ k, k < NP → lam k = 0 from fun k hk => by rw [← hlam, lamN_lt (by have o_ := ORD15.out; omega), lamN_lt hk])
        rw [hlam] at hp hp2
        clear hlam
        have hp3 := hp2.bl hb
        have ee : Ex (fun _ => False) w7 w8 := Ex.of_below hb
        have L16 := Lib.hid (Ex.below L14.out ee (fun k hk => hk.elim))
        have C16 := Lib.hid (C14.out.ex ee (fun h => h))
        have K16 := Lib.hid (K14.out.ex ee (fun h => h) (fun h => h))
        have S16 := Lib.hid (S14.out.ex ee (fun h => h))
        have T16 := Lib.hid (T14.out.ex ee (fun h => h))
        have P16 := Lib.hid (hp3)
        have Q16 := Lib.hid (hp)
        clear ee L14 C14 K14 S14 T14 P14 hb hp2 hp3 hp ho hN hlo_ hlt_cb hlt_g hlt_h hlt_rl hlt_rp hlt_op
        have k0 : ((0 : Int) != 0) = false := rfl
        go_upto_region 25 with fail
        clear k0
        go_wp2_with fail
        have Z0 := Lib.hid (Ex.refl (fun k => k = rl ∨ k = rp) w8)
        go_loopw [18] (fun s18 wr => ∃ i : Nat, i ≤ n ∧ s18 = .int .i64 i ∧ (∃ l', SubsIn wr rl n l') ∧ (∃ s', SpIn wr rp n s') ∧ Ex (fun k => k = rl ∨ k = rp) w8 wr) (fun s18 _ => n - (intOf s18).toNat)
        case atStart => exact ⟨0, by omega, rfl, ⟨_, S16.out⟩, ⟨_, T16.out⟩, Z0.out⟩
        case round =>
          obtain ⟨i, hi, rfl, ⟨l', hs'⟩, ⟨s', ht'⟩, hz⟩ := hrel
          have SS := Lib.hid hs'
          have TT := Lib.hid ht'
          have Z1 := Lib.hid hz
          clear hs' ht' hz
          by_cases hlt : i < n
          · have kd : decide ((i : Int) < (n : Int)) = true := decide_eq_true (by omega)
            have ki0 : (0 : Int) ≤ (i : Int) := by omega
            have ki1 : (i : Int) < (n : Int) := by omega
            have HI := Lib.hid hlt
            have HM := Lib.hid (turn_no i n hlt (by have h := H8.out; unfold maxLen; omega))
            clear hi hlt
            have x2 : wr.cell? ⟨rl, i * 6 + 2, none⟩ = _ := SS.out.cells i HI.out 2 (by decide)
            have z2 := SS.out.fro (i * 6 + 2)
            simp only [subC] at x2
            go_upto_region 29 with fail
            clear x2 z2
            have e1 := (Ex.refl (fun k => k = rl ∨ k = rp) wr).setCell (q := ⟨rl, i * 6 + 2, none⟩) (.inl (.inl rfl)) (.int .u64 77)
            obtain ⟨l2, hl2⟩ := SS.out.setNext HI.out 77
            have S2 := Lib.hid hl2
            have T2 := Lib.hid (TT.out.ex ((Ex.refl (fun k => k = rl) wr).setCell (q := ⟨rl, i * 6 + 2, none⟩) (.inl rfl) (.int .u64 77)) (by have o_ := ORD15.out; omega))
            have Z2 := Lib.hid (Z1.out.trans e1)
            clear e1 hl2 SS TT Z1
            generalize wr.setCell ⟨rl, i * 6 + 2, none⟩ (.int .u64 77) = wa at *
            have x0 : wa.cell? ⟨rl, i * 6, none⟩ = _ := S2.out.cells i HI.out 0 (by decide)
            have z0 := S2.out.fro (i * 6)
            simp only [subC] at x0
            go_upto_region 30 with fail
            clear x0 z0
            have e1 := (Ex.refl (fun k => k = rl ∨ k = rp) wa).setCell (q := ⟨rl, i * 6, none⟩) (.inl (.inl rfl)) (.int .i64 99)
            obtain ⟨l3, hl3⟩ := S2.out.setTopic HI.out 99
            have S3 := Lib.hid hl3
            have T3 := Lib.hid (T2.out.ex ((Ex.refl (fun k => k = rl) wa).setCell (q := ⟨rl, i * 6, none⟩) (.inl rfl) (.int .i64 99)) (by have o_ := ORD15.out; omega))
            have Z3 := Lib.hid (Z2.out.trans e1)
            clear e1 hl3 S2 T2 Z2
            generalize wa.setCell ⟨rl, i * 6, none⟩ (.int .i64 99) = wb at *
            have x1 : wb.cell? ⟨rp, i * 5 + 1, none⟩ = _ := T3.out.cells i HI.out 1 (by decide)
            have z1 := T3.out.fro (i * 5 + 1)
            simp only [scell] at x1
            go_wp2_with fail
            clear x1 z1
            have e1 := (Ex.refl (fun k => k = rl ∨ k = rp) wb).setCell (q := ⟨rp, i * 5 + 1, none⟩) (.inl (.inr rfl)) (.int .i64 3)
            obtain ⟨s3, hs3⟩ := T3.out.setSeq HI.out 3
            have T4 := Lib.hid hs3
            have S4 := Lib.hid (S3.out.ex ((Ex.refl (fun k => k = rp) wb).setCell (q := ⟨rp, i * 5 + 1, none⟩) (.inl rfl) (.int .i64 3)) (by have o_ := ORD15.out; omega))
            have Z4 := Lib.hid (Z3.out.trans e1)
            clear e1 hs3 S3 T3 Z3
            generalize wb.setCell ⟨rp, i * 5 + 1, none⟩ (.int .i64 3) = wc2 at *
            go_roundw
            case rel => exact ⟨i + 1, HI.out, HM.out.1, ⟨_, S4.out⟩, ⟨_, T4.out⟩, Z4.out⟩
            case measure => exact HM.out.2
          · have kd : decide ((i : Int) < (n : Int)) = false := decide_eq_false (by omega)
            have kd2 : decide (i < n) = false := decide_eq_false hlt
            have kd3 : ¬ i < n := hlt
            clear hi hlt Z0
            have ee : Ex (fun k => k = rl ∨ k = rp) w8 wr := Z1.out
            have L17 := Lib.hid (Ex.below L16.out ee (fun k hk => by have hk : k = rl ∨ k = rp := hk; have o_ := ORD15.out; omega))
            have C17 := Lib.hid (C16.out.ex ee (fun hT => by have hT : cb = rl ∨ cb = rp := hT; have o_ := ORD15.out; omega))
            have K17 := Lib.hid (K16.out.ex ee (fun hT => by have hT : g = rl ∨ g = rp := hT; have o_ := ORD15.out; omega) (fun hT => by have hT : h = rl ∨ h = rp := hT; have o_ := ORD15.out; omega))
            have P17 := Lib.hid (P16.out.ex ee (fun k hk => by have h0 := HL0.out k (by have hk : k = rl ∨ k = rp := hk; have o_ := ORD15.out; omega); rw [h0]; decide))
            have Q17 := Lib.hid (Q16.out.ex ee (fun k hk => by have h0 := HL0.out k (by have hk : k = rl ∨ k = rp := hk; have o_ := ORD15.out; omega); rw [h0]; decide))
            clear ee L16 C16 K16 P16 Q16 Z1
            clear SS TT
            go_wp2_with fail
            obtain ⟨wA, rfl⟩ : ∃ W : World, W = wr := ⟨_, rfl⟩
            have V0 := Lib.hid (Ex.refl (fun k => k = g ∨ k = h ∨ NP ≤ k) wA)
            have HG0 := Lib.hid HGOOD.out
            go_loopw [19, 20, 21] (fun s19 s20 s21 wr => ∃ (i : Nat) (x : PX), i ≤ 100 ∧ s19 = .int .i64 x.how ∧ s20 = .int .i64 x.how ∧ s21 = .int .i64 i ∧ PGood cc (fun i => (l i).cur) x (i : Int) ∧ (∃ lam, (∀ k, k < NP → lam k = 0) ∧ PLive wr lam 1 op cc x ∧ PLive wr lam 2 oq cc x) ∧ (∃ (WS : List Int) (t : Int), BankAt wr g h WS t) ∧ Ex (fun k => k = g ∨ k = h ∨ NP ≤ k) wA wr) (fun s19 s20 s21 _ => 100 - (intOf s21).toNat)
            case atStart => exact ⟨0, x0, by omega, by rw [HX0.out.1], by rw [HX0.out.1], rfl, HG0.out, ⟨lam, HL0.out, P17.out, Q17.out⟩, ⟨_, _, K17.out⟩, V0.out⟩
            case round =>
              obtain ⟨i, x, hi, rfl, rfl, rfl, hpg, ⟨lam, hlow, hp, hq⟩, ⟨WS, t, hk⟩, hy⟩ := hrel
              have PG := Lib.hid hpg
              have HLW := Lib.hid hlow
              have PP := Lib.hid hp
              have QQ := Lib.hid hq
              have KK := Lib.hid hk
              have V1 := Lib.hid hy
              have HI0 := Lib.hid hi
              clear hpg hlow hp hq hk hi
              have ee : Ex (fun k => k = g ∨ k = h ∨ NP ≤ k) wA wr := hy
              have L18 := Lib.hid (Ex.below L17.out ee (fun k hk => by have hk : k = g ∨ k = h ∨ NP ≤ k := hk; have o_ := ORD15.out; omega))
              have C18 := Lib.hid (C17.out.ex ee (fun hT => by have hT : cb = g ∨ cb = h ∨ NP ≤ cb := hT; have o_ := ORD15.out; omega))
              have K18 := Lib.hid (KK.out)
              have P18 := Lib.hid (PP.out)
              have Q18 := Lib.hid (QQ.out)
              clear ee L17 C17 hy KK PP QQ
              obtain ⟨how, hhow⟩ : ∃ how, x.how = how := ⟨_, rfl⟩
              have HHW := Lib.hid hhow
              rw [hhow]
              clear hhow
              go_upto_region 34 with fail
              obtain ⟨ce, hce⟩ : ∃ ce, decide ((i < 100) ∧ (how = 0)) = ce := ⟨_, rfl⟩
              have Hce := Lib.hid hce
              clear hce
              obtain ⟨wq, rfl⟩ : ∃ W : World, W = wr := ⟨_, rfl⟩
              go_cut [231] from 222 to 231 (fun v wx => v = .bool ce ∧ wx = wq)
              case first =>
                by_cases t0 : i < 100
                · have u0_0 : decide ((i : Int) < 100) = true := by first | exact decide_eq_true (by omega) | simpa using t0
                  have u0_1 : decide (i < 100) = true := by first | exact decide_eq_true (by omega) | simpa using t0
                  by_cases t1 : how = 0
                  · have u1_0 : (how == 0) = true := by first | exact decide_eq_true (by omega) | simpa using t1
                    have hh := Hce.out
                    rw [decide_eq_true (show (i < 100) ∧ (how = 0) from ⟨t0, t1⟩)] at hh
                    subst hh
                    clear t0 t1
                    go_wp2_with fail
                    go_meet
                    exact ⟨rfl, rfl⟩
                  · have u1_0 : (how == 0) = false := by first | exact decide_eq_false (by omega) | simpa using t1
                    have hh := Hce.out
                    rw [decide_eq_false (show ¬ ((i < 100) ∧ (how = 0)) from fun h => t1 h.2)] at hh
                    subst hh
                    clear t0 t1
                    go_wp2_with fail
                    go_meet
                    exact ⟨rfl, rfl⟩
                · have u0_0 : decide ((i : Int) < 100) = false := by first | exact decide_eq_false (by omega) | simpa using t0
                  have u0_1 : decide (i < 100) = false := by first | exact decide_eq_false (by omega) | simpa using t0
                  have hh := Hce.out
                  rw [decide_eq_false (show ¬ ((i < 100) ∧ (how = 0)) from fun h => t0 h.1)] at hh
                  subst hh
                  clear t0
                  go_wp2_with fail
                  go_meet
                  exact ⟨rfl, rfl⟩
              case rest =>
                obtain ⟨rfl, hwc⟩ := hcut
                subst hwc
                cases ce with
                | true =>
                  have hh := of_decide_eq_true Hce.out
                  have HI := Lib.hid hh.1
                  have HH0 := Lib.hid (HHW.out.trans hh.2)
                  clear hh V0
                  have HM := Lib.hid (turn_no i 100 HI.out (by decide))
                  have HSZ := Lib.hid (show NP ≤ wc.heap.size from by have h1 := P18.out.lt; have o_ := ORD15.out; omega)
                  have HGH := Lib.hid (show g < NP ∧ h < NP from by have o_ := ORD15.out; omega)
                  have HLG := Lib.hid (show lam g = 0 ∧ lam h = 0 from ⟨HLW.out _ HGH.out.1, HLW.out _ HGH.out.2⟩)
                  have HWF := Lib.hid (show ∀ y ∈ WS, 0 ≤ y ∧ y ≤ 18446744073709551615 from K18.out.fit)
                  have HIV := Lib.hid (show x.how = 0 → PInv cc x from fun h => PG.out.inv (by have h1 := HI.out; omega) h)
                  go_wp2_with fail
                  refine (LStep_any lam 1 g h op WS t cc x wc K18.out P18.out HIV.out (by rw [HLG.out.1]; decide) (by rw [HLG.out.2]; decide)).mono ?_; rintro e wd ⟨rfl, hk, hl, hx⟩
                  have hq2 := Q18.out.beside hx (by decide) (by rw [HLG.out.1]; decide) (by rw [HLG.out.2]; decide)
                  have hlow2 := low_keep (t := 1) HLW.out HSZ.out
                  have hx2 : Ex (fun k => k = g ∨ k = h ∨ NP ≤ k) wc wd := hx.mono (fun k hk => hk.imp id (fun h => h.imp id (fun h => low_ge HLW.out (by decide) h)))
                  have K2 := Lib.hid hk
                  have P2 := Lib.hid hl
                  have Q2 := Lib.hid hq2
                  have LW2 := Lib.hid hlow2
                  have V2 := Lib.hid (V1.out.trans hx2)
                  have HSZ2 := Lib.hid (Nat.le_trans HSZ.out hx.size)
                  clear hk hl hx hq2 hlow2 hx2
                  obtain ⟨lam2, hlam2⟩ : ∃ lam2, lamN lam wc.heap.size 1 = lam2 := ⟨_, rfl⟩
                  rw [hlam2] at P2 Q2 LW2
                  clear hlam2 K18 P18 Q18 HLG HSZ V1
                  have HLG2 := Lib.hid (show lam2 g = 0 ∧ lam2 h = 0 from ⟨LW2.out _ HGH.out.1, LW2.out _ HGH.out.2⟩)
                  go_wp2_with fail
                  refine (LStep_any lam2 2 g h oq WS _ cc x wd K2.out Q2.out HIV.out (by rw [HLG2.out.1]; decide) (by rw [HLG2.out.2]; decide)).mono ?_; rintro e we ⟨rfl, hk, hl, hx⟩
                  have hp3 := P2.out.beside hx (by decide) (by rw [HLG2.out.1]; decide) (by rw [HLG2.out.2]; decide)
                  have hlow3 := low_keep (t := 2) LW2.out HSZ2.out
                  have hx3 : Ex (fun k => k = g ∨ k = h ∨ NP ≤ k) wd we := hx.mono (fun k hk => hk.imp id (fun h => h.imp id (fun h => low_ge LW2.out (by decide) h)))
                  have K3 := Lib.hid hk
                  have P3 := Lib.hid hp3
                  have Q3 := Lib.hid hl
                  have LW3 := Lib.hid hlow3
                  have V3 := Lib.hid (V2.out.trans hx3)
                  have PG2 := Lib.hid (show PGood cc (fun i => (l i).cur) (pStepF cc WS x) ((i + 1 : Nat) : Int) from PG.out.step HWF.out)
                  clear hk hl hx hp3 hlow3 hx3 K2 P2 Q2 LW2 V2
                  generalize pStepF cc WS x = x' at *
                  generalize lamN lam2 wd.heap.size 2 = lam3 at *
                  go_wp2_with fail
                  go_roundw
                  case rel => exact ⟨i + 1, x', HI.out, rfl, rfl, HM.out.1, PG2.out, ⟨lam3, LW3.out, P3.out, Q3.out⟩, ⟨_, _, K3.out⟩, V3.out⟩
                  case measure => exact HM.out.2
                | false =>
                  clear Hce V1 V0
                  go_wp2_with fail
                  obtain ⟨B1, hB1⟩ : ∃ B1, wc.heap.size = B1 := ⟨_, rfl⟩
                  have hlt_cb : cb < B1 := hB1 ▸ C18.out.lt
                  have hlt_g : g < B1 := hB1 ▸ K18.out.head.lt
                  have hlt_h : h < B1 := hB1 ▸ K18.out.row.lt
                  have hlt_op : op < B1 := hB1 ▸ P18.out.lt
                  have hlt_oq : oq < B1 := hB1 ▸ Q18.out.lt
                  have hlo_ : w.heap.size ≤ B1 := hB1 ▸ L18.out.size
                  have ORD19 := Lib.hid (show w.heap.size ≤ cb ∧ cb < h ∧ w.heap.size ≤ h ∧ h + 1 = g ∧ cb < N1 ∧ g < N1 ∧ h < N1 ∧ w.heap.size ≤ N1 ∧ N1 ≤ o ∧ cb < rl ∧ g < rl ∧ h < rl ∧ w.heap.size ≤ rl ∧ cb < rp ∧ g < rp ∧ h < rp ∧ rl < rp ∧ w.heap.size ≤ rp ∧ cb < NP ∧ g < NP ∧ h < NP ∧ rl < NP ∧ rp < NP ∧ w.heap.size ≤ NP ∧ NP ≤ op ∧ cb < NQ ∧ g < NQ ∧ h < NQ ∧ rl < NQ ∧ rp < NQ ∧ op < NQ ∧ w.heap.size ≤ NQ ∧ NQ ≤ oq ∧ cb < B1 ∧ g < B1 ∧ h < B1 ∧ op < B1 ∧ oq < B1 ∧ w.heap.size ≤ B1 from by have o_ := ORD15.out; omega)
                  clear ORD15
                  clear hlo_ hlt_cb hlt_g hlt_h hlt_op hlt_oq
                  have hp9 : PLive wc (lamN lam B1 0) 1 op cc x := P18.out.relam (fun k hk => lamN_lt (by omega))
                  have hq9 : PLive wc (lamN lam B1 0) 2 oq cc x := Q18.out.relam (fun k hk => lamN_lt (by omega))
                  have HLF := Lib.hid (show ∀ k, B1 ≤ k → lamN lam B1 0 k = 0 from fun k hk => lamN_ge hk)
                  obtain ⟨lamF, hlamF⟩ : ∃ lamF, lamN lam B1 0 = lamF := ⟨_, rfl⟩
                  rw [hlamF] at hp9 hq9 HLF
                  have PF := Lib.hid hp9
                  have QF := Lib.hid hq9
                  clear hp9 hq9 hlamF P18 Q18
                  have HLEN9 := Lib.hid (show x.how = 1 → x.words.length ≤ 64 from fun h => PG.out.len h)
                  have HCOK := Lib.hid (show x.how = 1 → ∀ i, i < cc.n → (x.cu i).Ok from fun h i hi => (PG.out.behind h i hi).2)
                  have HOKC := Lib.hid PG.out.ok
                  have HGL := Lib.hid (show (gotW x).length ≤ 64 from by
                    unfold gotW
                    by_cases hh : x.how = 1
                    · rw [if_pos hh]; exact HLEN9.out hh
                    · rw [if_neg hh]; decide)
                  have HGN := Lib.hid (show gotN cc x ≤ n from by
                    unfold gotN
                    by_cases hh : x.how = 1
                    · rw [if_pos hh]; exact Nat.le_of_eq HNX.out
                    · rw [if_neg hh]; omega)
                  refine (LGot_both lamF 1 op cc x wc PF.out HLEN9.out).mono ?_; rintro e wd ⟨A4, c4, rfl, hown, hb⟩
                  have hrb := RowB.of_own hown
                  obtain ⟨E1, hE⟩ : ∃ E1, wd.heap.size = E1 := ⟨_, rfl⟩
                  have hEB : B1 ≤ E1 := by rw [← hE, ← hB1]; exact hb.size
                  rw [hE, hB1] at hrb
                  have ORD20 := Lib.hid (show w.heap.size ≤ cb ∧ cb < h ∧ w.heap.size ≤ h ∧ h + 1 = g ∧ cb < N1 ∧ g < N1 ∧ h < N1 ∧ w.heap.size ≤ N1 ∧ N1 ≤ o ∧ cb < rl ∧ g < rl ∧ h < rl ∧ w.heap.size ≤ rl ∧ cb < rp ∧ g < rp ∧ h < rp ∧ rl < rp ∧ w.heap.size ≤ rp ∧ cb < NP ∧ g < NP ∧ h < NP ∧ rl < NP ∧ rp < NP ∧ w.heap.size ≤ NP ∧ NP ≤ op ∧ cb < NQ ∧ g < NQ ∧ h < NQ ∧ rl < NQ ∧ rp < NQ ∧ op < NQ ∧ w.heap.size ≤ NQ ∧ NQ ≤ oq ∧ cb < B1 ∧ g < B1 ∧ h < B1 ∧ op < B1 ∧ oq < B1 ∧ w.heap.size ≤ B1 ∧ B1 ≤ E1 from by have o_ := ORD19.out; omega)
                  clear ORD19
                  have ee : Ex (fun _ => False) wc wd := Ex.of_below hb
                  have L21 := Lib.hid (Ex.below L18.out ee (fun k hk => hk.elim))
                  have C21 := Lib.hid (C18.out.ex ee (fun h => h))
                  have K21 := Lib.hid (K18.out.ex ee (fun h => h) (fun h => h))
                  have P21 := Lib.hid (PF.out.ex ee (fun _ h => h.elim))
                  have Q21 := Lib.hid (QF.out.ex ee (fun _ h => h.elim))
                  have R121 := Lib.hid (hrb)
                  clear ee L18 C18 K18 PF QF hb hown hrb hEB hB1
                  have hE1 := hE
                  clear hE
                  go_wp2_with fail
                  refine (LGot_both lamF 2 oq cc x wd Q21.out HLEN9.out).mono ?_; rintro e we ⟨A5, c5, rfl, hown, hb⟩
                  have hrb := RowB.of_own hown
                  obtain ⟨E2, hE⟩ : ∃ E2, we.heap.size = E2 := ⟨_, rfl⟩
                  have hEB : E1 ≤ E2 := by rw [← hE, ← hE1]; exact hb.size
                  rw [hE, hE1] at hrb
                  have ORD22 := Lib.hid (show w.heap.size ≤ cb ∧ cb < h ∧ w.heap.size ≤ h ∧ h + 1 = g ∧ cb < N1 ∧ g < N1 ∧ h < N1 ∧ w.heap.size ≤ N1 ∧ N1 ≤ o ∧ cb < rl ∧ g < rl ∧ h < rl ∧ w.heap.size ≤ rl ∧ cb < rp ∧ g < rp ∧ h < rp ∧ rl < rp ∧ w.heap.size ≤ rp ∧ cb < NP ∧ g < NP ∧ h < NP ∧ rl < NP ∧ rp < NP ∧ w.heap.size ≤ NP ∧ NP ≤ op ∧ cb < NQ ∧ g < NQ ∧ h < NQ ∧ rl < NQ ∧ rp < NQ ∧ op < NQ ∧ w.heap.size ≤ NQ ∧ NQ ≤ oq ∧ cb < B1 ∧ g < B1 ∧ h < B1 ∧ op < B1 ∧ oq < B1 ∧ w.heap.size ≤ B1 ∧ B1 ≤ E1 ∧ E1 ≤ E2 from by have o_ := ORD20.out; omega)
                  clear ORD20
                  have ee : Ex (fun _ => False) wd we := Ex.of_below hb
                  have L23 := Lib.hid (Ex.below L21.out ee (fun k hk => hk.elim))
                  have C23 := Lib.hid (C21.out.ex ee (fun h => h))
                  have K23 := Lib.hid (K21.out.ex ee (fun h => h) (fun h => h))
                  have P23 := Lib.hid (P21.out.ex ee (fun _ h => h.elim))
                  have Q23 := Lib.hid (Q21.out.ex ee (fun _ h => h.elim))
                  have R123 := Lib.hid (R121.out.ex ee (fun _ _ _ h => h))
                  have R223 := Lib.hid (hrb)
                  clear ee L21 C21 K21 P21 Q21 R121 hb hown hrb hEB hE1
                  have hE2 := hE
                  clear hE
                  go_wp2_with fail
                  refine (LSubs_both lamF 1 op cc x we P23.out HOKC.out HCOK.out).mono ?_; rintro e wf ⟨A6, c6, rfl, hsr, hb⟩
                  have hrb := hsr.to_b
                  obtain ⟨E3, hE⟩ : ∃ E3, wf.heap.size = E3 := ⟨_, rfl⟩
                  have hEB : E2 ≤ E3 := by rw [← hE, ← hE2]; exact hb.size
                  rw [hE, hE2] at hrb
                  have ORD24 := Lib.hid (show w.heap.size ≤ cb ∧ cb < h ∧ w.heap.size ≤ h ∧ h + 1 = g ∧ cb < N1 ∧ g < N1 ∧ h < N1 ∧ w.heap.size ≤ N1 ∧ N1 ≤ o ∧ cb < rl ∧ g < rl ∧ h < rl ∧ w.heap.size ≤ rl ∧ cb < rp ∧ g < rp ∧ h < rp ∧ rl < rp ∧ w.heap.size ≤ rp ∧ cb < NP ∧ g < NP ∧ h < NP ∧ rl < NP ∧ rp < NP ∧ w.heap.size ≤ NP ∧ NP ≤ op ∧ cb < NQ ∧ g < NQ ∧ h < NQ ∧ rl < NQ ∧ rp < NQ ∧ op < NQ ∧ w.heap.size ≤ NQ ∧ NQ ≤ oq ∧ cb < B1 ∧ g < B1 ∧ h < B1 ∧ op < B1 ∧ oq < B1 ∧ w.heap.size ≤ B1 ∧ B1 ≤ E1 ∧ E1 ≤ E2 ∧ E2 ≤ E3 from by have o_ := ORD22.out; omega)
                  clear ORD22
                  have ee : Ex (fun _ => False) we wf := Ex.of_below hb
                  have L25 := Lib.hid (Ex.below L23.out ee (fun k hk => hk.elim))
                  have C25 := Lib.hid (C23.out.ex ee (fun h => h))
                  have K25 := Lib.hid (K23.out.ex ee (fun h => h) (fun h => h))
                  have P25 := Lib.hid (P23.out.ex ee (fun _ h => h.elim))
                  have Q25 := Lib.hid (Q23.out.ex ee (fun _ h => h.elim))
                  have R125 := Lib.hid (R123.out.ex ee (fun _ _ _ h => h))
                  have R225 := Lib.hid (R223.out.ex ee (fun _ _ _ h => h))
                  have M125 := Lib.hid (hrb)
                  clear ee L23 C23 K23 P23 Q23 R123 R223 hb hsr hrb hEB hE2
                  have hE3 := hE
                  clear hE
                  clear hE3
                  obtain ⟨N, hN⟩ : ∃ N, gotN cc x = N := ⟨_, rfl⟩
                  have HNN := Lib.hid hN
                  obtain ⟨GW, hGW⟩ : ∃ GW, gotW x = GW := ⟨_, rfl⟩
                  have HGW := Lib.hid hGW
                  obtain ⟨LW, hLW⟩ : ∃ LW, GW.length = LW := ⟨_, rfl⟩
                  have HLW2 := Lib.hid hLW
                  obtain ⟨gk, hgk⟩ : ∃ gk, gotK x = gk := ⟨_, rfl⟩
                  obtain ⟨gg, hgg⟩ : ∃ gg, gotG x = gg := ⟨_, rfl⟩
                  have HGKG := Lib.hid (And.intro hgk hgg)
                  rw [hN] at HGN
                  simp only [hN, hGW, hLW, hgk, hgg] at R125 R225 M125 HGL ⊢
                  clear hN hGW hLW hgk hgg
                  have k1 : (how != how) = false := bne_self_eq_false _
                  have k2 : (gk != gk) = false := bne_self_eq_false _
                  have k3 : (gg != gg) = false := bne_self_eq_false _
                  have k4 : ((N : Int) != (N : Int)) = false := bne_self_eq_false _
                  go_wp2_with fail
                  have hi1 := R125.out.ints (by have h1 := HGL.out; have h2 := HLW2.out; unfold maxLen; omega)
                  have hi2 := R225.out.ints (by have h1 := HGL.out; have h2 := HLW2.out; unfold maxLen; omega)
                  refine (same_any _ _ GW GW wf hi1 hi2 (by have h1 := HGL.out; have h2 := HLW2.out; omega)).mono ?_; rintro e wg ⟨rfl, hb⟩
                  rw [show decide (GW = GW) = true from decide_eq_true rfl]
                  clear hi1 hi2
                  have ee : Ex (fun _ => False) wf wg := Ex.of_below hb
                  have L26 := Lib.hid (Ex.below L25.out ee (fun k hk => hk.elim))
                  have C26 := Lib.hid (C25.out.ex ee (fun h => h))
                  have K26 := Lib.hid (K25.out.ex ee (fun h => h) (fun h => h))
                  have P26 := Lib.hid (P25.out.ex ee (fun _ h => h.elim))
                  have Q26 := Lib.hid (Q25.out.ex ee (fun _ h => h.elim))
                  have R126 := Lib.hid (R125.out.ex ee (fun _ _ _ h => h))
                  have R226 := Lib.hid (R225.out.ex ee (fun _ _ _ h => h))
                  have M126 := Lib.hid (M125.out.ex ee (fun _ _ _ h => h))
                  clear ee L25 C25 K25 P25 Q25 R125 R225 M125 hb
                  go_wp2_with fail
                  refine (LSubs_both lamF 2 oq cc x wg Q26.out HOKC.out HCOK.out).mono ?_; rintro e wh ⟨A7, c7, rfl, hsr, hb⟩
                  have ee : Ex (fun _ => False) wg wh := Ex.of_below hb
                  have L27 := Lib.hid (Ex.below L26.out ee (fun k hk => hk.elim))
                  have C27 := Lib.hid (C26.out.ex ee (fun h => h))
                  have K27 := Lib.hid (K26.out.ex ee (fun h => h) (fun h => h))
                  have P27 := Lib.hid (P26.out.ex ee (fun _ h => h.elim))
                  have Q27 := Lib.hid (Q26.out.ex ee (fun _ h => h.elim))
                  have R127 := Lib.hid (R126.out.ex ee (fun _ _ _ h => h))
                  have R227 := Lib.hid (R226.out.ex ee (fun _ _ _ h => h))
                  have M127 := Lib.hid (M126.out.ex ee (fun _ _ _ h => h))
                  clear ee L26 C26 K26 P26 Q26 R126 R226 M126 hb hsr
                  rw [HNN.out]
                  go_upto_region 43 with fail
                  clear k1 k2 k3 k4
                  go_wp2_with fail

                  have V4 := Lib.hid (Ex.refl (fun k => B1 ≤ k ∧ k < E1) wh)
                  go_loopw [26] (fun s26 wr => ∃ i : Nat, i ≤ LW ∧ s26 = .int .i64 i ∧ (∃ W', W'.length = LW ∧ RowB wr B1 E1 (.slice A4 LW c4) W') ∧ Ex (fun k => B1 ≤ k ∧ k < E1) wh wr) (fun s26 _ => LW - (intOf s26).toNat)
                  case atStart => exact ⟨0, by omega, rfl, ⟨GW, HLW2.out, R127.out⟩, V4.out⟩
                  case round =>
                    obtain ⟨i, hi, rfl, ⟨W', hwl, hrb⟩, hy⟩ := hrel
                    have RR := Lib.hid hrb
                    have HWL9 := Lib.hid hwl
                    have V5 := Lib.hid hy
                    clear hrb hwl hy
                    by_cases hlt : i < LW
                    · have kd : decide ((i : Int) < (LW : Int)) = true := decide_eq_true (by omega)
                      have kd2 : decide (i < LW) = true := decide_eq_true hlt
                      have ki0 : (0 : Int) ≤ (i : Int) := by omega
                      have ki1 : (i : Int) < (LW : Int) := by omega
                      have HI := Lib.hid hlt
                      have HM := Lib.hid (turn_no i LW hlt (by have h1 := HGL.out; unfold maxLen; omega))
                      clear hi hlt
                      obtain ⟨r, rfl, hr1, hr2, hcell, hfro, hset⟩ := RR.out.at_ HWL9.out HI.out
                      have HR12 := Lib.hid (And.intro hr1 hr2)
                      have HST := Lib.hid (hset 1234567)
                      clear hr1 hr2 hset
                      go_wp2_with fail
                      clear hcell hfro
                      have V6 := Lib.hid (V5.out.setCell (q := ⟨r, i, none⟩) (.inl HR12.out) (.int .u64 1234567))
                      generalize wr.setCell ⟨r, i, none⟩ (.int .u64 1234567) = ws2 at *
                      go_roundw
                      case rel => exact ⟨i + 1, HI.out, HM.out.1, ⟨_, by rw [List.length_set]; exact HWL9.out, HST.out⟩, V6.out⟩
                      case measure => exact HM.out.2
                    · have kd : decide ((i : Int) < (LW : Int)) = false := decide_eq_false (by omega)
                      have kd2 : decide (i < LW) = false := decide_eq_false hlt
                      have kd3 : ¬ i < LW := hlt
                      clear hi hlt RR HWL9 V4
                      have ee : Ex (fun k => B1 ≤ k ∧ k < E1) wh wr := V5.out
                      have L28 := Lib.hid (Ex.below L27.out ee (fun k hk => by have hk : B1 ≤ k ∧ k < E1 := hk; have o_ := ORD24.out; omega))
                      have C28 := Lib.hid (C27.out.ex ee (fun hT => by have hT : B1 ≤ cb ∧ cb < E1 := hT; have o_ := ORD24.out; omega))
                      have K28 := Lib.hid (K27.out.ex ee (fun hT => by have hT : B1 ≤ g ∧ g < E1 := hT; have o_ := ORD24.out; omega) (fun hT => by have hT : B1 ≤ h ∧ h < E1 := hT; have o_ := ORD24.out; omega))
                      have P28 := Lib.hid (P27.out.ex ee (fun k hk => by rw [HLF.out k (by have hk : B1 ≤ k ∧ k < E1 := hk; have o_ := ORD24.out; omega)]; decide))
                      have Q28 := Lib.hid (Q27.out.ex ee (fun k hk => by rw [HLF.out k (by have hk : B1 ≤ k ∧ k < E1 := hk; have o_ := ORD24.out; omega)]; decide))
                      have R228 := Lib.hid (R227.out.ex ee (fun k h1_ h2_ hT => by have hT : B1 ≤ k ∧ k < E1 := hT; have o_ := ORD24.out; omega))
                      have M128 := Lib.hid (M127.out.ex ee (fun k h1_ h2_ hT => by have hT : B1 ≤ k ∧ k < E1 := hT; have o_ := ORD24.out; omega))
                      clear ee L27 C27 K27 P27 Q27 R227 M127 V5
                      go_wp2_with fail
                      clear kd kd2 kd3
                      obtain ⟨wB, rfl⟩ : ∃ W : World, W = wr := ⟨_, rfl⟩
                      have V4 := Lib.hid (Ex.refl (fun k => E2 ≤ k ∧ k < E3) wB)
                      go_loopw [27] (fun s27 wr => ∃ i : Nat, i ≤ N ∧ s27 = .int .i64 i ∧ (∃ l', SubRB wr E2 E3 (.slice A6 N c6) N l') ∧ Ex (fun k => E2 ≤ k ∧ k < E3) wB wr) (fun s27 _ => N - (intOf s27).toNat)
                      case atStart => exact ⟨0, by omega, rfl, ⟨_, M128.out⟩, V4.out⟩
                      case round =>
                        obtain ⟨i, hi, rfl, ⟨l', hrb⟩, hy⟩ := hrel
                        have RR := Lib.hid hrb
                        have V5 := Lib.hid hy
                        clear hrb hy
                        by_cases hlt : i < N
                        · have kd : decide ((i : Int) < (N : Int)) = true := decide_eq_true (by omega)
                          have kd2 : decide (i < N) = true := decide_eq_true hlt
                          have ki0 : (0 : Int) ≤ (i : Int) := by omega
                          have ki1 : (i : Int) < (N : Int) := by omega
                          have HI := Lib.hid hlt
                          have HM := Lib.hid (turn_no i N hlt (by have h1 := HGN.out; have h2 := H8.out; unfold maxLen; omega))
                          clear hi hlt
                          obtain ⟨r, rfl, hr1, hr2, hsin⟩ := RR.out.at_ (by have h1 := HI.out; omega)
                          have HR12 := Lib.hid (And.intro hr1 hr2)
                          have hcell : wr.cell? ⟨r, i * 6 + 1, none⟩ = _ := hsin.cells i HI.out 1 (by decide)
                          have hfro := hsin.fro (i * 6 + 1)
                          obtain ⟨l2, hl2⟩ := hsin.setRank HI.out (-9)
                          have HST := Lib.hid hl2
                          simp only [subC] at hcell
                          clear hr1 hr2 hsin hl2
                          go_wp2_with fail
                          clear hcell hfro
                          have V6 := Lib.hid (V5.out.setCell (q := ⟨r, i * 6 + 1, none⟩) (.inl HR12.out) (.int .i64 (-9)))
                          generalize wr.setCell ⟨r, i * 6 + 1, none⟩ (.int .i64 (-9)) = ws2 at *
                          go_roundw
                          case rel => exact ⟨i + 1, HI.out, HM.out.1, ⟨l2, ⟨_, _, rfl, fun _ => ⟨r, rfl, HR12.out.1, HR12.out.2, HST.out⟩⟩⟩, V6.out⟩
                          case measure => exact HM.out.2
                        · have kd : decide ((i : Int) < (N : Int)) = false := decide_eq_false (by omega)
                          have kd2 : decide (i < N) = false := decide_eq_false hlt
                          have kd3 : ¬ i < N := hlt
                          clear hi hlt RR V4
                          have ee : Ex (fun k => E2 ≤ k ∧ k < E3) wB wr := V5.out
                          have L29 := Lib.hid (Ex.below L28.out ee (fun k hk => by have hk : E2 ≤ k ∧ k < E3 := hk; have o_ := ORD24.out; omega))
                          have C29 := Lib.hid (C28.out.ex ee (fun hT => by have hT : E2 ≤ cb ∧ cb < E3 := hT; have o_ := ORD24.out; omega))
                          have K29 := Lib.hid (K28.out.ex ee (fun hT => by have hT : E2 ≤ g ∧ g < E3 := hT; have o_ := ORD24.out; omega) (fun hT => by have hT : E2 ≤ h ∧ h < E3 := hT; have o_ := ORD24.out; omega))
                          have P29 := Lib.hid (P28.out.ex ee (fun k hk => by rw [HLF.out k (by have hk : E2 ≤ k ∧ k < E3 := hk; have o_ := ORD24.out; omega)]; decide))
                          have Q29 := Lib.hid (Q28.out.ex ee (fun k hk => by rw [HLF.out k (by have hk : E2 ≤ k ∧ k < E3 := hk; have o_ := ORD24.out; omega)]; decide))
                          have R229 := Lib.hid (R228.out.ex ee (fun k h1_ h2_ hT => by have hT : E2 ≤ k ∧ k < E3 := hT; have o_ := ORD24.out; omega))
                          clear ee L28 C28 K28 P28 Q28 R228 V5
                          go_wp2_with fail
                          clear kd kd2 kd3
                          obtain ⟨wD, rfl⟩ : ∃ W : World, W = wr := ⟨_, rfl⟩
                          refine (LGot_both lamF 1 op cc x wD P29.out HLEN9.out).mono ?_; rintro e wE ⟨A8, c8, rfl, hown, hb⟩
                          rw [HGW.out, HLW2.out] at hown
                          rw [HGW.out, HLW2.out]
                          have hrb : RowB wE 0 wE.heap.size (.slice A8 LW c8) GW := RowB.of_own (by rw [HLW2.out]; exact own_zero hown)
                          have HRB := Lib.hid hrb
                          clear hrb hown
                          have ee : Ex (fun _ => False) wD wE := Ex.of_below hb
                          have L30 := Lib.hid (Ex.below L29.out ee (fun k hk => hk.elim))
                          have C30 := Lib.hid (C29.out.ex ee (fun h => h))
                          have K30 := Lib.hid (K29.out.ex ee (fun h => h) (fun h => h))
                          have P30 := Lib.hid (P29.out.ex ee (fun _ h => h.elim))
                          have Q30 := Lib.hid (Q29.out.ex ee (fun _ h => h.elim))
                          have R230 := Lib.hid (R229.out.ex ee (fun _ _ _ h => h))
                          clear ee L29 C29 K29 P29 Q29 R229 hb

                          go_wp2_with fail
                          have hi1 := HRB.out.ints (by have h1 := HGL.out; have h2 := HLW2.out; unfold maxLen; omega)
                          have hi2 := R230.out.ints (by have h1 := HGL.out; have h2 := HLW2.out; unfold maxLen; omega)
                          refine (same_any _ _ GW GW wE hi1 hi2 (by have h1 := HGL.out; have h2 := HLW2.out; omega)).mono ?_; rintro e wF ⟨rfl, hb⟩
                          rw [show decide (GW = GW) = true from decide_eq_true rfl]
                          clear hi1 hi2 HRB
                          have ee : Ex (fun _ => False) wE wF := Ex.of_below hb
                          have L31 := Lib.hid (Ex.below L30.out ee (fun k hk => hk.elim))
                          have C31 := Lib.hid (C30.out.ex ee (fun h => h))
                          have K31 := Lib.hid (K30.out.ex ee (fun h => h) (fun h => h))
                          have P31 := Lib.hid (P30.out.ex ee (fun _ h => h.elim))
                          have Q31 := Lib.hid (Q30.out.ex ee (fun _ h => h.elim))
                          have R231 := Lib.hid (R230.out.ex ee (fun _ _ _ h => h))
                          clear ee L30 C30 K30 P30 Q30 R230 hb
                          go_wp2_with fail
                          refine (LSubs_both lamF 1 op cc x wF P31.out HOKC.out HCOK.out).mono ?_; rintro e wG ⟨A9, c9, rfl, hsr, hb⟩
                          rw [HNN.out] at hsr
                          rw [HNN.out]
                          have hrb := hsr.to_b
                          have ee : Ex (fun _ => False) wF wG := Ex.of_below hb
                          have L32 := Lib.hid (Ex.below L31.out ee (fun k hk => hk.elim))
                          have C32 := Lib.hid (C31.out.ex ee (fun h => h))
                          have K32 := Lib.hid (K31.out.ex ee (fun h => h) (fun h => h))
                          have P32 := Lib.hid (P31.out.ex ee (fun _ h => h.elim))
                          have Q32 := Lib.hid (Q31.out.ex ee (fun _ h => h.elim))
                          have R232 := Lib.hid (R231.out.ex ee (fun _ _ _ h => h))
                          have M232 := Lib.hid (hrb)
                          clear ee L31 C31 K31 P31 Q31 R231 hb hsr hrb
                          go_wp2_with fail
                          have V4 := Lib.hid (Ex.refl (fun _ => False) wG)
                          have HG := Lib.hid (M232.out)
                          go_loopw [28] (fun s28 wr => ∃ i : Nat, i ≤ N ∧ s28 = .int .i64 i ∧ Ex (fun _ => False) wG wr) (fun s28 _ => N - (intOf s28).toNat)
                          case atStart => exact ⟨0, by omega, rfl, V4.out⟩
                          case round =>
                            obtain ⟨i, hi, rfl, hy⟩ := hrel
                            have V5 := Lib.hid hy
                            clear hy V4
                            by_cases hlt : i < N
                            · have kd : decide ((i : Int) < (N : Int)) = true := decide_eq_true (by omega)
                              have kd2 : decide (i < N) = true := decide_eq_true hlt
                              have ki0 : (0 : Int) ≤ (i : Int) := by omega
                              have ki1 : (i : Int) < (N : Int) := by omega
                              have ki2 : (i : Int) < (n : Int) := by have h1 := HGN.out; omega
                              have HI := Lib.hid hlt
                              have HM := Lib.hid (turn_no i N hlt (by have h1 := HGN.out; have h2 := H8.out; unfold maxLen; omega))
                              clear hi hlt
                              obtain ⟨r, rfl, hr1, hr2, hsin⟩ := HG.out.at_ (by have h1 := HI.out; omega)
                              have HSI := Lib.hid (hsin.ex V5.out (fun h => h))
                              have CI := Lib.hid (C32.out.ex V5.out (fun h => h))
                              have LI := Lib.hid (Ex.below L32.out V5.out (fun k hk => hk.elim))
                              clear hr1 hr2 hsin
                              go_upto_region 58 with fail
                              have hne : Nonempty (Held (fun W => W = wr.drew)) := ⟨⟨_, rfl⟩⟩
                              have p0 : ∀ y : Held (fun W => W = wr.drew), y.w.cell? ⟨r, i * 6 + 1, none⟩ = some (.int .i64 (l i).rank) := fun y => by rw [y.ok, ← HRK.out i]; exact HSI.out.cells i HI.out 1 (by decide)
                              have p1 : ∀ y : Held (fun W => W = wr.drew), y.w.cell? ⟨cb, 0, none⟩ = some (.slice (some ⟨b, off, none⟩) n c1) := fun y => by rw [y.ok]; exact CI.out.cell 0
                              have p2 : ∀ y : Held (fun W => W = wr.drew), y.w.cell? ⟨b, off + i * 6 + 1, none⟩ = some (.int .i64 (l i).rank) := fun y => by rw [y.ok]; exact HRANK.out wr LI.out i (by have h1 := HI.out; have h2 := HGN.out; omega)
                              refine drawn_bars (S := fun _ => True) [] [0, 1, 2, 3, 4, 5, 6, 7, 8, 9, 10, 11] (by kernel_rfl) (by kernel_rfl) (by kernel_rfl) rfl trivial ?_
                              refine Phased.end_ ?_
                              simp only [pick, List.map_cons, List.map_nil, List.getElem?_cons_zero, List.getElem?_cons_succ, Option.getD_some]
                              repeat (go_big_quiet_step (fail))
                              refine wpQuiet_nil ?_
                              clear hne p0 p1 p2
                              have kr : ((l i).rank != (l i).rank) = false := bne_self_eq_false _
                              have V6 := Lib.hid V5.out.drew
                              generalize wr.drew = wy at *
                              go_wp2_with fail
                              go_roundw
                              case rel => exact ⟨i + 1, HI.out, HM.out.1, V6.out⟩
                              case measure => exact HM.out.2
                            · have kd : decide ((i : Int) < (N : Int)) = false := decide_eq_false (by omega)
                              have kd2 : decide (i < N) = false := decide_eq_false hlt
                              have kd3 : ¬ i < N := hlt
                              clear hi hlt
                              have ee : Ex (fun _ => False) wG wr := V5.out
                              have L33 := Lib.hid (Ex.below L32.out ee (fun k hk => hk.elim))
                              clear ee L32 V5
                              go_wp2_with fail
                              clear kd kd2 kd3
                              refine (awake_any wr).mono ?_; rintro e wz ⟨rfl, hbz⟩
                              have ee : Ex (fun _ => False) wr wz := Ex.of_below hbz
                              have L34 := Lib.hid (Ex.below L33.out ee (fun k hk => hk.elim))
                              clear ee L33 hbz
                              go_wp2_with fail
                              go_ret
                              exact ⟨rfl, L34.out⟩
theorem PollNil_law (v0 : Value) (c : Cs) (v1 : Value) (ws0 : List Int) (w : World) (hc : CsAt w v0 c) (hws : Ints w .u64 v1 ws0) (hx : ∀ n ∈ ws0, (Lit.int .u64 n).wf = true) :
    Calls Try.prog 3 #[v0, v1] w fun e w' => e = .returned (.bool true) ∧ Below w.heap.size w w' :=
  PollNil_walk v0 v1 c ws0 w hc hws (fun y hy => u64_bounds (hx y hy))
end Go.Proofs.Ythcaagkgddeabaa.Bank
