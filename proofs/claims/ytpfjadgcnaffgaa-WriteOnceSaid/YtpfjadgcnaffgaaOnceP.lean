/-
  Three publishings of one topic, and who holds the sequence: how they stand behind each step. No program. By an AI agent.
-/
import Derived.Test.YtpfjadgcnaffgaaNilW
import Derived.Laws.IdiomArrays
namespace Go.Proofs.Ytpfjadgcnaffgaa.Bank
set_option linter.unusedVariables false
set_option linter.unusedSimpArgs false
open Go Go.RowKit Go.Proofs.Ytpfjadgcnaffgaa.Base Go.ChangeShapes

abbrev OX := Nat → Option (Nat × Nat × Nat × WS)
def updO (ox : OX) (k : Nat) (y : Option (Nat × Nat × Nat × WS)) : OX := fun j => if j = k then y else ox j
theorem updO_self (ox : OX) (k : Nat) (y) : updO ox k y k = y := if_pos rfl
theorem updO_ne (ox : OX) {k j : Nat} (y) (h : j ≠ k) : updO ox k y j = ox j := if_neg h
def opAddr : Option (Nat × Nat × Nat × WS) → Option Addr
  | none => none
  | some z => some ⟨z.1, 0, none⟩
def opPtr (y : Option (Nat × Nat × Nat × WS)) : Value := .pointer (opAddr y)
def opArr (ox : OX) : Array Value := #[opPtr (ox 0), opPtr (ox 1), opPtr (ox 2)]
theorem opArr_cell (ox : OX) {k : Nat} (hk : k < 3) : (opArr ox)[k]? = some (opPtr (ox k)) := by
  match k, hk with
  | 0, _ => rfl
  | 1, _ => rfl
  | 2, _ => rfl
theorem opArr_set (ox : OX) {k : Nat} (hk : k < 3) (y : Option (Nat × Nat × Nat × WS)) : (opArr ox).setIfInBounds k (opPtr y) = opArr (updO ox k y) := by
  match k, hk with
  | 0, _ => rfl
  | 1, _ => rfl
  | 2, _ => rfl
/-- three publishings in memory, each of its own blocks, all behind block lo -/
structure OpsAt (w : World) (lo : Nat) (s : Spot) (tr : Nat → Int) (rec : Nat → List Int) (ox : OX) : Prop where
  ops : ∀ k o r c x, k < 3 → ox k = some (o, r, c, x) → OpAt w o r c s (rec k) (tr k) x ∧ WInv s (rec k) (tr k) x ∧ lo < r ∧ r < o
  far : ∀ j k o r c x o2 r2 c2 x2, j < 3 → k < 3 → j ≠ k → ox j = some (o, r, c, x) → ox k = some (o2, r2, c2, x2) → o ≠ o2 ∧ r ≠ o2 ∧ o ≠ r2
theorem OpsAt.ex {T : Nat → Prop} {w w' : World} {lo : Nat} {s : Spot} {tr : Nat → Int} {rec : Nat → List Int} {ox : OX} (h : OpsAt w lo s tr rec ox) (p : Ex T w w') (hT : ∀ b, T b → b ≤ lo) : OpsAt w' lo s tr rec ox :=
  ⟨fun k o r c x hk hx => by
    obtain ⟨a, b, c1, d⟩ := h.ops k o r c x hk hx
    exact ⟨a.ex p (fun ht => by have := hT _ ht; omega) (fun ht => by have := hT _ ht; omega), b, c1, d⟩, h.far⟩
theorem OpsAt.step {w w' : World} {lo g h0 : Nat} {s : Spot} {tr : Nat → Int} {rec : Nat → List Int} {ox : OX} (h : OpsAt w lo s tr rec ox) {k o r c : Nat} {x x' : WS} (hk : k < 3) (hx : ox k = some (o, r, c, x)) (hg : g ≤ lo) (hh : h0 ≤ lo)
    (p : Ex (fun b => b = g ∨ b = h0 ∨ b = o) w w') (ho : OpAt w' o r c s (rec k) (tr k) x') (hi : WInv s (rec k) (tr k) x') : OpsAt w' lo s tr rec (updO ox k (some (o, r, c, x'))) := by
  have hl := h.ops k o r c x hk hx
  refine ⟨fun j o2 r2 c2 x2 hj hx2 => ?_, fun i j o2 r2 c2 x2 o3 r3 c3 x3 hi2 hj hne h1 h2 => ?_⟩
  · by_cases hjk : j = k
    · subst hjk
      rw [updO_self] at hx2
      simp only [Option.some.injEq, Prod.mk.injEq] at hx2
      obtain ⟨rfl, rfl, rfl, rfl⟩ := hx2
      exact ⟨ho, hi, hl.2.2⟩
    · rw [updO_ne _ _ hjk] at hx2
      have hl2 := h.ops j o2 r2 c2 x2 hj hx2
      have hf := h.far j k _ _ _ _ _ _ _ _ hj hk hjk hx2 hx
      exact ⟨hl2.1.ex p (by omega) (by omega), hl2.2⟩
  · have key : ∀ i, i < 3 → ∀ o2 r2 c2 x2, updO ox k (some (o, r, c, x')) i = some (o2, r2, c2, x2) → ∃ y, ox i = some (o2, r2, c2, y) := by
      intro i _ o2 r2 c2 x2 h1
      by_cases hik : i = k
      · subst hik
        rw [updO_self] at h1
        simp only [Option.some.injEq, Prod.mk.injEq] at h1
        obtain ⟨rfl, rfl, rfl, rfl⟩ := h1
        exact ⟨x, hx⟩
      · rw [updO_ne _ _ hik] at h1
        exact ⟨_, h1⟩
    obtain ⟨y1, e1⟩ := key i hi2 _ _ _ _ h1
    obtain ⟨y2, e2⟩ := key j hj _ _ _ _ h2
    exact h.far i j _ _ _ _ _ _ _ _ hi2 hj hne e1 e2
theorem OpsAt.new {w w' : World} {lo : Nat} {s : Spot} {tr : Nat → Int} {rec : Nat → List Int} {ox : OX} (h : OpsAt w lo s tr rec ox) {k o r c : Nat} {x' : WS} (hk : k < 3) (hn : ox k = none) (hb : Below w.heap.size w w') (hlo : lo < w.heap.size)
    (ho : OpAt w' o r c s (rec k) (tr k) x') (hi : WInv s (rec k) (tr k) x') (q1 : w.heap.size ≤ r) (q2 : r < o) : OpsAt w' lo s tr rec (updO ox k (some (o, r, c, x'))) := by
  have old : ∀ j o2 r2 c2 x2, j < 3 → ox j = some (o2, r2, c2, x2) → o2 < w.heap.size ∧ r2 < w.heap.size := fun j o2 r2 c2 x2 hj hx => by
    have hl := h.ops j o2 r2 c2 x2 hj hx
    have := hl.1.head.lt
    omega
  refine ⟨fun j o2 r2 c2 x2 hj hx2 => ?_, fun i j o2 r2 c2 x2 o3 r3 c3 x3 hi2 hj hne h1 h2 => ?_⟩
  · by_cases hjk : j = k
    · subst hjk
      rw [updO_self] at hx2
      simp only [Option.some.injEq, Prod.mk.injEq] at hx2
      obtain ⟨rfl, rfl, rfl, rfl⟩ := hx2
      exact ⟨ho, hi, by omega, q2⟩
    · rw [updO_ne _ _ hjk] at hx2
      have hl2 := h.ops j o2 r2 c2 x2 hj hx2
      exact ⟨hl2.1.below hb, hl2.2⟩
  · by_cases hik : i = k
    · subst hik
      rw [updO_self] at h1
      rw [updO_ne _ _ (Ne.symm hne)] at h2
      simp only [Option.some.injEq, Prod.mk.injEq] at h1
      obtain ⟨rfl, rfl, rfl, rfl⟩ := h1
      have := old j _ _ _ _ hj h2
      omega
    · rw [updO_ne _ _ hik] at h1
      have := old i _ _ _ _ hi2 h1
      by_cases hjk : j = k
      · subst hjk
        rw [updO_self] at h2
        simp only [Option.some.injEq, Prod.mk.injEq] at h2
        obtain ⟨rfl, rfl, rfl, rfl⟩ := h2
        omega
      · rw [updO_ne _ _ hjk] at h2
        exact h.far i j _ _ _ _ _ _ _ _ hi2 hj hne h1 h2
theorem OpsAt.drop {w : World} {lo : Nat} {s : Spot} {tr : Nat → Int} {rec : Nat → List Int} {ox : OX} (h : OpsAt w lo s tr rec ox) (k : Nat) : OpsAt w lo s tr rec (updO ox k none) := by
  have key : ∀ i o2 r2 c2 x2, updO ox k none i = some (o2, r2, c2, x2) → ox i = some (o2, r2, c2, x2) := by
    intro i o2 r2 c2 x2 h1
    by_cases hik : i = k
    · subst hik; rw [updO_self] at h1; simp at h1
    · rwa [updO_ne _ _ hik] at h1
  exact ⟨fun j o2 r2 c2 x2 hj hx2 => h.ops j _ _ _ _ hj (key _ _ _ _ _ hx2), fun i j o2 r2 c2 x2 o3 r3 c3 x3 hi2 hj hne h1 h2 => h.far i j _ _ _ _ _ _ _ _ hi2 hj hne (key _ _ _ _ _ h1) (key _ _ _ _ _ h2)⟩

def plc (m d gen : Nat) : Nat := 2 + gen % d * m
def Same (ws ws' : List Int) : Prop := ∀ j : Nat, 2 ≤ j → nth ws' j = nth ws j
/-- who holds the sequence, and what stands in the words -/
structure OI (m d : Nat) (rec : Nat → List Int) (ox : OX) (holder : Int) (done : Nat) (ws : List Int) : Prop where
  len : ws.length = 2 + m * d
  busy : ∀ k o r c x, k < 3 → ox k = some (o, r, c, x) → x.how = 0
  side : ∀ k o r c x, k < 3 → ox k = some (o, r, c, x) → (k : Int) ≠ holder → x.next < 2 ∧ (x.next = 1 → x.sq % 2 = 0)
  free : holder < 0 → holder = -1 ∧ wordF ws 1 = 2 * (done : Int)
  held : 0 ≤ holder → ∃ k : Nat, k < 3 ∧ holder = k ∧ wordF ws 1 = 2 * (done : Int) + 1 ∧ ∃ o r c x, ox k = some (o, r, c, x) ∧ (x.next = 2 ∨ x.next = 3 ∧ x.n = m) ∧ x.sq = 2 * (done : Int) ∧ ∀ j : Nat, (j : Int) < x.n → nth ws (plc m d (done + 1) + j) = nth (rec k) j
theorem OI.aside {m d : Nat} {rec : Nat → List Int} {ox : OX} {holder : Int} {done : Nat} {ws : List Int} (h : OI m d rec ox holder done ws) {k : Nat} (hk : k < 3) (hne : holder ≠ k) (y : Option (Nat × Nat × Nat × WS))
    (hy : ∀ o r c x, y = some (o, r, c, x) → x.how = 0 ∧ x.next < 2 ∧ (x.next = 1 → x.sq % 2 = 0)) : OI m d rec (updO ox k y) holder done ws := by
  refine ⟨h.len, fun j o r c x hj hx => ?_, fun j o r c x hj hx hh => ?_, h.free, fun h0 => ?_⟩
  · by_cases hjk : j = k
    · subst hjk; rw [updO_self] at hx; exact (hy _ _ _ _ hx).1
    · rw [updO_ne _ _ hjk] at hx; exact h.busy j _ _ _ _ hj hx
  · by_cases hjk : j = k
    · subst hjk; rw [updO_self] at hx; exact (hy _ _ _ _ hx).2
    · rw [updO_ne _ _ hjk] at hx; exact h.side j _ _ _ _ hj hx hh
  · obtain ⟨k2, a, b, c, o, r, c2, x, e, f⟩ := h.held h0
    exact ⟨k2, a, b, c, o, r, c2, x, by rw [updO_ne _ _ (by omega)]; exact e, f⟩
theorem spotOf_in {m d : Nat} (hm : 1 ≤ m ∧ m ≤ 64) (hd : 2 ≤ d ∧ d ≤ 16) {ws : List Int} (hl : ws.length = 2 + m * d) : inW ws 1 := by
  unfold inW
  have := Nat.mul_le_mul hm.1 hd.1
  omega
theorem OI.step {m d : Nat} {rec : Nat → List Int} {ox : OX} {holder : Int} {done : Nat} {ws : List Int} (h : OI m d rec ox holder done ws) (hm : 1 ≤ m ∧ m ≤ 64) (hd : 2 ≤ d ∧ d ≤ 16) (hdn : done ≤ 300) {k o r c : Nat} {x : WS} (hk : k < 3) (hx : ox k = some (o, r, c, x))
    (hi : WInv (spotOf m d) (rec k) 4 x) (hr : (rec k).length = m) (t : Int) (hf : ∀ y ∈ ws, 0 ≤ y ∧ y ≤ 18446744073709551615) :
    ((wStep (spotOf m d) (rec k) 4 x ws t).1.how = 0 ∧ holder ≠ k ∧ Same ws (wStep (spotOf m d) (rec k) 4 x ws t).2.1 ∧ OI m d rec (updO ox k (some (o, r, c, (wStep (spotOf m d) (rec k) 4 x ws t).1))) holder done (wStep (spotOf m d) (rec k) 4 x ws t).2.1) ∨
    ((wStep (spotOf m d) (rec k) 4 x ws t).1.how = 2 ∧ holder ≠ k ∧ Same ws (wStep (spotOf m d) (rec k) 4 x ws t).2.1 ∧ OI m d rec (updO ox k none) holder done (wStep (spotOf m d) (rec k) 4 x ws t).2.1) ∨
    ((wStep (spotOf m d) (rec k) 4 x ws t).1.how = 0 ∧ holder = -1 ∧ Same ws (wStep (spotOf m d) (rec k) 4 x ws t).2.1 ∧ OI m d rec (updO ox k (some (o, r, c, (wStep (spotOf m d) (rec k) 4 x ws t).1))) k done (wStep (spotOf m d) (rec k) 4 x ws t).2.1) ∨
    ((wStep (spotOf m d) (rec k) 4 x ws t).1.how = 0 ∧ holder = k ∧ OI m d rec (updO ox k (some (o, r, c, (wStep (spotOf m d) (rec k) 4 x ws t).1))) k done (wStep (spotOf m d) (rec k) 4 x ws t).2.1) ∨
    ((wStep (spotOf m d) (rec k) 4 x ws t).1.how = 1 ∧ holder = k ∧ Same ws (wStep (spotOf m d) (rec k) 4 x ws t).2.1 ∧ (wStep (spotOf m d) (rec k) 4 x ws t).1.gen = (done : Int) + 1 ∧ OI m d rec (updO ox k none) (-1) (done + 1) (wStep (spotOf m d) (rec k) 4 x ws t).2.1 ∧ ∀ j : Nat, j < m → nth (wStep (spotOf m d) (rec k) 4 x ws t).2.1 (plc m d (done + 1) + j) = nth (rec k) j) := by
  have hin := spotOf_in hm hd h.len
  have hbusy := h.busy k _ _ _ _ hk hx
  have hside := h.side k _ _ _ _ hk hx
  have hzero := hi.zero
  have hwrap : ∀ a : Int, 0 ≤ a ∧ a ≤ 1000 → IntKind.u64.wrap a = a := fun a ha => u64_wrap_in (by omega)
  have hsame1 : ∀ v, Same ws (setF ws 1 v) := fun v j hj => by
    rw [setF_in hin, nth_set _ _ _ _ (by have := hin.2; omega), if_neg (by have : (1 : Int).toNat = 1 := rfl; omega)]
  -- the one who holds it
  have hmine : 0 ≤ holder → holder = k → wordF ws 1 = 2 * (done : Int) + 1 ∧ (x.next = 2 ∨ x.next = 3 ∧ x.n = m) ∧ x.sq = 2 * (done : Int) ∧ ∀ j : Nat, (j : Int) < x.n → nth ws (plc m d (done + 1) + j) = nth (rec k) j := fun h0 hhk => by
    obtain ⟨k2, h1, h2, h3, o2, r2, c2, x2, e, h4, h5, h6⟩ := h.held h0
    obtain rfl : k2 = k := by omega
    rw [hx] at e
    simp only [Option.some.injEq, Prod.mk.injEq] at e
    obtain ⟨rfl, rfl, rfl, rfl⟩ := e
    exact ⟨h3, h4, h5, h6⟩
  have hnx := hi.next
  obtain ⟨how, next, had, steps, sq, nn⟩ := x
  simp only at hbusy hside hnx hzero hmine
  subst hbusy
  have hS : (spotOf (m : Int) d).seq = 1 := rfl
  -- a try that failed, of one who does not hold it
  have hfail : ∀ (y : WS), y.how = 0 → holder ≠ k → (wStep (spotOf m d) (rec k) 4 ⟨0, next, had, steps, sq, nn⟩ ws t).1 = WS.again 4 y → (wStep (spotOf m d) (rec k) 4 ⟨0, next, had, steps, sq, nn⟩ ws t).2.1 = ws →
      ((wStep (spotOf m d) (rec k) 4 ⟨0, next, had, steps, sq, nn⟩ ws t).1.how = 0 ∧ holder ≠ k ∧ Same ws (wStep (spotOf m d) (rec k) 4 ⟨0, next, had, steps, sq, nn⟩ ws t).2.1 ∧ OI m d rec (updO ox k (some (o, r, c, (wStep (spotOf m d) (rec k) 4 ⟨0, next, had, steps, sq, nn⟩ ws t).1))) holder done (wStep (spotOf m d) (rec k) 4 ⟨0, next, had, steps, sq, nn⟩ ws t).2.1) ∨
      ((wStep (spotOf m d) (rec k) 4 ⟨0, next, had, steps, sq, nn⟩ ws t).1.how = 2 ∧ holder ≠ k ∧ Same ws (wStep (spotOf m d) (rec k) 4 ⟨0, next, had, steps, sq, nn⟩ ws t).2.1 ∧ OI m d rec (updO ox k none) holder done (wStep (spotOf m d) (rec k) 4 ⟨0, next, had, steps, sq, nn⟩ ws t).2.1) := by
    intro y hy hne e1 e2
    rw [e1, e2]
    by_cases hsp : y.had + 1 = 4
    · exact .inr ⟨by simp [WS.again, hsp], hne, fun _ _ => rfl, h.aside hk hne _ (fun _ _ _ _ e => by simp at e)⟩
    · refine .inl ⟨by simp [WS.again, hsp, hy], hne, fun _ _ => rfl, h.aside hk hne _ (fun _ _ _ _ e => ?_)⟩
      simp only [Option.some.injEq, Prod.mk.injEq] at e
      obtain ⟨-, -, -, rfl⟩ := e
      exact ⟨by simp [WS.again, hsp, hy], by simp [WS.again], fun h1 => by simp [WS.again] at h1⟩
  rcases hnx with rfl | rfl | rfl | rfl
  · have hne : holder ≠ k := fun e => by
      have := hmine (by omega) e
      omega
    by_cases hev : wordF ws 1 % 2 = 0
    · have e : wStep (spotOf m d) (rec k) 4 ⟨0, 0, had, steps, sq, nn⟩ ws t = (⟨0, 1, had, steps + 1, wordF ws 1, nn⟩, ws, tickF ws 1 t) := by
        unfold wStep; simp only [ne_eq, not_true, if_false, if_true]; rw [hS, if_pos hin, if_pos hev]
      rw [e]
      refine .inl ⟨rfl, hne, fun _ _ => rfl, h.aside hk hne _ (fun _ _ _ _ e => ?_)⟩
      simp only [Option.some.injEq, Prod.mk.injEq] at e
      obtain ⟨-, -, -, rfl⟩ := e
      exact ⟨rfl, by simp, fun _ => hev⟩
    · have e : wStep (spotOf m d) (rec k) 4 ⟨0, 0, had, steps, sq, nn⟩ ws t = (WS.again 4 ⟨0, 0, had, steps, wordF ws 1, nn⟩, ws, tickF ws 1 t) := by
        unfold wStep; simp only [ne_eq, not_true, if_false, if_true]; rw [hS, if_pos hin, if_neg hev]
      have := hfail _ rfl hne (by rw [e]) (by rw [e])
      exact this.elim .inl (fun h => .inr (.inl h))
  · have hne : holder ≠ k := fun e => by
      have := hmine (by omega) e
      omega
    have hsq := (hside (fun e => hne e.symm)).2 rfl
    have hn0 : nn = 0 := hzero rfl (by omega)
    subst hn0
    by_cases hit : wordF ws 1 = sq
    · have hfree : holder < 0 := by
        rcases Int.lt_or_le holder 0 with h0 | h0
        · exact h0
        · obtain ⟨k2, _, _, h3, _⟩ := h.held h0
          omega
      have hw := h.free hfree
      have e : wStep (spotOf m d) (rec k) 4 ⟨0, 1, had, steps, sq, 0⟩ ws t = (⟨0, 2, had, steps + 1, sq, 0⟩, setF ws 1 (2 * (done : Int) + 1), tickF ws 1 t) := by
        unfold wStep; simp only [ne_eq, not_true, if_false, if_true, show ((1 : Int) = 0) = False by simp]
        rw [hS, if_pos hin, show casB ws 1 sq = true by unfold casB; rw [hit]; simp [hin], if_pos rfl, hwrap _ (by omega), ← hit, hw.2]
      rw [e]
      refine .inr (.inr (.inl ⟨rfl, hw.1, hsame1 _, ⟨by rw [setF_len]; exact h.len, fun j o2 r2 c2 x2 hj hx2 => ?_, fun j o2 r2 c2 x2 hj hx2 hh => ?_, fun h0 => by omega, fun _ => ⟨k, hk, rfl, wordF_setF hin, o, r, c, _, updO_self _ _ _, .inl rfl, by simp only; omega, fun j hj => by simp only at hj; omega⟩⟩⟩))
      · by_cases hjk : j = k
        · subst hjk
          rw [updO_self] at hx2
          simp only [Option.some.injEq, Prod.mk.injEq] at hx2
          obtain ⟨-, -, -, rfl⟩ := hx2
          rfl
        · rw [updO_ne _ _ hjk] at hx2; exact h.busy j _ _ _ _ hj hx2
      · rw [updO_ne _ _ (by omega)] at hx2
        exact h.side j _ _ _ _ hj hx2 (by omega)
    · have e : wStep (spotOf m d) (rec k) 4 ⟨0, 1, had, steps, sq, 0⟩ ws t = (WS.again 4 ⟨0, 1, had, steps, sq, 0⟩, ws, tickF ws 1 t) := by
        unfold wStep; simp only [ne_eq, not_true, if_false, if_true, show ((1 : Int) = 0) = False by simp]
        rw [hS, if_pos hin, show casB ws 1 sq = false by unfold casB; simp [hit], if_neg (by simp)]
      have := hfail _ rfl hne (by rw [e]) (by rw [e])
      exact this.elim .inl (fun h => .inr (.inl h))
  · have hhk : holder = k := by
      rcases Decidable.em (holder = k) with h0 | h0
      · exact h0
      · have := (hside (fun e => h0 e.symm)).1; omega
    obtain ⟨hw, -, hsq, hpl⟩ := hmine (by omega) hhk
    have hn := hi.n
    simp only at hn
    have hn2 := hn.2 trivial trivial
    have hn3 : nn < m := hn2
    have hap := alone_place (k := done) hm hd
    have e0 : placeF (spotOf m d) sq nn = ((plc m d (done + 1) + nn.toNat : Nat) : Int) := by
      unfold placeF plc
      rw [hsq, show (2 * (done : Int)) / 2 + 1 = done + 1 by omega, hwrap _ (by omega), hap.1]
      omega
    have hlt : plc m d (done + 1) + nn.toNat < ws.length := by unfold plc; rw [h.len]; omega
    have e : wStep (spotOf m d) (rec k) 4 ⟨0, 2, had, steps, sq, nn⟩ ws t = (⟨0, if nn + 1 = (m : Int) then 3 else 2, had, steps + 1, sq, nn + 1⟩, ws.set (plc m d (done + 1) + nn.toNat) (nth (rec k) nn.toNat), tickF ws (placeF (spotOf m d) sq nn) t) := by
      unfold wStep; simp only [ne_eq, not_true, if_false, if_true, show ((2 : Int) = 0) = False by simp, show ((2 : Int) = 1) = False by simp]
      rw [e0, if_pos (inW_nat _ _ hlt), setF_in (inW_nat _ _ hlt), Int.toNat_natCast, hr]
    rw [e]
    have hw1 : wordF (ws.set (plc m d (done + 1) + nn.toNat) (nth (rec k) nn.toNat)) 1 = wordF ws 1 := by
      have a := wordF_nat (ws.set (plc m d (done + 1) + nn.toNat) (nth (rec k) nn.toNat)) 1 (by rw [List.length_set]; have := hin.2; omega)
      have b := wordF_nat ws 1 (by have := hin.2; omega)
      rw [show ((1 : Nat) : Int) = 1 from rfl] at a b
      rw [a, b, nth_set _ _ _ _ hlt, if_neg (by unfold plc; omega)]
    refine .inr (.inr (.inr (.inl ⟨rfl, hhk, ⟨by rw [List.length_set]; exact h.len, fun j o2 r2 c2 x2 hj hx2 => ?_, fun j o2 r2 c2 x2 hj hx2 hh => ?_, fun h0 => by omega, fun _ => ⟨k, hk, rfl, by rw [hw1, hw], o, r, c, _, updO_self _ _ _, ?_, hsq, fun j hj => ?_⟩⟩⟩)))
    · by_cases hjk : j = k
      · subst hjk
        rw [updO_self] at hx2
        simp only [Option.some.injEq, Prod.mk.injEq] at hx2
        obtain ⟨-, -, -, rfl⟩ := hx2
        rfl
      · rw [updO_ne _ _ hjk] at hx2; exact h.busy j _ _ _ _ hj hx2
    · rw [updO_ne _ _ (by omega)] at hx2
      exact h.side j _ _ _ _ hj hx2 (by omega)
    · simp only
      split
      · rename_i h1; exact .inr ⟨rfl, h1⟩
      · exact .inl rfl
    · simp only at hj
      rw [nth_set _ _ _ _ hlt]
      by_cases hjn : j = nn.toNat
      · subst hjn; rw [if_pos rfl]
      · rw [if_neg (by omega)]
        exact hpl j (by omega)
  · have hhk : holder = k := by
      rcases Decidable.em (holder = k) with h0 | h0
      · exact h0
      · have := (hside (fun e => h0 e.symm)).1; omega
    obtain ⟨hw, hnm, hsq, hpl⟩ := hmine (by omega) hhk
    have hnm2 : nn = m := by omega
    have e : wStep (spotOf m d) (rec k) 4 ⟨0, 3, had, steps, sq, nn⟩ ws t = (⟨1, 3, had, steps + 1, sq, nn⟩, setF ws 1 (2 * (done : Int) + 2), tickF ws 1 t) := by
      unfold wStep; simp only [ne_eq, not_true, if_false, if_true, show ((3 : Int) = 0) = False by simp, show ((3 : Int) = 1) = False by simp, show ((3 : Int) = 2) = False by simp]
      rw [hS, if_pos hin, hwrap _ (by omega), hsq]
    rw [e]
    refine .inr (.inr (.inr (.inr ⟨rfl, hhk, hsame1 _, ?_, ⟨by rw [setF_len]; exact h.len, fun j o2 r2 c2 x2 hj hx2 => ?_, fun j o2 r2 c2 x2 hj hx2 hh => ?_, fun _ => ⟨rfl, by rw [wordF_setF hin]; omega⟩, fun h0 => by omega⟩, fun j hj => ?_⟩)))
    · unfold WS.gen
      simp only [if_true]
      rw [hwrap _ (by omega)]
      omega
    · by_cases hjk : j = k
      · subst hjk; rw [updO_self] at hx2; simp at hx2
      · rw [updO_ne _ _ hjk] at hx2; exact h.busy j _ _ _ _ hj hx2
    · by_cases hjk : j = k
      · subst hjk; rw [updO_self] at hx2; simp at hx2
      · rw [updO_ne _ _ hjk] at hx2
        exact h.side j _ _ _ _ hj hx2 (by omega)
    · rw [hsame1 _ _ (by unfold plc; omega)]
      exact hpl j (by omega)
/-- an array of three slices of integers that came in by value -/
structure Rows3 (w : World) (v : Value) (vs : Nat → Value) (xs : Nat → List Int) : Prop where
  form : v = .agg #[vs 0, vs 1, vs 2]
  rows : ∀ i, i < 3 → Ints w .u64 (vs i) (xs i) ∧ ∀ y ∈ xs i, (Lit.int .u64 y).wf = true
section
variable {H : Type} {enc : TypeId × Value → H} {P : Program}
theorem rows3_any {W : World} {t e f : TypeId} {r : Reach} {b : Nat} {v : Value} {d : DataW H} {p : List MemPlace} (ht : P.underlying t = some (.array 3 e)) (he : P.underlying e = some (.slice f)) (hf : P.underlying f = some (.int .u64)) (hce : P.cellsOf e = 1) (hcf : P.cellsOf f = 1) (hct : P.cellsOf t = 3)
    (hv : Value.okWide P W r b t v) (h : DataW.Trod enc P W 0 (fun _ => true) true t v d p) : ∃ x : (Nat → Value) × (Nat → List Int), Rows3 W v x.1 x.2 := by
  simp only [Value.okWide, ht] at hv
  obtain ⟨cs, rfl, hsz, _⟩ := hv
  rw [hct] at hsz
  obtain ⟨c0, c1, c2, rfl⟩ : ∃ c0 c1 c2, cs = #[c0, c1, c2] := by
    obtain ⟨l⟩ := cs
    match l, hsz with
    | [a, b, c], _ => exact ⟨a, b, c, rfl⟩
  obtain ⟨fuel, hfu⟩ := h
  have hfu' : DataW.trod enc P W 0 (fun _ => true) true fuel t [c0, c1, c2] = some (d, p) := hfu
  obtain ⟨y0, y1, y2, n, -, h0, h1, h2⟩ := trod_array3 ht hce hfu'
  obtain ⟨v0, x0, e0, i0, w0⟩ := ints_of_cs he hf hcf h0
  obtain ⟨v1, x1, e1, i1, w1⟩ := ints_of_cs he hf hcf h1
  obtain ⟨v2, x2, e2, i2, w2⟩ := ints_of_cs he hf hcf h2
  simp only [List.cons.injEq, and_true] at e0 e1 e2
  subst e0 e1 e2
  refine ⟨(fun i => if i = 0 then c0 else if i = 1 then c1 else c2, fun i => if i = 0 then x0 else if i = 1 then x1 else x2), ⟨rfl, fun i hi => ?_⟩⟩
  match i, hi with
  | 0, _ => exact ⟨i0, w0⟩
  | 1, _ => exact ⟨i1, w1⟩
  | 2, _ => exact ⟨i2, w2⟩
end
end Go.Proofs.Ytpfjadgcnaffgaa.Bank
