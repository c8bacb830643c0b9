/-
  Law 10: writers of several topics beside each other: a step of one of them, and the row of operations. Conditions stand at each. By an AI agent.
-/
import Derived.Test.YtjdalllfnlpmnaaSnXb
namespace Go.Proofs.Ytjdalllfnlpmnaa.Bank
set_option linter.unusedVariables false
set_option linter.unusedSimpArgs false
open Go Go.RowKit Go.Proofs.Ytjdalllfnlpmnaa.Base
/-- what step i of a publishing that nobody else meddles with makes of the words -/
def stepW (q p : Nat) (rec : List Int) (k : Nat) (ws : List Int) (i : Nat) : List Int :=
  if i = 0 then ws else if i = 1 then ws.set q (2 * k + 1) else if i < rec.length + 2 then ws.set (p + (i - 2)) (nth rec (i - 2)) else ws.set q (2 * k + 2)
theorem stepW_len (q p : Nat) (rec : List Int) (k : Nat) (ws : List Int) (i : Nat) : (stepW q p rec k ws i).length = ws.length := by
  unfold stepW
  split
  · rfl
  split
  · exact List.length_set ..
  split <;> exact List.length_set ..
theorem w_step {s : Spot} {rec : List Int} {k p : Nat} {ws : List Int} {q : Nat} {t : Int} (hl : 1 ≤ rec.length) (hq : s.seq = q) (hql : q < ws.length) (hk : k < 4611686018427387904)
    (hp : atF s (k + 1) = p) (hpl : p + rec.length ≤ ws.length) {i : Nat} (hi : i < rec.length + 3) (hw : nth ws q = if i ≤ 1 then 2 * (k : Int) else 2 * (k : Int) + 1) :
    wStep s rec 1 (aloneX rec.length k i) ws t = (aloneX rec.length k (i + 1), stepW q p rec k ws i, IntKind.i64.wrap (t + 1)) := by
  have hin : inW ws s.seq := by rw [hq]; exact inW_nat _ _ hql
  have hwF : wordF ws s.seq = nth ws q := by rw [hq]; exact wordF_nat _ _ hql
  have hset : ∀ (x : Int), setF ws s.seq x = ws.set q x := fun x => by rw [setF_in hin, hq]; simp
  have htick : tickF ws s.seq t = IntKind.i64.wrap (t + 1) := tickF_in hin
  have hwr : ∀ x : Int, 0 ≤ x ∧ x ≤ 18446744073709551615 → IntKind.u64.wrap x = x := fun x h => u64_wrap_in h
  by_cases h0 : i = 0
  · subst h0
    rw [if_pos (by omega)] at hw
    have e1 : aloneX rec.length k 0 = WS.zero := rfl
    have e3 : aloneX rec.length k (0 + 1) = ⟨0, 1, 0, 1, 2 * k, 0⟩ := rfl
    have e4 : stepW q p rec k ws 0 = ws := rfl
    rw [e1, e3, e4]
    unfold wStep WS.zero
    simp only [ne_eq, not_true, if_false, if_true]
    rw [if_pos hin, hwF, hw, if_pos (by omega), htick]
    rfl
  · by_cases h1 : i = 1
    · subst h1
      rw [if_pos (by omega)] at hw
      have e1 : aloneX rec.length k 1 = ⟨0, 1, 0, 1, 2 * k, 0⟩ := rfl
      have e3 : aloneX rec.length k (1 + 1) = ⟨0, 2, 0, 2, 2 * k, 0⟩ := by unfold aloneX; rw [if_neg (by omega), if_neg (by omega), if_pos (by omega)]; rfl
      have e4 : stepW q p rec k ws 1 = ws.set q (2 * k + 1) := rfl
      rw [e1, e3, e4]
      unfold wStep
      simp only [ne_eq, not_true, if_false, if_true]
      have hc : casB ws s.seq (2 * (k : Int)) = true := by rw [casB_in hin, hq, Int.toNat_natCast, hw]; simp
      rw [if_neg (by omega), if_pos hin, if_pos hc, hset _, hwr _ (by omega), htick]
      rfl
    · by_cases h2 : i ≤ rec.length + 1
      · have e1 : aloneX rec.length k i = ⟨0, 2, 0, i, 2 * k, (i : Int) - 2⟩ := by unfold aloneX; rw [if_neg h0, if_neg h1, if_pos h2]
        have e4 : stepW q p rec k ws i = ws.set (p + (i - 2)) (nth rec (i - 2)) := by unfold stepW; rw [if_neg h0, if_neg h1, if_pos (by omega)]
        have e3 : aloneX rec.length k (i + 1) = ⟨0, if (i : Int) - 2 + 1 = (rec.length : Int) then 3 else 2, 0, (i : Int) + 1, 2 * k, (i : Int) - 2 + 1⟩ := by
          unfold aloneX
          rw [if_neg (by omega), if_neg (by omega)]
          by_cases h3 : i + 1 ≤ rec.length + 1
          · rw [if_pos h3, if_neg (by omega)]
            simp; omega
          · rw [if_neg h3, if_pos (by omega), if_pos (by omega)]
            simp; omega
        have hpl2 : placeF s (2 * k) ((i : Int) - 2) = ((p + (i - 2) : Nat) : Int) := by
          unfold placeF
          rw [show (2 * (k : Int)) / 2 + 1 = k + 1 by omega, hwr _ (by omega), hp]
          omega
        rw [e1, e3, e4]
        unfold wStep
        simp only [ne_eq, not_true, if_false, if_true]
        rw [if_neg (by omega), if_neg (by omega), hpl2, if_pos (inW_nat _ _ (by omega)), setF_in (inW_nat _ _ (by omega)), tickF_in (inW_nat _ _ (by omega)), Int.toNat_natCast]
        rw [show ((i : Int) - 2).toNat = i - 2 by omega]
      · obtain rfl : i = rec.length + 2 := by omega
        have e1 : aloneX rec.length k (rec.length + 2) = ⟨0, 3, 0, ((rec.length + 2 : Nat) : Int), 2 * k, rec.length⟩ := by unfold aloneX; rw [if_neg h0, if_neg h1, if_neg h2, if_pos rfl]
        have e3 : aloneX rec.length k (rec.length + 2 + 1) = ⟨1, 3, 0, rec.length + 3, 2 * k, rec.length⟩ := by
          unfold aloneX
          rw [if_neg (by omega), if_neg (by omega), if_neg (by omega), if_neg (by omega)]
        have e4 : stepW q p rec k ws (rec.length + 2) = ws.set q (2 * k + 2) := by
          unfold stepW
          rw [if_neg (by omega), if_neg (by omega), if_neg (by omega)]
        rw [e1, e3, e4]
        unfold wStep
        simp only [ne_eq, not_true, if_false, if_true]
        rw [if_neg (by omega), if_neg (by omega), if_neg (by omega), if_pos hin, hset _, hwr _ (by omega), htick]
        have : (((rec.length + 2 : Nat) : Int) + 1) = (rec.length : Int) + 3 := by omega
        rw [this]
theorem aloneX_how (m k i : Nat) (hi : i ≤ m + 3) : (aloneX m k i).how = if i = m + 3 then 1 else 0 := by
  unfold aloneX WS.zero
  repeat' split
  all_goals first | rfl | omega
/-- an operation that is under way: its blocks, what its record is made of, how many steps it did -/
structure W1 where
  o : Nat
  r : Nat
  cc : Nat
  x : Int
  i : Nat
/-- the words: of each topic its sequence, as the operation under way left it -/
def BInv (l : Nat → Tp) (n N : Nat) (ws : List Int) (cnt : Nat → Nat) (st : Nat → Option W1) : Prop :=
  ws.length = N ∧ ∀ k, k < n → nth ws (qT l k) = 2 * (cnt k : Int) + (match st k with | none => 0 | some s => if 2 ≤ s.i then 1 else 0)
def upS (st : Nat → Option W1) (k : Nat) (y : Option W1) : Nat → Option W1 := fun j => if j = k then y else st j
theorem upS_self (st : Nat → Option W1) (k : Nat) (y : Option W1) : upS st k y k = y := if_pos rfl
theorem upS_ne (st : Nat → Option W1) {k j : Nat} (y : Option W1) (h : j ≠ k) : upS st k y j = st j := if_neg h
theorem BInv.gen {l : Nat → Tp} {n N : Nat} {ws : List Int} {cnt : Nat → Nat} {st : Nat → Option W1} (h : BInv l n N ws cnt st) : GenIs l n N ws cnt := by
  refine ⟨h.1, fun j hj => ?_⟩
  rw [h.2 j hj]
  split
  · omega
  · split <;> omega
theorem stepW_other {l : Nat → Tp} {n N : Nat} (hok : TOk n l) (hN : (N : Int) = offT l n) {ws : List Int} (hl : ws.length = N) {j k c : Nat} (hj : j < n) (hk : k < n) (hne : j ≠ k) (x : Int) {i : Nat} (hi : i < mT l k + 3) :
    nth (stepW (qT l k) (pG l k c) (recL (mT l k) x) c ws i) (qT l j) = nth ws (qT l j) := by
  have g := geo hok hN hk c
  have ha := seq_apart hok hN hj hk hne c
  unfold stepW
  rw [recL_len]
  split
  · rfl
  split
  · rw [nth_set _ _ _ _ (by rw [hl]; exact g.2.2.2.1), if_neg ha.1]
  split
  · rw [nth_set _ _ _ _ (by rw [hl]; omega), if_neg (by omega)]
  · rw [nth_set _ _ _ _ (by rw [hl]; exact g.2.2.2.1), if_neg ha.1]
theorem stepW_self {l : Nat → Tp} {n N : Nat} (hok : TOk n l) (hN : (N : Int) = offT l n) {ws : List Int} (hl : ws.length = N) {k c : Nat} (hk : k < n) (x : Int) {i : Nat} (hi : i < mT l k + 3) (hw : nth ws (qT l k) = if i ≤ 1 then 2 * (c : Int) else 2 * (c : Int) + 1) :
    nth (stepW (qT l k) (pG l k c) (recL (mT l k) x) c ws i) (qT l k) = if i = 0 then 2 * (c : Int) else if i < mT l k + 2 then 2 * (c : Int) + 1 else 2 * (c : Int) + 2 := by
  have g := geo hok hN hk c
  unfold stepW
  rw [recL_len]
  by_cases h0 : i = 0
  · rw [if_pos h0, if_pos h0, hw, if_pos (by omega)]
  rw [if_neg h0, if_neg h0]
  by_cases h1 : i = 1
  · rw [if_pos h1, nth_set _ _ _ _ (by rw [hl]; exact g.2.2.2.1), if_pos rfl, if_pos (by omega)]
  rw [if_neg h1]
  by_cases h2 : i < mT l k + 2
  · rw [if_pos h2, if_pos h2, nth_set _ _ _ _ (by rw [hl]; omega), if_neg (by omega), hw, if_neg (by omega)]
  · rw [if_neg h2, if_neg h2, nth_set _ _ _ _ (by rw [hl]; exact g.2.2.2.1), if_pos rfl]
/-- a step of topic k's operation that does not end it -/
theorem BInv.busy {l : Nat → Tp} {n N : Nat} (hok : TOk n l) (hN : (N : Int) = offT l n) {ws : List Int} {cnt : Nat → Nat} {st : Nat → Option W1} (h : BInv l n N ws cnt st) {k : Nat} (hk : k < n) {s : W1} (hs : st k = some s) (hi : s.i + 1 < mT l k + 3) :
    BInv l n N (stepW (qT l k) (pG l k (cnt k)) (recL (mT l k) s.x) (cnt k) ws s.i) cnt (upS st k (some { s with i := s.i + 1 })) := by
  refine ⟨by rw [stepW_len]; exact h.1, fun j hj => ?_⟩
  by_cases e : j = k
  · subst e
    have h2 := h.2 j hj
    rw [hs] at h2
    simp only at h2
    rw [upS_self, stepW_self hok hN h.1 hj _ (by omega) (by rw [h2]; by_cases e : s.i ≤ 1 <;> simp [e] <;> omega)]
    simp only
    by_cases h0 : s.i = 0
    · rw [if_pos h0, if_neg (by omega)]; omega
    · rw [if_neg h0, if_pos (by omega), if_pos (by omega)]
  · rw [upS_ne _ _ e, stepW_other hok hN h.1 hj hk e _ (by omega)]
    exact h.2 j hj
/-- the last step of topic k's operation -/
theorem BInv.last {l : Nat → Tp} {n N : Nat} (hok : TOk n l) (hN : (N : Int) = offT l n) {ws : List Int} {cnt : Nat → Nat} {st : Nat → Option W1} (h : BInv l n N ws cnt st) {k : Nat} (hk : k < n) {s : W1} (hs : st k = some s) (hi : s.i + 1 = mT l k + 3) :
    BInv l n N (stepW (qT l k) (pG l k (cnt k)) (recL (mT l k) s.x) (cnt k) ws s.i) (upC cnt k (cnt k + 1)) (upS st k none) := by
  have g := geo hok hN hk 0
  refine ⟨by rw [stepW_len]; exact h.1, fun j hj => ?_⟩
  unfold upC
  by_cases e : j = k
  · subst e
    have h2 := h.2 j hj
    rw [hs] at h2
    simp only at h2
    rw [upS_self, stepW_self hok hN h.1 hj _ (by omega) (by rw [h2]; by_cases e : s.i ≤ 1 <;> simp [e] <;> omega), if_pos rfl]
    simp only
    rw [if_neg (by omega), if_neg (by omega)]
    push_cast
    omega
  · rw [upS_ne _ _ e, stepW_other hok hN h.1 hj hk e _ (by omega), if_neg e]
    exact h.2 j hj
theorem BInv.fresh {l : Nat → Tp} {n N : Nat} {ws : List Int} {cnt : Nat → Nat} {st : Nat → Option W1} (h : BInv l n N ws cnt st) {k : Nat} (hk : k < n) (hs : st k = none) {s : W1} (hi : s.i = 0) : BInv l n N ws cnt (upS st k (some s)) := by
  refine ⟨h.1, fun j hj => ?_⟩
  by_cases e : j = k
  · subst e
    have h2 := h.2 j hj
    rw [hs] at h2
    rw [upS_self, h2]
    simp [hi]
  · rw [upS_ne _ _ e]
    exact h.2 j hj
theorem BInv.zero {l : Nat → Tp} {n N : Nat} : BInv l n N (zeros N) (fun _ => 0) (fun _ => none) := ⟨zeros_len N, fun k _ => by rw [nth_zeros]; rfl⟩
def ptrV (y : Option W1) : Value := .pointer (y.map fun s => ⟨s.o, 0, none⟩)
def ptrs (n : Nat) (st : Nat → Option W1) : Array Value := ((List.range n).map fun k => ptrV (st k)).toArray
/-- the row of operations; each block has an owner -/
structure OpsAt (w : World) (ob n B : Nat) (l : Nat → Tp) (cnt : Nat → Nat) (st : Nat → Option W1) (lam : Nat → Nat) : Prop where
  row : Blk w ob 61 (ptrs n st)
  ops : ∀ k, k < n → ∀ s, st k = some s → OpAt w s.o s.r s.cc (laidS l k) (recL (mT l k) s.x) 1 (aloneX (mT l k) (cnt k) s.i) ∧ s.i < mT l k + 3 ∧ B ≤ s.o ∧ B ≤ s.r ∧ lam s.o = k ∧ lam s.r = k
theorem OpsAt.ex {T : Nat → Prop} {w w' : World} {ob n B : Nat} {l : Nat → Tp} {cnt : Nat → Nat} {st : Nat → Option W1} {lam : Nat → Nat} (h : OpsAt w ob n B l cnt st lam) (p : Ex T w w') (h1 : ¬ T ob) (h2 : ∀ k, T k → k < B) : OpsAt w' ob n B l cnt st lam :=
  ⟨h.row.ex p h1, fun k hk s hs => by
    obtain ⟨a, b, c, d, e⟩ := h.ops k hk s hs
    exact ⟨a.ex p (fun ht => by have := h2 _ ht; omega) (fun ht => by have := h2 _ ht; omega), b, c, d, e⟩⟩
theorem OpsAt.bl {w w' : World} {ob n B : Nat} {l : Nat → Tp} {cnt : Nat → Nat} {st : Nat → Option W1} {lam : Nat → Nat} (h : OpsAt w ob n B l cnt st lam) (p : Below w.heap.size w w') : OpsAt w' ob n B l cnt st lam :=
  h.ex (T := fun _ => False) (Ex.of_below p) (fun h => h) (fun _ h => h.elim)
theorem ptrs_nth {n : Nat} {st : Nat → Option W1} {k : Nat} (hk : k < n) : (ptrs n st)[k]? = some (ptrV (st k)) := by
  simp [ptrs, List.getElem?_map, List.getElem?_range hk]
theorem OpsAt.cell {w : World} {ob n B : Nat} {l : Nat → Tp} {cnt : Nat → Nat} {st : Nat → Option W1} {lam : Nat → Nat} (h : OpsAt w ob n B l cnt st lam) {k : Nat} (hk : k < n) : w.cell? ⟨ob, k, none⟩ = some (ptrV (st k)) := by
  rw [h.row.cell]; exact ptrs_nth hk
theorem ptrs_set {n : Nat} {st : Nat → Option W1} {k : Nat} (y : Option W1) : (ptrs n st).setIfInBounds k (ptrV y) = ptrs n (upS st k y) := by
  apply Array.ext'
  unfold ptrs
  rw [Array.toList_setIfInBounds]
  refine List.ext_getElem? fun i => ?_
  rw [List.getElem?_set]
  simp only [List.length_map, List.length_range]
  by_cases e : k = i
  · subst e
    rw [if_pos rfl]
    by_cases hk : k < n
    · rw [if_pos hk]
      simp [List.getElem?_map, List.getElem?_range hk, upS]
    · rw [if_neg hk]
      simp [List.getElem?_eq_none, hk]
  · rw [if_neg e]
    by_cases hi : i < n
    · simp [List.getElem?_map, List.getElem?_range hi, upS, show i ≠ k from fun h => e h.symm]
    · rw [List.getElem?_eq_none (by simpa using hi), List.getElem?_eq_none (by simpa using hi)]
/-- a store into the row, of an operation that is new, or of none -/
theorem OpsAt.none_ {w : World} {ob n B : Nat} {l : Nat → Tp} {cnt : Nat → Nat} {st : Nat → Option W1} {lam : Nat → Nat} (h : OpsAt w ob n B l cnt st lam) (hob : ob < B) {k : Nat} (hk : k < n) : OpsAt (w.setCell ⟨ob, k, none⟩ (.pointer none)) ob n B l cnt (upS st k none) lam := by
  have hx := (Ex.refl (fun b => b = ob) w).setCell (q := ⟨ob, k, none⟩) (.inl rfl) (.pointer none)
  refine ⟨?_, fun j hj s hs => ?_⟩
  · have := h.row.set_ k (.pointer none)
    rw [show (Value.pointer none) = ptrV none from rfl, ptrs_set] at this
    exact this
  · by_cases e : j = k
    · subst e; rw [upS_self] at hs; cases hs
    · rw [upS_ne _ _ e] at hs
      obtain ⟨a, b, c, d, e⟩ := h.ops j hj s hs
      exact ⟨a.ex hx (by omega) (by omega), b, c, d, e⟩
theorem OpsAt.some_ {w : World} {ob n B : Nat} {l : Nat → Tp} {cnt : Nat → Nat} {st : Nat → Option W1} {lam : Nat → Nat} (h : OpsAt w ob n B l cnt st lam) (hob : ob < B) {k : Nat} (hk : k < n) {s : W1} {size : Nat}
    (ho : OpAt w s.o s.r s.cc (laidS l k) (recL (mT l k) s.x) 1 (aloneX (mT l k) (cnt k) s.i)) (hi : s.i < mT l k + 3) (hB : B ≤ size) (h1 : size ≤ s.o) (h2 : size ≤ s.r) (hold : ∀ j, j < n → j ≠ k → ∀ a, st j = some a → a.o < size ∧ a.r < size) :
    OpsAt (w.setCell ⟨ob, k, none⟩ (.pointer (some ⟨s.o, 0, none⟩))) ob n B l cnt (upS st k (some s)) (fun b => if b < size then lam b else k) := by
  have hx := (Ex.refl (fun b => b = ob) w).setCell (q := ⟨ob, k, none⟩) (.inl rfl) (.pointer (some ⟨s.o, 0, none⟩))
  refine ⟨?_, fun j hj a ha => ?_⟩
  · have := h.row.set_ k (.pointer (some ⟨s.o, 0, none⟩))
    rw [show (Value.pointer (some ⟨s.o, 0, none⟩)) = ptrV (some s) from rfl, ptrs_set] at this
    exact this
  · by_cases e : j = k
    · subst e
      rw [upS_self] at ha
      injection ha with ha
      subst ha
      exact ⟨ho.ex hx (by omega) (by omega), hi, by omega, by omega, if_neg (by omega), if_neg (by omega)⟩
    · rw [upS_ne _ _ e] at ha
      obtain ⟨a1, b, c, d, e1, e2⟩ := h.ops j hj a ha
      have := hold j hj e a ha
      exact ⟨a1.ex hx (by omega) (by omega), b, c, d, by rw [if_pos this.1]; exact e1, by rw [if_pos this.2]; exact e2⟩
theorem OpsAt.lt {w : World} {ob n B : Nat} {l : Nat → Tp} {cnt : Nat → Nat} {st : Nat → Option W1} {lam : Nat → Nat} (h : OpsAt w ob n B l cnt st lam) {k : Nat} (hk : k < n) {s : W1} (hs : st k = some s) : s.o < w.heap.size ∧ s.r < w.heap.size := by
  have := (h.ops k hk s hs).1
  exact ⟨this.head.lt, this.row.lt⟩
/-- topic k's operation did a step that does not end it -/
theorem OpsAt.step {w w' : World} {ob n B g hh : Nat} {l : Nat → Tp} {cnt : Nat → Nat} {st : Nat → Option W1} {lam : Nat → Nat} (h : OpsAt w ob n B l cnt st lam) (hB : ob < B ∧ g < B ∧ hh < B) (hne : ob ≠ g ∧ ob ≠ hh) {k : Nat} (hk : k < n) {s : W1} (hs : st k = some s) (p : Ex (fun b => b = g ∨ b = hh ∨ b = s.o) w w')
    (ho : OpAt w' s.o s.r s.cc (laidS l k) (recL (mT l k) s.x) 1 (aloneX (mT l k) (cnt k) (s.i + 1))) (hi : s.i + 1 < mT l k + 3) : OpsAt w' ob n B l cnt (upS st k (some { s with i := s.i + 1 })) lam := by
  obtain ⟨a0, b0, c0, d0, e0, f0⟩ := h.ops k hk s hs
  refine ⟨?_, fun j hj a ha => ?_⟩
  · have h1 : Blk w' ob 61 (ptrs n st) := h.row.ex p (by omega)
    have e : ptrs n (upS st k (some { s with i := s.i + 1 })) = ptrs n st := by
      unfold ptrs
      congr 1
      refine List.map_congr_left fun j hj => ?_
      by_cases e : j = k
      · subst e; rw [upS_self, hs]; rfl
      · rw [upS_ne _ _ e]
    rw [e]
    exact h1
  · by_cases e : j = k
    · subst e
      rw [upS_self] at ha
      injection ha with ha
      subst ha
      exact ⟨ho, hi, c0, d0, e0, f0⟩
    · rw [upS_ne _ _ e] at ha
      obtain ⟨a1, b1, c1, d1, e1, f1⟩ := h.ops j hj a ha
      have n1 : a.o ≠ s.o := fun x => e (by rw [← e1, ← e0, x])
      have n2 : a.r ≠ s.o := fun x => e (by rw [← f1, ← e0, x])
      exact ⟨a1.ex p (by omega) (by omega), b1, c1, d1, e1, f1⟩
/-- topic k's operation did its last step: the other ones stand as they did -/
theorem OpsAt.ended {w w' : World} {ob n B g hh : Nat} {l : Nat → Tp} {cnt : Nat → Nat} {st : Nat → Option W1} {lam : Nat → Nat} (h : OpsAt w ob n B l cnt st lam) (hB : ob < B ∧ g < B ∧ hh < B) (hne : ob ≠ g ∧ ob ≠ hh) {k : Nat} (hk : k < n) {s : W1} (hs : st k = some s) (p : Ex (fun b => b = g ∨ b = hh ∨ b = s.o) w w') (c : Nat) :
    OpsAt (w'.setCell ⟨ob, k, none⟩ (.pointer none)) ob n B l (upC cnt k c) (upS st k none) lam := by
  obtain ⟨a0, b0, c0, d0, e0, f0⟩ := h.ops k hk s hs
  have hx := (Ex.refl (fun b => b = ob) w').setCell (q := ⟨ob, k, none⟩) (.inl rfl) (.pointer none)
  refine ⟨?_, fun j hj a ha => ?_⟩
  · have h1 : Blk w' ob 61 (ptrs n st) := h.row.ex p (by omega)
    have := h1.set_ k (.pointer none)
    rw [show (Value.pointer none) = ptrV none from rfl, ptrs_set] at this
    exact this
  · by_cases e : j = k
    · subst e; rw [upS_self] at ha; cases ha
    · rw [upS_ne _ _ e] at ha
      obtain ⟨a1, b1, c1, d1, e1, f1⟩ := h.ops j hj a ha
      have n1 : a.o ≠ s.o := fun x => e (by rw [← e1, ← e0, x])
      have n2 : a.r ≠ s.o := fun x => e (by rw [← f1, ← e0, x])
      have ec : upC cnt k c j = cnt j := if_neg e
      rw [ec]
      exact ⟨(a1.ex p (by omega) (by omega)).ex hx (by omega) (by omega), b1, c1, d1, e1, f1⟩
theorem ptr_info : (Try.prog.info? 61).map (fun i => (i.zero, i.size, i.bytes)) = some (some (.pointer none), 1, 8) := by kernel_rfl
set_option maxRecDepth 100000 in
theorem make_ptrs (n : Nat) (hn : n ≤ 1048576) (w : World) :
    (Instr.makeSlice 60 (.int .i64 (n : Int)) (.int .i64 (n : Int))).run Try.prog w = .ok (.slice (some ⟨w.heap.size, 0, none⟩) n n) (w.alloc (.cells (ptrs n (fun _ => none)) 61)) := by
  obtain ⟨i0, hi, hz0, hz1, hz2⟩ := info_parts ptr_info
  have hr := run_make (P := Try.prog) w 60 61 i0 _ Try.underlying60 hi hz0 .i64 .i64 n n (by omega) (by omega) (by rw [hz2]; omega) (by omega)
  rw [hr, hz1]
  simp only [Int.toNat_natCast, Nat.mul_one]
  congr 3
  apply Array.toList_inj.1
  rw [show (Value.pointer none).cells = #[.pointer none] from rfl, toList_madeCells_one]
  unfold ptrs ptrV
  simp only [Option.map_none]
  refine List.ext_getElem? fun i => ?_
  by_cases hi : i < n
  · simp [List.getElem?_map, List.getElem?_range hi, List.getElem?_replicate, hi]
  · rw [List.getElem?_eq_none (by simpa using hi), List.getElem?_eq_none (by simpa using hi)]
end Go.Proofs.Ytjdalllfnlpmnaa.Bank
