/-
  A topic in a bank: who holds its sequence, what stands in its places, and what a step of a publishing makes of that. No program. By an AI agent.
-/
import Derived.Test.YtihogagnjikghaaWrA
namespace Go.Proofs.Ytihogagnjikghaa.Bank
set_option linter.unusedVariables false
set_option linter.unusedSimpArgs false
open Go Go.RowKit Go.Proofs.Ytihogagnjikghaa.Base

/-- the spot of a topic that lies from word b on -/
def spotB (b m d : Nat) : Spot := ⟨(b : Int), ((b + 1 : Nat) : Int), ((b + 2 : Nat) : Int), m, d⟩
def plB (b m d gen : Nat) : Nat := b + 2 + gen % d * m
theorem plB_at {b m d : Nat} (hm : 1 ≤ m ∧ m ≤ 64) (hd : 2 ≤ d ∧ d ≤ 16) (hb : b ≤ 1000000) (gen : Nat) : atF (spotB b m d) gen = (plB b m d gen : Int) := by
  rw [atF_ok (by unfold Spot.AtOk spotB; simp only; omega)]
  unfold spotB plB
  simp only
  push_cast
  rfl
theorem plB_fit {m d : Nat} (b : Nat) (hd : 1 ≤ d) (gen : Nat) : plB b m d gen + m ≤ b + 2 + m * d := by
  have h1 : gen % d < d := Nat.mod_lt _ (by omega)
  have h2 : (gen % d + 1) * m ≤ d * m := Nat.mul_le_mul_right _ h1
  rw [Nat.add_mul, Nat.one_mul, Nat.mul_comm d m] at h2
  unfold plB
  omega
theorem plB_ge (b m d gen : Nat) : b + 2 ≤ plB b m d gen := by unfold plB; omega
theorem plB_apart {m d : Nat} (b : Nat) {g1 g2 : Nat} (h1 : g1 < g2) (h2 : g2 < g1 + d) : plB b m d g1 + m ≤ plB b m d g2 ∨ plB b m d g2 + m ≤ plB b m d g1 := by
  have h : g1 % d ≠ g2 % d := by
    intro h
    have h9 : (g2 - g1) % d = 0 := Nat.sub_mod_eq_zero_of_mod_eq h.symm
    rw [Nat.mod_eq_of_lt (by omega)] at h9
    omega
  unfold plB
  rcases Nat.lt_or_gt_of_ne h with h1 | h1
  · left
    have := Nat.mul_le_mul_right m (show g1 % d + 1 ≤ g2 % d from h1)
    rw [Nat.add_mul, Nat.one_mul] at this
    omega
  · right
    have := Nat.mul_le_mul_right m (show g2 % d + 1 ≤ g1 % d from h1)
    rw [Nat.add_mul, Nat.one_mul] at this
    omega
abbrev PXs := Nat → Option WS
def updX {α : Type} (xs : Nat → α) (k : Nat) (y : α) : Nat → α := fun j => if j = k then y else xs j
theorem updX_self {α : Type} (xs : Nat → α) (k : Nat) (y : α) : updX xs k y k = y := if_pos rfl
theorem updX_ne {α : Type} (xs : Nat → α) {k j : Nat} (y : α) (h : j ≠ k) : updX xs k y j = xs j := if_neg h
/-- the newest generation whose place is, or was, written into -/
def newTI (N : Nat) (holder : Int) : Nat := if holder < 0 then N else N + 1
structure TI (b m d nk : Nat) (recs mine : Nat → List Int) (xs : PXs) (holder : Int) (N : Nat) (ws : List Int) : Prop where
  len : b + 2 + m * d ≤ ws.length
  busy : ∀ k x, k < nk → xs k = some x → x.how = 0
  side : ∀ k x, k < nk → xs k = some x → (k : Int) ≠ holder → x.next < 2 ∧ (x.next = 1 → x.sq % 2 = 0)
  sole : nk = 1 → ∀ x, xs 0 = some x → x.next = 1 → x.sq = nth ws (b + 1)
  free : holder < 0 → holder = -1 ∧ nth ws (b + 1) = 2 * (N : Int)
  held : 0 ≤ holder → ∃ k : Nat, k < nk ∧ holder = k ∧ nth ws (b + 1) = 2 * (N : Int) + 1 ∧ ∃ x, xs k = some x ∧ (x.next = 2 ∧ x.n < m ∨ x.next = 3 ∧ x.n = m) ∧ x.sq = 2 * (N : Int) ∧ ∀ j : Nat, (j : Int) < x.n → nth ws (plB b m d (N + 1) + j) = nth (mine k) j
  whole : ∀ g, g ≤ N → newTI N holder < g + d → ∀ j, j < m → nth ws (plB b m d g + j) = nth (recs g) j
theorem updX_updX {α : Type} (xs : Nat → α) (k : Nat) (y z : α) : updX (updX xs k y) k z = updX xs k z := by
  funext j
  unfold updX
  split <;> rfl
section
variable {b m d nk N : Nat} {recs mine : Nat → List Int} {xs : PXs} {holder : Int} {ws ws' : List Int}
theorem TI.bound (h : TI b m d nk recs mine xs holder N ws) : -1 ≤ holder ∧ holder < nk := by
  rcases Int.lt_or_le holder 0 with h0 | h0
  · have := (h.free h0).1; omega
  · obtain ⟨k, a, b', _⟩ := h.held h0; omega
/-- what else turns in the bank is nothing to it -/
theorem TI.frame (h : TI b m d nk recs mine xs holder N ws) (hm : 1 ≤ m) (hd : 1 ≤ d) (hl : ws'.length = ws.length) (hf : ∀ j, b + 1 ≤ j → j < b + 2 + m * d → nth ws' j = nth ws j) : TI b m d nk recs mine xs holder N ws' := by
  have h1 := hf (b + 1) (by omega) (by have := Nat.mul_le_mul hm hd; omega)
  have hp : ∀ g j, j < m → nth ws' (plB b m d g + j) = nth ws (plB b m d g + j) := fun g j hj => hf _ (by have := plB_ge b m d g; omega) (by have := plB_fit (m := m) b hd g; omega)
  refine ⟨by rw [hl]; exact h.len, h.busy, h.side, by rw [h1]; exact h.sole, by rw [h1]; exact h.free, fun h0 => ?_, fun g hg hw j hj => by rw [hp g j hj]; exact h.whole g hg hw j hj⟩
  obtain ⟨k, a, b', c, x, e, f, i, q⟩ := h.held h0
  exact ⟨k, a, b', by rw [h1]; exact c, x, e, f, i, fun j hj => by rw [hp _ _ (by omega)]; exact q j hj⟩
/-- one more, that has not begun -/
theorem TI.new (h : TI b m d nk recs mine xs holder N ws) {k : Nat} (hk : k < nk) (hn : xs k = none) (rec : List Int) {x : WS} (hx : x.how = 0 ∧ x.next = 0) : TI b m d nk recs (updX mine k rec) (updX xs k (some x)) holder N ws := by
  have hne : holder ≠ k := fun e => by
    obtain ⟨k2, _, e2, _, x2, e3, _⟩ := h.held (by omega)
    obtain rfl : k2 = k := by omega
    rw [hn] at e3; simp at e3
  refine ⟨h.len, fun j x2 hj e => ?_, fun j x2 hj e hh => ?_, fun h1 x2 e e2 => ?_, h.free, fun h0 => ?_, h.whole⟩
  · by_cases hjk : j = k
    · subst hjk; rw [updX_self] at e; simp only [Option.some.injEq] at e; subst e; exact hx.1
    · rw [updX_ne _ _ hjk] at e; exact h.busy j _ hj e
  · by_cases hjk : j = k
    · subst hjk; rw [updX_self] at e; simp only [Option.some.injEq] at e; subst e; rw [hx.2]; exact ⟨by decide, fun h => by simp at h⟩
    · rw [updX_ne _ _ hjk] at e; exact h.side j _ hj e hh
  · obtain rfl : k = 0 := by omega
    rw [updX_self] at e; simp only [Option.some.injEq] at e; subst e; rw [hx.2] at e2; simp at e2
  · obtain ⟨k2, a, b', c, x2, e, f, i, q⟩ := h.held h0
    have hk2 : k2 ≠ k := by omega
    exact ⟨k2, a, b', c, x2, by rw [updX_ne _ _ hk2]; exact e, f, i, fun j hj => by rw [updX_ne _ _ hk2]; exact q j hj⟩
theorem TI.drop (h : TI b m d nk recs mine xs holder N ws) {k : Nat} (hne : holder ≠ k) : TI b m d nk recs mine (updX xs k none) holder N ws := by
  refine ⟨h.len, fun j x2 hj e => ?_, fun j x2 hj e hh => ?_, fun h1 x2 e e2 => ?_, h.free, fun h0 => ?_, h.whole⟩
  · by_cases hjk : j = k
    · subst hjk; rw [updX_self] at e; simp at e
    · rw [updX_ne _ _ hjk] at e; exact h.busy j _ hj e
  · by_cases hjk : j = k
    · subst hjk; rw [updX_self] at e; simp at e
    · rw [updX_ne _ _ hjk] at e; exact h.side j _ hj e hh
  · by_cases hjk : 0 = k
    · subst hjk; rw [updX_self] at e; simp at e
    · rw [updX_ne _ _ hjk] at e; exact h.sole h1 _ e e2
  · obtain ⟨k2, a, b', c, x2, e, f, i, q⟩ := h.held h0
    have hk2 : k2 ≠ k := by omega
    exact ⟨k2, a, b', c, x2, by rw [updX_ne _ _ hk2]; exact e, f, i, q⟩
/-- one who does not hold it goes on aside -/
theorem TI.aside (h : TI b m d nk recs mine xs holder N ws) {k : Nat} (hk : k < nk) (hne : holder ≠ k) {x : WS} (h0 : x.how = 0) (h1 : x.next < 2) (h2 : x.next = 1 → x.sq % 2 = 0) (h3 : nk = 1 → x.next = 1 → x.sq = nth ws (b + 1)) : TI b m d nk recs mine (updX xs k (some x)) holder N ws := by
  refine ⟨h.len, fun j x2 hj e => ?_, fun j x2 hj e hh => ?_, fun h9 x2 e e2 => ?_, h.free, fun h0 => ?_, h.whole⟩
  · by_cases hjk : j = k
    · subst hjk; rw [updX_self] at e; simp only [Option.some.injEq] at e; subst e; exact h0
    · rw [updX_ne _ _ hjk] at e; exact h.busy j _ hj e
  · by_cases hjk : j = k
    · subst hjk; rw [updX_self] at e; simp only [Option.some.injEq] at e; subst e; exact ⟨h1, h2⟩
    · rw [updX_ne _ _ hjk] at e; exact h.side j _ hj e hh
  · obtain rfl : k = 0 := by omega
    rw [updX_self] at e; simp only [Option.some.injEq] at e; subst e; exact h3 h9 e2
  · obtain ⟨k2, a, b', c, x2, e, f, i, q⟩ := h.held h0
    have hk2 : k2 ≠ k := by omega
    exact ⟨k2, a, b', c, x2, by rw [updX_ne _ _ hk2]; exact e, f, i, q⟩
theorem ti_wrap (a : Int) (h : 0 ≤ a ∧ a ≤ 10000000) : IntKind.u64.wrap a = a := u64_wrap_in (by omega)
/-- what a step of one of its publishings makes of it -/
theorem TI.step (h : TI b m d nk recs mine xs holder N ws) (hm : 1 ≤ m ∧ m ≤ 64) (hd : 2 ≤ d ∧ d ≤ 16) (hb : b ≤ 1000000) (hN : N ≤ 1000000) {k : Nat} {x : WS} (hk : k < nk) (hx : xs k = some x) {tries : Int}
    (hi : WInv (spotB b m d) (mine k) tries x) (hr : (mine k).length = m) (t : Int) {x' : WS} {ws' : List Int} {t' : Int} (he : wStep (spotB b m d) (mine k) tries x ws t = (x', ws', t')) :
    ws'.length = ws.length ∧ (∀ j, j < b + 1 ∨ b + 2 + m * d ≤ j → nth ws' j = nth ws j) ∧
    ((x'.how = 0 ∧ ∃ h', (0 ≤ holder → 0 ≤ h') ∧ TI b m d nk recs mine (updX xs k (some x')) h' N ws') ∨
     (x'.how = 2 ∧ nk ≠ 1 ∧ TI b m d nk recs mine (updX xs k none) holder N ws') ∨
     (x'.how = 1 ∧ holder = k ∧ x'.gen = (N : Int) + 1 ∧ TI b m d nk (updX recs (N + 1) (mine k)) mine (updX xs k none) (-1) (N + 1) ws')) := by
  have hS : (spotB b m d).seq = ((b + 1 : Nat) : Int) := rfl
  have hlen := h.len
  have hmd := Nat.mul_le_mul hm.1 hd.1
  have hlt1 : b + 1 < ws.length := by omega
  have hin : inW ws ((b + 1 : Nat) : Int) := inW_nat _ _ hlt1
  have hw1 : wordF ws ((b + 1 : Nat) : Int) = nth ws (b + 1) := wordF_nat _ _ hlt1
  have hset : ∀ v, setF ws ((b + 1 : Nat) : Int) v = ws.set (b + 1) v := fun v => by rw [setF_in hin, Int.toNat_natCast]
  have hbusy := h.busy k _ hk hx
  have hside := h.side k _ hk hx
  have hzero := hi.zero
  have hmine : 0 ≤ holder → holder = k → nth ws (b + 1) = 2 * (N : Int) + 1 ∧ (x.next = 2 ∧ x.n < m ∨ x.next = 3 ∧ x.n = m) ∧ x.sq = 2 * (N : Int) ∧ ∀ j : Nat, (j : Int) < x.n → nth ws (plB b m d (N + 1) + j) = nth (mine k) j := fun h0 hhk => by
    obtain ⟨k2, h1, h2, h3, x2, e, h4, h5, h6⟩ := h.held h0
    obtain rfl : k2 = k := by omega
    rw [hx] at e
    simp only [Option.some.injEq] at e
    subst e
    exact ⟨h3, h4, h5, h6⟩
  have hpar : nth ws (b + 1) % 2 = 1 ↔ 0 ≤ holder := by
    rcases Int.lt_or_le holder 0 with h0 | h0
    · have := (h.free h0).2; omega
    · obtain ⟨_, _, _, h3, _⟩ := h.held h0; omega
  have hnx := hi.next
  have hn0 := hi.n
  obtain ⟨how, next, had, steps, sq, nn⟩ := x
  simp only at hbusy hside hnx hzero hmine hn0
  subst hbusy
  have e1 : x' = (wStep (spotB b m d) (mine k) tries ⟨0, next, had, steps, sq, nn⟩ ws t).1 := by rw [he]
  have e2 : ws' = (wStep (spotB b m d) (mine k) tries ⟨0, next, had, steps, sq, nn⟩ ws t).2.1 := by rw [he]
  clear he
  -- a try that failed, of one who does not hold it
  have hfail : ∀ (y : WS), y.how = 0 → holder ≠ k → nk ≠ 1 → x' = WS.again tries y → ws' = ws →
      (ws'.length = ws.length ∧ (∀ j, j < b + 1 ∨ b + 2 + m * d ≤ j → nth ws' j = nth ws j) ∧
    ((x'.how = 0 ∧ ∃ h', (0 ≤ holder → 0 ≤ h') ∧ TI b m d nk recs mine (updX xs k (some x')) h' N ws') ∨
     (x'.how = 2 ∧ nk ≠ 1 ∧ TI b m d nk recs mine (updX xs k none) holder N ws') ∨
     (x'.how = 1 ∧ holder = k ∧ x'.gen = (N : Int) + 1 ∧ TI b m d nk (updX recs (N + 1) (mine k)) mine (updX xs k none) (-1) (N + 1) ws'))) := by
    intro y hy hne hnk q1 q2
    subst q1 q2
    refine ⟨rfl, fun _ _ => rfl, ?_⟩
    by_cases hsp : y.had + 1 = tries
    · exact .inr (.inl ⟨by simp [WS.again, hsp], hnk, h.drop hne⟩)
    · exact .inl ⟨by simp [WS.again, hsp, hy], holder, id, h.aside hk hne (by simp [WS.again, hsp, hy]) (by simp [WS.again]) (fun h1 => by simp [WS.again] at h1) (fun h1 => absurd h1 hnk)⟩
  rcases hnx with rfl | rfl | rfl | rfl
  · have hne : holder ≠ k := fun e => by
      have := hmine (by omega) e
      omega
    have hsole : nk = 1 → holder < 0 := fun h1 => by have := h.bound; omega
    by_cases hev : nth ws (b + 1) % 2 = 0
    · have e : wStep (spotB b m d) (mine k) tries ⟨0, 0, had, steps, sq, nn⟩ ws t = (⟨0, 1, had, steps + 1, nth ws (b + 1), nn⟩, ws, tickF ws ((b + 1 : Nat) : Int) t) := by
        unfold wStep; simp only [ne_eq, not_true, if_false, if_true]; rw [hS, if_pos hin, hw1, if_pos hev]
      rw [e] at e1 e2
      subst e1 e2
      exact ⟨rfl, fun _ _ => rfl, .inl ⟨rfl, holder, id, h.aside hk hne rfl (by simp) (fun _ => hev) (fun _ _ => rfl)⟩⟩
    · have e : wStep (spotB b m d) (mine k) tries ⟨0, 0, had, steps, sq, nn⟩ ws t = (WS.again tries ⟨0, 0, had, steps, nth ws (b + 1), nn⟩, ws, tickF ws ((b + 1 : Nat) : Int) t) := by
        unfold wStep; simp only [ne_eq, not_true, if_false, if_true]; rw [hS, if_pos hin, hw1, if_neg hev]
      rw [e] at e1 e2
      exact hfail _ rfl hne (fun h1 => by have := hsole h1; have := hpar.1 (by omega); omega) e1 e2
  · have hne : holder ≠ k := fun e => by
      have := hmine (by omega) e
      omega
    have hsq := (hside (fun e => hne e.symm)).2 rfl
    have hn0 : nn = 0 := hzero rfl (by omega)
    subst hn0
    by_cases hit : nth ws (b + 1) = sq
    · have hfree : holder < 0 := by
        rcases Int.lt_or_le holder 0 with h0 | h0
        · exact h0
        · have := hpar.2 h0; omega
      have hw := h.free hfree
      have e : wStep (spotB b m d) (mine k) tries ⟨0, 1, had, steps, sq, 0⟩ ws t = (⟨0, 2, had, steps + 1, sq, 0⟩, ws.set (b + 1) (2 * (N : Int) + 1), tickF ws ((b + 1 : Nat) : Int) t) := by
        unfold wStep; simp only [ne_eq, not_true, if_false, if_true, show ((1 : Int) = 0) = False by simp]
        rw [hS, if_pos hin, show casB ws ((b + 1 : Nat) : Int) sq = true by unfold casB; rw [hw1, hit, decide_eq_true hin]; simp, if_pos rfl, hset, ti_wrap _ (by omega), ← hit, hw.2]
      rw [e] at e1 e2
      subst e1 e2
      have hns : ∀ j, nth (ws.set (b + 1) (2 * (N : Int) + 1)) j = if j = b + 1 then 2 * (N : Int) + 1 else nth ws j := fun j => nth_set _ _ _ _ hlt1
      refine ⟨List.length_set, fun j hj => by rw [hns, if_neg (by omega)], .inl ⟨rfl, k, fun _ => by omega, ⟨by rw [List.length_set]; exact hlen, fun j x2 hj hx2 => ?_, fun j x2 hj hx2 hh => ?_, fun h1 x2 hx2 h2 => ?_, fun h0 => by omega, fun _ => ⟨k, hk, rfl, by rw [hns, if_pos rfl], _, updX_self _ _ _, .inl ⟨rfl, by simp only; omega⟩, by simp only; omega, fun j hj => by simp only at hj; omega⟩, fun g hg hw2 j hj => ?_⟩⟩⟩
      · by_cases hjk : j = k
        · subst hjk; rw [updX_self] at hx2; simp only [Option.some.injEq] at hx2; subst hx2; rfl
        · rw [updX_ne _ _ hjk] at hx2; exact h.busy j _ hj hx2
      · rw [updX_ne _ _ (by omega)] at hx2
        exact h.side j _ hj hx2 (by omega)
      · obtain rfl : k = 0 := by omega
        rw [updX_self] at hx2; simp only [Option.some.injEq] at hx2; subst hx2; simp at h2
      · rw [hns, if_neg (by have := plB_ge b m d g; omega)]
        exact h.whole g hg (by unfold newTI at hw2 ⊢; rw [if_pos hfree]; rw [if_neg (by omega)] at hw2; omega) j hj
    · have hnk : nk ≠ 1 := fun h1 => by
        obtain rfl : k = 0 := by omega
        exact hit (h.sole h1 _ hx rfl).symm
      have e : wStep (spotB b m d) (mine k) tries ⟨0, 1, had, steps, sq, 0⟩ ws t = (WS.again tries ⟨0, 1, had, steps, sq, 0⟩, ws, tickF ws ((b + 1 : Nat) : Int) t) := by
        unfold wStep; simp only [ne_eq, not_true, if_false, if_true, show ((1 : Int) = 0) = False by simp]
        rw [hS, if_pos hin, show casB ws ((b + 1 : Nat) : Int) sq = false by unfold casB; rw [hw1]; simp [hit], if_neg (by simp)]
      rw [e] at e1 e2
      exact hfail _ rfl hne hnk e1 e2
  · have hhk : holder = k := by
      rcases Decidable.em (holder = k) with h0 | h0
      · exact h0
      · have := (hside (fun e => h0 e.symm)).1; omega
    obtain ⟨hw, hc, hsq, hpl⟩ := hmine (by omega) hhk
    have hn3 : nn < m := by omega
    have e0 : placeF (spotB b m d) sq nn = ((plB b m d (N + 1) + nn.toNat : Nat) : Int) := by
      unfold placeF
      rw [hsq, show (2 * (N : Int)) / 2 + 1 = ((N + 1 : Nat) : Int) by omega, ti_wrap _ (by omega), plB_at hm hd hb]
      omega
    have hfit := plB_fit (m := m) b (show 1 ≤ d by omega) (N + 1)
    have hge := plB_ge b m d (N + 1)
    have hlt : plB b m d (N + 1) + nn.toNat < ws.length := by omega
    have e : wStep (spotB b m d) (mine k) tries ⟨0, 2, had, steps, sq, nn⟩ ws t = (⟨0, if nn + 1 = (m : Int) then 3 else 2, had, steps + 1, sq, nn + 1⟩, ws.set (plB b m d (N + 1) + nn.toNat) (nth (mine k) nn.toNat), tickF ws (placeF (spotB b m d) sq nn) t) := by
      unfold wStep; simp only [ne_eq, not_true, if_false, if_true, show ((2 : Int) = 0) = False by simp, show ((2 : Int) = 1) = False by simp]
      rw [e0, if_pos (inW_nat _ _ hlt), setF_in (inW_nat _ _ hlt), Int.toNat_natCast, hr]
    rw [e] at e1 e2
    subst e1 e2
    have hns : ∀ j, nth (ws.set (plB b m d (N + 1) + nn.toNat) (nth (mine k) nn.toNat)) j = if j = plB b m d (N + 1) + nn.toNat then nth (mine k) nn.toNat else nth ws j := fun j => nth_set _ _ _ _ hlt
    have hw2 : nth (ws.set (plB b m d (N + 1) + nn.toNat) (nth (mine k) nn.toNat)) (b + 1) = nth ws (b + 1) := by rw [hns, if_neg (by omega)]
    refine ⟨List.length_set, fun j hj => by rw [hns, if_neg (by omega)], .inl ⟨rfl, k, fun _ => by omega, ⟨by rw [List.length_set]; exact hlen, fun j x2 hj hx2 => ?_, fun j x2 hj hx2 hh => ?_, fun h1 x2 hx2 h2 => ?_, fun h0 => by omega, fun _ => ⟨k, hk, rfl, by rw [hw2]; exact hw, _, updX_self _ _ _, ?_, hsq, fun j hj => ?_⟩, fun g hg hw3 j hj => ?_⟩⟩⟩
    · by_cases hjk : j = k
      · subst hjk; rw [updX_self] at hx2; simp only [Option.some.injEq] at hx2; subst hx2; rfl
      · rw [updX_ne _ _ hjk] at hx2; exact h.busy j _ hj hx2
    · rw [updX_ne _ _ (by omega)] at hx2
      exact h.side j _ hj hx2 (by omega)
    · obtain rfl : k = 0 := by omega
      rw [updX_self] at hx2; simp only [Option.some.injEq] at hx2; subst hx2
      simp only at h2
      split at h2 <;> omega
    · simp only
      split
      · rename_i h1; exact .inr ⟨rfl, h1⟩
      · exact .inl ⟨rfl, by omega⟩
    · simp only at hj
      rw [hns]
      by_cases hjn : j = nn.toNat
      · subst hjn; rw [if_pos rfl]
      · rw [if_neg (by omega)]
        exact hpl j (by omega)
    · unfold newTI at hw3
      rw [if_neg (by omega)] at hw3
      have := plB_apart (m := m) b (show g < N + 1 by omega) hw3
      rw [hns, if_neg (by omega)]
      exact h.whole g hg (by unfold newTI; rw [if_neg (by omega)]; exact hw3) j hj
  · have hhk : holder = k := by
      rcases Decidable.em (holder = k) with h0 | h0
      · exact h0
      · have := (hside (fun e => h0 e.symm)).1; omega
    obtain ⟨hw, hnm, hsq, hpl⟩ := hmine (by omega) hhk
    have hnm2 : nn = m := by omega
    have e : wStep (spotB b m d) (mine k) tries ⟨0, 3, had, steps, sq, nn⟩ ws t = (⟨1, 3, had, steps + 1, sq, nn⟩, ws.set (b + 1) (2 * (N : Int) + 2), tickF ws ((b + 1 : Nat) : Int) t) := by
      unfold wStep; simp only [ne_eq, not_true, if_false, if_true, show ((3 : Int) = 0) = False by simp, show ((3 : Int) = 1) = False by simp, show ((3 : Int) = 2) = False by simp]
      rw [hS, if_pos hin, hset, ti_wrap _ (by omega), hsq]
    rw [e] at e1 e2
    subst e1 e2
    have hns : ∀ j, nth (ws.set (b + 1) (2 * (N : Int) + 2)) j = if j = b + 1 then 2 * (N : Int) + 2 else nth ws j := fun j => nth_set _ _ _ _ hlt1
    refine ⟨List.length_set, fun j hj => by rw [hns, if_neg (by omega)], .inr (.inr ⟨rfl, hhk, ?_, ⟨by rw [List.length_set]; exact hlen, fun j x2 hj hx2 => ?_, fun j x2 hj hx2 hh => ?_, fun h1 x2 hx2 h2 => ?_, fun _ => ⟨rfl, by rw [hns, if_pos rfl]; omega⟩, fun h0 => by omega, fun g hg hw2 j hj => ?_⟩⟩)⟩
    · unfold WS.gen
      simp only [if_true]
      rw [ti_wrap _ (by omega)]
      omega
    · by_cases hjk : j = k
      · subst hjk; rw [updX_self] at hx2; simp at hx2
      · rw [updX_ne _ _ hjk] at hx2; exact h.busy j _ hj hx2
    · by_cases hjk : j = k
      · subst hjk; rw [updX_self] at hx2; simp at hx2
      · rw [updX_ne _ _ hjk] at hx2
        exact h.side j _ hj hx2 (by omega)
    · obtain rfl : k = 0 := by omega
      rw [updX_self] at hx2; simp at hx2
    · unfold newTI at hw2
      rw [if_pos (by omega)] at hw2
      rw [hns, if_neg (by have := plB_ge b m d g; omega)]
      by_cases hgN : g = N + 1
      · subst hgN
        rw [updX_self]
        exact hpl j (by omega)
      · rw [updX_ne _ _ hgN]
        exact h.whole g (by omega) (by unfold newTI; rw [if_neg (by omega)]; omega) j hj
end
end Go.Proofs.Ytihogagnjikghaa.Bank
