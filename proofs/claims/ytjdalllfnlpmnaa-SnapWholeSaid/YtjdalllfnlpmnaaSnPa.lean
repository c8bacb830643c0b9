/-
  Law 10: records of several topics that are published beside each other, and a snapshot that is taken meanwhile, in plain words. No program. By an AI agent.
-/
import Derived.Test.YtjdalllfnlpmnaaSnZb
namespace Go.Proofs.Ytjdalllfnlpmnaa.Bank
set_option linter.unusedVariables false
set_option linter.unusedSimpArgs false
open Go Go.RowKit Go.Proofs.Ytjdalllfnlpmnaa.Base
/-- the place of generation c of topic k -/
def pl (l : Nat → Tp) (k c : Nat) : Nat := (atF (laidS l k) (c : Int)).toNat
theorem pG_pl (l : Nat → Tp) (k c : Nat) : pG l k c = pl l k (c + 1) := by unfold pG pl; congr 1
/-- word j of the record of generation c of topic k; dn: what the records are made of -/
def RW (dn : Nat → Nat → Int) (k c j : Nat) : Int := if c = 0 then 0 else recW (dn k c) j
theorem pl_spec {l : Nat → Tp} {n : Nat} (h : TOk n l) {k : Nat} (hk : k < n) (c : Nat) : (pl l k c : Int) = offT l k + 2 + (c : Int) % (l k).depth * (l k).words ∧ offT l k + 2 ≤ (pl l k c : Int) ∧ (pl l k c : Int) + mT l k ≤ offT l (k + 1) ∧ atF (laidS l k) (c : Int) = (pl l k c : Int) := by
  have h1 := (h.2 k hk).1
  have h2 := offT_bounds h.2 k (by omega)
  have h3 := at_in h hk (c : Int)
  have h4 := at_laid h hk (c : Int)
  have e1 : (mT l k : Int) = (l k).words := by unfold mT; omega
  have e : (pl l k c : Int) = atF (laidS l k) (c : Int) := by unfold pl; omega
  exact ⟨by rw [e, h4], by omega, by omega, e.symm⟩
/-- two generations one behind the other have places that do not meet -/
theorem pl_apart {l : Nat → Tp} {n : Nat} (h : TOk n l) {k : Nat} (hk : k < n) (c : Nat) : pl l k c + mT l k ≤ pl l k (c + 1) ∨ pl l k (c + 1) + mT l k ≤ pl l k c := by
  have h1 := (pl_spec h hk c).1
  have h2 := (pl_spec h hk (c + 1)).1
  obtain ⟨⟨w1, w2⟩, d1, d2⟩ := h.2 k hk
  have e1 : (mT l k : Int) = (l k).words := by unfold mT; omega
  have a := Int.emod_nonneg (c : Int) (b := (l k).depth) (by omega)
  have b := Int.emod_lt_of_pos (c : Int) (b := (l k).depth) (by omega)
  have ne : ((c + 1 : Nat) : Int) % (l k).depth ≠ (c : Int) % (l k).depth := by
    intro e
    have h9 := Int.emod_emod_of_dvd ((c + 1 : Nat) : Int) (Int.dvd_refl (l k).depth)
    have : (((c + 1 : Nat) : Int) - (c : Int)) % (l k).depth = 0 := by rw [Int.sub_emod, e, Int.sub_self]; rfl
    rw [show ((c + 1 : Nat) : Int) - (c : Int) = 1 by push_cast; omega, Int.emod_eq_of_lt (by decide) (by omega)] at this
    exact absurd this (by decide)
  have a2 := Int.emod_nonneg ((c + 1 : Nat) : Int) (b := (l k).depth) (by omega)
  generalize ((c + 1 : Nat) : Int) % (l k).depth = x at *
  generalize (c : Int) % (l k).depth = y at *
  rcases Int.lt_or_gt_of_ne ne with hlt | hlt
  · right
    have : (x + 1) * (l k).words ≤ y * (l k).words := Int.mul_le_mul_of_nonneg_right (by omega) (by omega)
    rw [Int.add_mul, Int.one_mul] at this
    omega
  · left
    have : (y + 1) * (l k).words ≤ x * (l k).words := Int.mul_le_mul_of_nonneg_right (by omega) (by omega)
    rw [Int.add_mul, Int.one_mul] at this
    omega
/-- the words: of each topic its newest record whole, and what the operation under way has laid -/
structure CInv (l : Nat → Tp) (n N : Nat) (ws : List Int) (cnt : Nat → Nat) (st : Nat → Option W1) (dn : Nat → Nat → Int) : Prop where
  b : BInv l n N ws cnt st
  new : ∀ k, k < n → ∀ j, j < mT l k → nth ws (pl l k (cnt k) + j) = RW dn k (cnt k) j
  part : ∀ k, k < n → ∀ s, st k = some s → s.i < mT l k + 3 ∧ ∀ j, j < mT l k → j + 2 < s.i → nth ws (pl l k (cnt k + 1) + j) = recW s.x j
theorem CInv.zero {l : Nat → Tp} {n N : Nat} {dn : Nat → Nat → Int} : CInv l n N (zeros N) (fun _ => 0) (fun _ => none) dn :=
  ⟨BInv.zero, fun k _ j _ => by rw [nth_zeros]; rfl, fun k _ s hs => by cases hs⟩
/-- what a step of topic k turns: nothing outside its place and its sequence -/
theorem stepW_nth {l : Nat → Tp} {n N : Nat} (hok : TOk n l) (hN : (N : Int) = offT l n) {ws : List Int} (hl : ws.length = N) {k c : Nat} (hk : k < n) (x : Int) {i : Nat} (hi : i < mT l k + 3) (y : Nat) (hq : y ≠ qT l k) :
    nth (stepW (qT l k) (pG l k c) (recL (mT l k) x) c ws i) y = if 2 ≤ i ∧ i < mT l k + 2 ∧ y = pl l k (c + 1) + (i - 2) then recW x (i - 2) else nth ws y := by
  have g := geo hok hN hk c
  unfold stepW
  rw [recL_len]
  by_cases h0 : i = 0
  · rw [if_pos h0, if_neg (by omega)]
  rw [if_neg h0]
  by_cases h1 : i = 1
  · rw [if_pos h1, nth_set _ _ _ _ (by rw [hl]; exact g.2.2.2.1), if_neg hq, if_neg (by omega)]
  rw [if_neg h1]
  by_cases h2 : i < mT l k + 2
  · rw [if_pos h2, nth_set _ _ _ _ (by rw [hl]; omega), pG_pl]
    by_cases e : y = pl l k (c + 1) + (i - 2)
    · rw [if_pos e, if_pos ⟨by omega, h2, e⟩, recL_nth _ _ _ (by omega)]
    · rw [if_neg e, if_neg (fun h => e h.2.2)]
  · rw [if_neg h2, nth_set _ _ _ _ (by rw [hl]; exact g.2.2.2.1), if_neg hq, if_neg (by omega)]
/-- topics lie apart -/
theorem pl_other {l : Nat → Tp} {n N : Nat} (hok : TOk n l) (hN : (N : Int) = offT l n) {j k : Nat} (hj : j < n) (hk : k < n) (hne : j ≠ k) (c d a b : Nat) (ha : a < mT l j) (hb : b < mT l k) : pl l j c + a ≠ pl l k d + b ∧ pl l j c + a ≠ qT l k := by
  have h1 := pl_spec hok hj c
  have h2 := pl_spec hok hk d
  have g := geo hok hN hk 0
  rcases Nat.lt_or_gt_of_ne hne with hlt | hlt
  · have := off_mono hok.2 (show j + 1 ≤ k by omega) (by omega)
    constructor <;> omega
  · have := off_mono hok.2 (show k + 1 ≤ j by omega) (by omega)
    have h3 := good_mul (hok.2 k hk)
    have h5 : offT l (k + 1) = offT l k + 2 + (l k).words * (l k).depth := rfl
    constructor <;> omega
theorem pl_self {l : Nat → Tp} {n N : Nat} (hok : TOk n l) (hN : (N : Int) = offT l n) {k : Nat} (hk : k < n) (c a : Nat) : pl l k c + a ≠ qT l k := by
  have h1 := pl_spec hok hk c
  have g := geo hok hN hk 0
  omega
theorem CInv.busy {l : Nat → Tp} {n N : Nat} (hok : TOk n l) (hN : (N : Int) = offT l n) {ws : List Int} {cnt : Nat → Nat} {st : Nat → Option W1} {dn : Nat → Nat → Int} (h : CInv l n N ws cnt st dn) {k : Nat} (hk : k < n) {s : W1} (hs : st k = some s) (hi : s.i + 1 < mT l k + 3) :
    CInv l n N (stepW (qT l k) (pG l k (cnt k)) (recL (mT l k) s.x) (cnt k) ws s.i) cnt (upS st k (some { s with i := s.i + 1 })) dn := by
  refine ⟨h.b.busy hok hN hk hs hi, fun j hj a ha => ?_, fun j hj s2 hs2 => ?_⟩
  · by_cases e : j = k
    · subst e
      rw [stepW_nth hok hN h.b.1 hk _ (by omega) _ (pl_self hok hN hj _ _), if_neg (by have := pl_apart hok hj (cnt j); omega)]
      exact h.new j hj a ha
    · have := fun b (hb : b < mT l k) => (pl_other hok hN hj hk e (cnt j) (cnt k + 1) a b ha hb).1
      rw [stepW_nth hok hN h.b.1 hk _ (by omega) _ (pl_other hok hN hj hk e (cnt j) 0 a 0 ha (by have := (geo hok hN hk 0); omega)).2, if_neg (fun h9 => this (s.i - 2) (by omega) h9.2.2)]
      exact h.new j hj a ha
  · by_cases e : j = k
    · subst e
      rw [upS_self] at hs2
      injection hs2 with hs2
      subst hs2
      refine ⟨hi, fun a ha hai => ?_⟩
      simp only at hai ⊢
      rw [stepW_nth hok hN h.b.1 hk _ (by omega) _ (pl_self hok hN hj _ _)]
      by_cases e2 : a + 2 = s.i
      · rw [if_pos ⟨by omega, by omega, by omega⟩, show s.i - 2 = a by omega]
      · rw [if_neg (by omega)]
        exact (h.part j hj s hs).2 a ha (by omega)
    · rw [upS_ne _ _ e] at hs2
      obtain ⟨p1, p2⟩ := h.part j hj s2 hs2
      refine ⟨p1, fun a ha hai => ?_⟩
      have := fun b (hb : b < mT l k) => (pl_other hok hN hj hk e (cnt j + 1) (cnt k + 1) a b ha hb).1
      rw [stepW_nth hok hN h.b.1 hk _ (by omega) _ (pl_other hok hN hj hk e (cnt j + 1) 0 a 0 ha (by have := (geo hok hN hk 0); omega)).2, if_neg (fun h9 => this (s.i - 2) (by omega) h9.2.2)]
      exact p2 a ha hai
def upD (dn : Nat → Nat → Int) (k c : Nat) (x : Int) : Nat → Nat → Int := fun j d => if j = k ∧ d = c then x else dn j d
theorem RW_up {dn : Nat → Nat → Int} {k c j d a : Nat} {x : Int} (h : j ≠ k ∨ d ≠ c) : RW (upD dn k c x) j d a = RW dn j d a := by
  unfold RW upD
  rw [if_neg (show ¬ (j = k ∧ d = c) by omega)]
theorem CInv.last {l : Nat → Tp} {n N : Nat} (hok : TOk n l) (hN : (N : Int) = offT l n) {ws : List Int} {cnt : Nat → Nat} {st : Nat → Option W1} {dn : Nat → Nat → Int} (h : CInv l n N ws cnt st dn) {k : Nat} (hk : k < n) {s : W1} (hs : st k = some s) (hi : s.i + 1 = mT l k + 3) :
    CInv l n N (stepW (qT l k) (pG l k (cnt k)) (recL (mT l k) s.x) (cnt k) ws s.i) (upC cnt k (cnt k + 1)) (upS st k none) (upD dn k (cnt k + 1) s.x) := by
  refine ⟨h.b.last hok hN hk hs hi, fun j hj a ha => ?_, fun j hj s2 hs2 => ?_⟩
  · unfold upC
    by_cases e : j = k
    · subst e
      rw [if_pos rfl, stepW_nth hok hN h.b.1 hk _ (by omega) _ (pl_self hok hN hj _ _), if_neg (by omega), (h.part j hj s hs).2 a ha (by omega)]
      unfold RW upD
      rw [if_neg (by omega), if_pos ⟨rfl, rfl⟩]
    · rw [if_neg e, RW_up (.inl e), stepW_nth hok hN h.b.1 hk _ (by omega) _ (pl_other hok hN hj hk e (cnt j) 0 a 0 ha (by have := (geo hok hN hk 0); omega)).2, if_neg (by omega)]
      exact h.new j hj a ha
  · by_cases e : j = k
    · subst e; rw [upS_self] at hs2; cases hs2
    · rw [upS_ne _ _ e] at hs2
      obtain ⟨p1, p2⟩ := h.part j hj s2 hs2
      refine ⟨p1, fun a ha hai => ?_⟩
      have ec : upC cnt k (cnt k + 1) j = cnt j := if_neg e
      rw [ec, stepW_nth hok hN h.b.1 hk _ (by omega) _ (pl_other hok hN hj hk e (cnt j + 1) 0 a 0 ha (by have := (geo hok hN hk 0); omega)).2, if_neg (by omega)]
      exact p2 a ha hai
theorem CInv.fresh {l : Nat → Tp} {n N : Nat} {ws : List Int} {cnt : Nat → Nat} {st : Nat → Option W1} {dn : Nat → Nat → Int} (h : CInv l n N ws cnt st dn) {k : Nat} (hk : k < n) (hs : st k = none) {s : W1} (hi : s.i = 0) : CInv l n N ws cnt (upS st k (some s)) dn := by
  refine ⟨h.b.fresh hk hs hi, h.new, fun j hj s2 hs2 => ?_⟩
  by_cases e : j = k
  · subst e
    rw [upS_self] at hs2
    injection hs2 with hs2
    subst hs2
    exact ⟨by omega, fun a _ h9 => by omega⟩
  · rw [upS_ne _ _ e] at hs2
    exact h.part j hj s2 hs2
/-- how many were published of all topics together -/
def sumC (cnt : Nat → Nat) : Nat → Nat
  | 0 => 0
  | k + 1 => sumC cnt k + cnt k
theorem sumC_le {a b : Nat → Nat} : ∀ {n : Nat}, (∀ j, j < n → a j ≤ b j) → sumC a n ≤ sumC b n
  | 0, _ => Nat.le_refl _
  | n + 1, h => by
    have h1 := sumC_le (n := n) (fun j hj => h j (by omega))
    have h2 := h n (by omega)
    unfold sumC
    omega
theorem sumC_lt {a b : Nat → Nat} : ∀ {n : Nat}, (∀ j, j < n → a j ≤ b j) → ∀ {j}, j < n → a j < b j → sumC a n < sumC b n
  | 0, _, j, hj, _ => absurd hj (by omega)
  | n + 1, h, j, hj, hlt => by
    have h2 := h n (by omega)
    unfold sumC
    by_cases e : j = n
    · subst e
      have h1 := sumC_le (n := j) (fun i hi => h i (by omega))
      omega
    · have h1 := sumC_lt (n := n) (fun i hi => h i (by omega)) (show j < n by omega) hlt
      omega
theorem sumC_up {cnt : Nat → Nat} : ∀ {n k : Nat}, k < n → sumC (upC cnt k (cnt k + 1)) n = sumC cnt n + 1
  | 0, k, h => absurd h (by omega)
  | n + 1, k, h => by
    unfold sumC
    by_cases e : k = n
    · subst e
      have : ∀ j, j ≤ k → sumC (upC cnt k (cnt k + 1)) j = sumC cnt j := by
        intro j hj
        induction j with
        | zero => rfl
        | succ j ih =>
          have := ih (by omega)
          unfold sumC
          rw [this]
          unfold upC
          rw [if_neg (by omega)]
      rw [this k (Nat.le_refl _)]
      unfold upC
      rw [if_pos rfl]
      omega
    · rw [sumC_up (show k < n by omega)]
      unfold upC
      rw [if_neg (fun h9 => e h9.symm)]
      omega
end Go.Proofs.Ytjdalllfnlpmnaa.Bank
