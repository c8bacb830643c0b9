/-
  Law 10: generations of topics beside each other, in plain words; the times that a law publishes. No program. By an AI agent.
-/
import Derived.Test.YtjdalllfnlpmnaaSnK
import Derived.Test.YtjdalllfnlpmnaaClone
namespace Go.Proofs.Ytjdalllfnlpmnaa.Bank
set_option linter.unusedVariables false
set_option linter.unusedSimpArgs false
open Go Go.RowKit Go.Proofs.Ytjdalllfnlpmnaa.Base
/-- the place of a generation -/
def pG (l : Nat → Tp) (k gen : Nat) : Nat := (atF (laidS l k) ((gen : Int) + 1)).toNat
theorem geo {l : Nat → Tp} {n N : Nat} (h : TOk n l) (hN : (N : Int) = offT l n) {k : Nat} (hk : k < n) (gen : Nat) :
    (laidS l k).Right ∧ (laidS l k).words = (mT l k : Int) ∧ (laidS l k).seq = (qT l k : Int) ∧ qT l k < N ∧ atF (laidS l k) ((gen : Int) + 1) = (pG l k gen : Int) ∧ pG l k gen + mT l k ≤ N ∧ qT l k < pG l k gen ∧ (pG l k gen : Int) + mT l k ≤ offT l (k + 1) ∧ (qT l k : Int) = offT l k + 1 ∧ 1 ≤ mT l k ∧ mT l k ≤ 4 := by
  have h1 := (h.2 k hk).1
  have h2 := offT_bounds h.2 k (by omega)
  have h3 := at_in h hk ((gen : Int) + 1)
  have h4 := off_mono h.2 (show k + 1 ≤ n by omega) (Nat.le_refl _)
  have e1 : (mT l k : Int) = (l k).words := by unfold mT; omega
  have e2 : (qT l k : Int) = offT l k + 1 := by unfold qT; omega
  have e3 : (pG l k gen : Int) = atF (laidS l k) ((gen : Int) + 1) := by unfold pG; omega
  exact ⟨laid_right h hk, e1.symm, e2.symm, by omega, e3.symm, by omega, by omega, by omega, by omega, by omega, by omega⟩
/-- a topic's sequence lies in no other topic -/
theorem seq_apart {l : Nat → Tp} {n N : Nat} (h : TOk n l) (hN : (N : Int) = offT l n) {i k : Nat} (hi : i < n) (hk : k < n) (hne : i ≠ k) (gen : Nat) : qT l i ≠ qT l k ∧ ¬ (pG l k gen ≤ qT l i ∧ qT l i < pG l k gen + mT l k) := by
  have gi := geo h hN hi 0
  have gk := geo h hN hk gen
  have bi := good_mul (h.2 i hi)
  have bk := good_mul (h.2 k hk)
  have ei : offT l (i + 1) = offT l i + 2 + (l i).words * (l i).depth := rfl
  rcases Nat.lt_or_gt_of_ne hne with hlt | hlt
  · have := off_mono h.2 (show i + 1 ≤ k by omega) (by omega)
    constructor
    · omega
    · omega
  · have := off_mono h.2 (show k + 1 ≤ i by omega) (by omega)
    constructor
    · omega
    · omega
/-- how many were published of each topic -/
def SeqIs (l : Nat → Tp) (n N : Nat) (ws : List Int) (cnt : Nat → Nat) : Prop := ws.length = N ∧ ∀ j, j < n → nth ws (qT l j) = 2 * (cnt j : Int)
def upC (cnt : Nat → Nat) (k v : Nat) : Nat → Nat := fun j => if j = k then v else cnt j
theorem SeqIs.zero {l : Nat → Tp} {n N : Nat} : SeqIs l n N (zeros N) (fun _ => 0) := ⟨zeros_len N, fun j _ => by rw [nth_zeros]; rfl⟩
theorem SeqIs.congr {l : Nat → Tp} {n N : Nat} {ws : List Int} {c1 c2 : Nat → Nat} (h : SeqIs l n N ws c1) (e : ∀ j, j < n → c1 j = c2 j) : SeqIs l n N ws c2 := ⟨h.1, fun j hj => by rw [h.2 j hj, e j hj]⟩
theorem SeqIs.pub {l : Nat → Tp} {n N : Nat} (hok : TOk n l) (hN : (N : Int) = offT l n) {ws : List Int} {cnt : Nat → Nat} (h : SeqIs l n N ws cnt) {k : Nat} (hk : k < n) (x : Int) :
    SeqIs l n N (aloneW (qT l k) (pG l k (cnt k)) (recL (mT l k) x) (cnt k) ws (mT l k + 3)) (upC cnt k (cnt k + 1)) := by
  have g := geo hok hN hk (cnt k)
  refine ⟨by rw [aloneW_len]; exact h.1, fun j hj => ?_⟩
  have hn := alone_nth (q := qT l k) (p := pG l k (cnt k)) (k := cnt k) (rec := recL (mT l k) x) (ws := ws) (by rw [h.1]; exact g.2.2.2.1) (by rw [recL_len, h.1]; exact g.2.2.2.2.2.1) (by rw [recL_len]; omega) (qT l j)
  rw [recL_len] at hn
  rw [hn]
  unfold upC
  by_cases e : j = k
  · subst e
    rw [if_pos rfl, if_pos rfl]
    push_cast
    omega
  · have ha := seq_apart hok hN hj hk e (cnt k)
    rw [if_neg ha.1, if_neg ha.2, if_neg e]
    exact h.2 j hj
/-- the generations that a look at each sequence tells -/
def GenIs (l : Nat → Tp) (n N : Nat) (ws : List Int) (cnt : Nat → Nat) : Prop := ws.length = N ∧ ∀ j, j < n → nth ws (qT l j) / 2 = (cnt j : Int)
theorem SeqIs.gen {l : Nat → Tp} {n N : Nat} {ws : List Int} {cnt : Nat → Nat} (h : SeqIs l n N ws cnt) : GenIs l n N ws cnt := ⟨h.1, fun j hj => by rw [h.2 j hj]; omega⟩
theorem GenIs.gOf {l : Nat → Tp} {n N : Nat} (hok : TOk n l) (hN : (N : Int) = offT l n) {ws : List Int} {cnt : Nat → Nat} (h : GenIs l n N ws cnt) : gOf (laidS l) n ws = ofF n fun j => (cnt j : Int) := by
  unfold Bank.gOf
  refine eq_ofF (ofF_len _ _) fun j hj => ?_
  have g := geo hok hN hj 0
  rw [ofF_nth _ _ hj, g.2.2.1, wordF_nat _ _ (by rw [h.1]; exact g.2.2.2.1)]
  exact h.2 j hj
/-- a publishing of the first topic under way: so many of its steps, but its last one -/
theorem begun_gen {l : Nat → Tp} {n N : Nat} (hok : TOk n l) (hN : (N : Int) = offT l n) {ws : List Int} {cnt : Nat → Nat} (h : SeqIs l n N ws cnt) (x : Int) {i : Nat} (hi : i ≤ mT l 0 + 2) :
    GenIs l n N (aloneW (qT l 0) (pG l 0 (cnt 0)) (recL (mT l 0) x) (cnt 0) ws i) cnt ∧ ∀ j, 1 ≤ j → j < n → nth (aloneW (qT l 0) (pG l 0 (cnt 0)) (recL (mT l 0) x) (cnt 0) ws i) (qT l j) = 2 * (cnt j : Int) := by
  have hn0 : 0 < n := by have := hok.1; omega
  have g := geo hok hN hn0 (cnt 0)
  have key : ∀ j, j < n → nth (aloneW (qT l 0) (pG l 0 (cnt 0)) (recL (mT l 0) x) (cnt 0) ws i) (qT l j) = if j = 0 ∧ 2 ≤ i then 2 * (cnt 0 : Int) + 1 else nth ws (qT l j) := by
    intro j hj
    unfold aloneW
    by_cases h1 : i ≤ 1
    · rw [if_pos h1, if_neg (by omega)]
    · rw [if_neg h1, if_pos (by rw [recL_len]; omega), putN_nth _ _ _ _ (by rw [List.length_set, h.1]; omega)]
      by_cases e : j = 0
      · subst e
        rw [if_neg (by omega), nth_set _ _ _ _ (by rw [h.1]; exact g.2.2.2.1), if_pos rfl, if_pos ⟨rfl, by omega⟩]
      · have ha := seq_apart hok hN hj hn0 e (cnt 0)
        rw [if_neg (by omega), nth_set _ _ _ _ (by rw [h.1]; exact g.2.2.2.1), if_neg ha.1, if_neg (by omega)]
  refine ⟨⟨by rw [aloneW_len]; exact h.1, fun j hj => ?_⟩, fun j h1 hj => ?_⟩
  · rw [key j hj]
    split
    · rename_i e
      rw [e.1]; omega
    · rw [h.2 j hj]; omega
  · rw [key j hj, if_neg (by omega)]
    exact h.2 j hj
/-- a publishing of another topic than the first one, while that one is under way -/
theorem between_gen {l : Nat → Tp} {n N : Nat} (hok : TOk n l) (hN : (N : Int) = offT l n) {ws : List Int} {cnt : Nat → Nat} (h : GenIs l n N ws cnt) {k : Nat} (hk : k < n) (x : Int) :
    GenIs l n N (aloneW (qT l k) (pG l k (cnt k)) (recL (mT l k) x) (cnt k) ws (mT l k + 3)) (upC cnt k (cnt k + 1)) := by
  have g := geo hok hN hk (cnt k)
  refine ⟨by rw [aloneW_len]; exact h.1, fun j hj => ?_⟩
  have hn := alone_nth (q := qT l k) (p := pG l k (cnt k)) (k := cnt k) (rec := recL (mT l k) x) (ws := ws) (by rw [h.1]; exact g.2.2.2.1) (by rw [recL_len, h.1]; exact g.2.2.2.2.2.1) (by rw [recL_len]; omega) (qT l j)
  rw [recL_len] at hn
  rw [hn]
  unfold upC
  by_cases e : j = k
  · subst e
    rw [if_pos rfl, if_pos rfl]
    push_cast
    omega
  · have ha := seq_apart hok hN hj hk e (cnt k)
    rw [if_neg ha.1, if_neg ha.2, if_neg e]
    exact h.2 j hj
/-- how often topic k is published, as a row of numbers says -/
def timesF (ts : List Int) (k : Nat) : Nat := if k < ts.length ∧ 0 < nth ts k ∧ nth ts k ≤ 8 then (nth ts k).toNat else 0
theorem timesF_le (ts : List Int) (k : Nat) : timesF ts k ≤ 8 := by
  unfold timesF
  split <;> omega
theorem xM_V {n m : Nat} {T s0 b0 : Int} {G G0 V V' V0 : List Int} {i : Nat} (h : i ≤ n) : xM n m T s0 b0 G G0 V V0 i = xM n m T s0 b0 G G0 V' V0 i := by
  unfold xM
  rw [show i - n = 0 by omega]
  have e : mix m V V0 0 = mix m V' V0 0 := by
    unfold mix
    congr 1
  rw [e]
theorem vOf_fit {l : Nat → Spot} {n m : Nat} {G ws : List Int} (hw : ∀ i, 0 ≤ wordF ws i ∧ wordF ws i ≤ 18446744073709551615) : ∀ j, j < m → 0 ≤ nth (vOf l n m G ws) j ∧ nth (vOf l n m G ws) j ≤ 18446744073709551615 := by
  intro j hj
  unfold vOf
  rw [ofF_nth _ _ hj]
  exact hw _
/-- what a step asks of a snapshot, i accesses into a try -/
theorem xM_ok2 {l : Nat → Tp} {n m : Nat} (h : TOk n l) (hm : widthF (laidS l) n = (m : Int)) {T s0 b0 : Int} {G G0 V V0 : List Int} (hT : 1 ≤ T ∧ T ≤ 2) (hs : 0 ≤ s0 ∧ s0 ≤ 1000) (hG : ∀ j, j < n → 0 ≤ nth G j ∧ nth G j ≤ 18446744073709551615) (hG0 : ∀ j, j < n → 0 ≤ nth G0 j ∧ nth G0 j ≤ 18446744073709551615) {i : Nat} (hi : i ≤ 2 * n + m) :
    SOk n m (laidS l) 2 (xM n m T s0 b0 G G0 V V0 i) 2000 := by
  have hr := wrongE_zero (laid_wrong h (tries := 1) (by omega))
  have hmm := m_of (laid_wrong h (tries := 1) (by omega)) hm
  have hb := wide_bounds h hm
  refine ⟨fun h0 => ⟨⟨hr.1.1, hr.1.2, hmm.2, hr.2.1, hm, mix_fit hG hG0, ⟨hT.1, by have := hT.2; show T ≤ 16; omega⟩, ?_⟩, ?_, ?_⟩, ⟨mix_len _ _ _ _, mix_len _ _ _ _⟩, ⟨hT.2, by omega⟩, ?_, hr.1, hmm⟩
  · show (0 : Int) ≤ s0 + (i : Int) ∧ s0 + (i : Int) ≤ _
    have := h.1
    omega
  · show (0 : Int) ≤ (i : Int)
    omega
  · have h0 : (if i = 2 * n + m then (1 : Int) else 0) = 0 := h0
    by_cases e : i = 2 * n + m
    · rw [if_pos e] at h0; exact absurd h0 (by decide)
    · show (i : Int) < _
      omega
  · show (0 : Int) ≤ s0 + (i : Int) ∧ s0 + (i : Int) ≤ _
    have := h.1
    omega
theorem Clone_ex (g h : Nat) (ws : List Int) (t : Int) (w : World) (hb : BankAt w g h ws t) :
    Calls Try.prog 30 #[.pointer (some ⟨g, 0, none⟩)] w fun e w' => ∃ g2 h2, e = .returned (.pointer (some ⟨g2, 0, none⟩)) ∧ BankAt w' g2 h2 ws t ∧ w.heap.size ≤ h2 ∧ h2 < g2 ∧ g2 < w'.heap.size ∧ Below w.heap.size w w' :=
  (Clone_any g h ws t w hb).mono fun e w' ⟨he, hk, hl⟩ => ⟨_, _, he, hk, Nat.le_refl _, by omega, hk.head.lt, hl⟩
/-- a row of words with its whole block, from its first cell on -/
def GRow (w : World) (r : Nat) (xs : List Int) : Prop := ∃ cur, Blk w r 42 cur ∧ ∀ i, i < xs.length → cur[i]? = some (.int .u64 (nth xs i))
theorem GRow.ex {T : Nat → Prop} {w w' : World} {r : Nat} {xs : List Int} (h : GRow w r xs) (p : Ex T w w') (hr : ¬ T r) : GRow w' r xs := by
  obtain ⟨cur, h1, h2⟩ := h
  exact ⟨cur, h1.ex p hr, h2⟩
theorem GRow.cell {w : World} {r : Nat} {xs : List Int} (h : GRow w r xs) {i : Nat} (hi : i < xs.length) : w.cell? ⟨r, i, none⟩ = some (.int .u64 (nth xs i)) := by
  obtain ⟨cur, h1, h2⟩ := h
  rw [h1.cell]
  exact h2 i hi
theorem GRow.frozen {w : World} {r : Nat} {xs : List Int} (h : GRow w r xs) (i : Nat) : w.frozen? ⟨r, i, none⟩ = false := by
  obtain ⟨cur, h1, h2⟩ := h
  exact h1.frozen i
theorem GRow.lt {w : World} {r : Nat} {xs : List Int} (h : GRow w r xs) : r < w.heap.size := by
  obtain ⟨cur, h1, h2⟩ := h
  exact h1.lt
theorem GRow.store {w : World} {r : Nat} {xs : List Int} (h : GRow w r xs) {k : Nat} (hk : k < xs.length) (x : Int) : GRow (w.setCell ⟨r, k, none⟩ (.int .u64 x)) r (xs.set k x) := by
  obtain ⟨cur, h1, h2⟩ := h
  refine ⟨_, h1.set_ k (.int .u64 x), fun i hi => ?_⟩
  rw [List.length_set] at hi
  have h3 := h2 i hi
  have h4 : i < cur.size := (Array.getElem?_eq_some_iff.1 h3).1
  rw [Array.getElem?_setIfInBounds, nth_set _ _ _ _ hk]
  by_cases e : k = i
  · subst e
    rw [if_pos rfl, if_pos h4, if_pos rfl]
  · rw [if_neg e, if_neg (fun e2 => e e2.symm)]
    exact h3
theorem GRow.ints {w : World} {r n c : Nat} {xs : List Int} (h : GRow w r xs) (hn : xs.length = n) (hl : n ≤ maxLen) : Ints w .u64 (.slice (some ⟨r, 0, none⟩) n c) xs := by
  subst hn
  exact ⟨_, _, rfl, hl, fun _ => ⟨r, 0, rfl, h.lt, fun i hi => by rw [Nat.zero_add]; exact h.cell hi⟩⟩
theorem grow_of_own {w : World} {base : Nat} {v : Value} {xs : List Int} (h : OwnR w base v xs) (hn : xs ≠ []) : ∃ r c, v = .slice (some ⟨r, 0, none⟩) xs.length c ∧ base ≤ r ∧ GRow w r xs := by
  have hlt := h.lt
  rcases h.2 with ⟨rfl, h0⟩ | ⟨g, cap, cur, rfl, hb, hh, _, _, _, ht⟩
  · exact absurd (by simpa using h0) hn
  · refine ⟨g, cap, rfl, hb, cur, hh, fun i hi => ?_⟩
    have h1 : (xs.map (Value.int .u64))[i]? = some (.int .u64 (nth xs i)) := by
      simp [nth, List.getD_eq_getElem?_getD, List.getElem?_eq_getElem hi]
    rw [← ht] at h1
    rw [List.getElem?_take_of_lt (show i < xs.length * 1 by omega)] at h1
    simpa using h1
theorem ofF_succ (k : Nat) (f : Nat → Int) : ofF (k + 1) f = ofF k f ++ [f k] := by simp [ofF, List.range_succ]
end Go.Proofs.Ytjdalllfnlpmnaa.Bank
