/-
  Law 10: a snapshot over words that stand still, and what publishings leave, in plain words. No program. By an AI agent.
-/
import Derived.Test.YtjdalllfnlpmnaaSnY
namespace Go.Proofs.Ytjdalllfnlpmnaa.Bank
set_option linter.unusedVariables false
set_option linter.unusedSimpArgs false
open Go Go.RowKit Go.Proofs.Ytjdalllfnlpmnaa.Base
def ofF (n : Nat) (f : Nat → Int) : List Int := (List.range n).map f
theorem ofF_len (n : Nat) (f : Nat → Int) : (ofF n f).length = n := by simp [ofF]
theorem ofF_nth (n : Nat) (f : Nat → Int) {i : Nat} (h : i < n) : nth (ofF n f) i = f i := by simp [ofF, nth, List.getD_eq_getElem?_getD, List.getElem?_map, List.getElem?_range h]
theorem eq_ofF {L : List Int} {n : Nat} {f : Nat → Int} (hl : L.length = n) (h : ∀ i, i < n → nth L i = f i) : L = ofF n f :=
  eq_of_nth (by rw [ofF_len]; exact hl) fun i hi => by rw [ofF_nth n f (by omega)]; exact h i (by omega)
/-- the first i of A, the rest of A0 -/
def mix (n : Nat) (A A0 : List Int) (i : Nat) : List Int := ofF n fun j => if j < i then nth A j else nth A0 j
theorem mix_len (n : Nat) (A A0 : List Int) (i : Nat) : (mix n A A0 i).length = n := ofF_len _ _
theorem mix_zero {n : Nat} (A : List Int) {A0 : List Int} (h : A0.length = n) : mix n A A0 0 = A0 := (eq_ofF h fun i hi => by rw [if_neg (by omega)]).symm
theorem mix_full {n : Nat} {A : List Int} (A0 : List Int) {i : Nat} (h : A.length = n) (hi : n ≤ i) : mix n A A0 i = A := (eq_ofF h fun j hj => by rw [if_pos (by omega)]).symm
theorem mix_set {n : Nat} (A A0 : List Int) {i : Nat} (hi : i < n) : (mix n A A0 i).set i (nth A i) = mix n A A0 (i + 1) := by
  refine eq_ofF (by rw [List.length_set, mix_len]) fun j hj => ?_
  rw [nth_set _ _ _ _ (by rw [mix_len]; exact hi)]
  by_cases h : j = i
  · subst h; rw [if_pos rfl, if_pos (by omega)]
  · rw [if_neg h, mix, ofF_nth _ _ hj]
    by_cases h2 : j < i
    · rw [if_pos h2, if_pos (by omega)]
    · rw [if_neg h2, if_neg (by omega)]
/-- a snapshot that has done i accesses of a try; s0: its steps ahead of the try, b0: the moment that was noted last, G, V: what it takes -/
def xM (n m : Nat) (T s0 b0 : Int) (G G0 V V0 : List Int) (i : Nat) : SX :=
  ⟨T, i, if n ≤ i then s0 + n else b0, s0 + i, if i = 2 * n + m then 1 else 0, mix n G G0 i, mix m V V0 (i - n)⟩
theorem xM_zero {n m : Nat} (T : Int) (G V : List Int) (hn : 1 ≤ n) : xM n m T 0 0 G (zeros n) V (zeros m) 0 = SX.zero T n m := by
  unfold xM SX.zero
  rw [if_neg (by omega), if_neg (by omega), mix_zero G (zeros_len n), Nat.zero_sub, mix_zero V (zeros_len m)]
  rfl
theorem xM_A {l : Nat → Spot} {n m : Nat} {ws : List Int} {T s0 b0 : Int} {G G0 V V0 : List Int} {i : Nat} (hi : i < n) (hn : 1 ≤ n) (hin : inW ws (l i).seq) (hg : nth G i = wordF ws (l i).seq / 2) (t : Int) :
    sStepF l n m ws (xM n m T s0 b0 G G0 V V0 i) = xM n m T s0 b0 G G0 V V0 (i + 1) ∧ sTickF l n m ws (xM n m T s0 b0 G G0 V V0 i) t = IntKind.i64.wrap (t + 1) := by
  have hk : ((i : Nat) : Int) < (n : Int) := by omega
  have e : xM n m T s0 b0 G G0 V V0 i = ⟨T, i, b0, s0 + i, 0, mix n G G0 i, mix m V V0 0⟩ := by
    unfold xM
    rw [if_neg (by omega), if_neg (by omega), show i - n = 0 by omega]
  have ea : sAtF l n m ⟨T, i, b0, s0 + i, 0, mix n G G0 i, mix m V V0 0⟩ = (l i).seq := by unfold sAtF; rw [if_pos hk]; rfl
  rw [e]
  refine ⟨?_, ?_⟩
  · unfold sStepF
    rw [ea]
    simp only [ne_eq, not_true_eq_false, if_false, hin, hk, if_true, Int.toNat_natCast]
    rw [← hg, mix_set G G0 hi]
    unfold xM
    rw [show i + 1 - n = 0 by omega, if_neg (show ¬ i + 1 = 2 * n + m by omega)]
    by_cases h : n ≤ i + 1
    · rw [if_pos h, if_pos (by omega)]
      simp only [SX.mk.injEq]
      refine ⟨trivial, by push_cast; rfl, by omega, by push_cast; omega, trivial, trivial, trivial⟩
    · rw [if_neg h, if_neg (by omega)]
      simp only [SX.mk.injEq]
      refine ⟨trivial, by push_cast; rfl, trivial, by push_cast; omega, trivial, trivial, trivial⟩
  · unfold sTickF
    rw [ea, if_neg (by simp), tickF_in hin]
theorem xM_B {l : Nat → Spot} {n m : Nat} {ws : List Int} {T s0 b0 : Int} {G G0 V V0 : List Int} {j : Nat} (hj : j < m) (hn : 1 ≤ n) (hG : G.length = n) (hin : inW ws (sPlace l G n j)) (hv : nth V j = wordF ws (sPlace l G n j)) (t : Int) :
    sStepF l n m ws (xM n m T s0 b0 G G0 V V0 (n + j)) = xM n m T s0 b0 G G0 V V0 (n + j + 1) ∧ sTickF l n m ws (xM n m T s0 b0 G G0 V V0 (n + j)) t = IntKind.i64.wrap (t + 1) := by
  have hk1 : ¬ ((n + j : Nat) : Int) < (n : Int) := by omega
  have hk2 : ((n + j : Nat) : Int) < (n : Int) + (m : Int) := by omega
  have e0 : ((n + j : Nat) : Int) - (n : Int) = (j : Int) := by omega
  have e : xM n m T s0 b0 G G0 V V0 (n + j) = ⟨T, (n + j : Nat), s0 + n, s0 + (n + j : Nat), 0, G, mix m V V0 j⟩ := by
    unfold xM
    rw [if_pos (by omega), if_neg (by omega), mix_full G0 hG (by omega), show n + j - n = j by omega]
  have ea : sAtF l n m ⟨T, (n + j : Nat), s0 + n, s0 + (n + j : Nat), 0, G, mix m V V0 j⟩ = sPlace l G n j := by unfold sAtF; rw [if_neg hk1, if_pos hk2]; simp only [e0]
  rw [e]
  refine ⟨?_, ?_⟩
  · unfold sStepF
    rw [ea]
    simp only [ne_eq, not_true_eq_false, if_false, hin, hk1, hk2, if_true, e0, Int.toNat_natCast]
    rw [← hv, mix_set V V0 hj]
    unfold xM
    rw [if_pos (show n ≤ n + j + 1 by omega), if_neg (show ¬ n + j + 1 = 2 * n + m by omega), mix_full G0 hG (by omega), show n + j + 1 - n = j + 1 by omega]
    simp only [SX.mk.injEq]
    refine ⟨trivial, by push_cast; rfl, trivial, by push_cast; omega, trivial, trivial, trivial⟩
  · unfold sTickF
    rw [ea, if_neg (by simp), tickF_in hin]
theorem xM_at {n m : Nat} {T s0 b0 : Int} {G G0 V V0 : List Int} {j : Nat} (hj : j < n) (hG : G.length = n) (hV : V.length = m) : xM n m T s0 b0 G G0 V V0 (n + m + j) = ⟨T, (n + m + j : Nat), s0 + n, s0 + (n + m + j : Nat), 0, G, V⟩ := by
  unfold xM
  rw [if_pos (by omega), if_neg (by omega), mix_full G0 hG (by omega), mix_full V0 hV (by omega)]
theorem xM_C {l : Nat → Spot} {n m : Nat} {ws : List Int} {T s0 b0 : Int} {G G0 V V0 : List Int} {j : Nat} (hj : j < n) (hG : G.length = n) (hV : V.length = m) (hin : inW ws (l j).seq) (hg : wordF ws (l j).seq / 2 = nth G j) (t : Int) :
    sStepF l n m ws (xM n m T s0 b0 G G0 V V0 (n + m + j)) = xM n m T s0 b0 G G0 V V0 (n + m + j + 1) ∧ sTickF l n m ws (xM n m T s0 b0 G G0 V V0 (n + m + j)) t = IntKind.i64.wrap (t + 1) := by
  have hk1 : ¬ ((n + m + j : Nat) : Int) < (n : Int) := by omega
  have hk2 : ¬ ((n + m + j : Nat) : Int) < (n : Int) + (m : Int) := by omega
  have e0 : ((n + m + j : Nat) : Int) - (n : Int) - (m : Int) = (j : Int) := by omega
  have ea : sAtF l n m ⟨T, (n + m + j : Nat), s0 + n, s0 + (n + m + j : Nat), 0, G, V⟩ = (l j).seq := by unfold sAtF; rw [if_neg hk1, if_neg hk2]; simp only [e0, Int.toNat_natCast]
  rw [xM_at hj hG hV]
  refine ⟨?_, ?_⟩
  · unfold sStepF
    rw [ea]
    simp only [ne_eq, not_true_eq_false, if_false, hin, hk1, hk2, if_true, e0, Int.toNat_natCast, hg]
    unfold xM
    rw [if_pos (show n ≤ n + m + j + 1 by omega), mix_full G0 hG (by omega), mix_full V0 hV (by omega)]
    simp only [SX.mk.injEq]
    refine ⟨trivial, by push_cast; rfl, trivial, by push_cast; omega, ?_, trivial, trivial⟩
    by_cases h : n + m + j + 1 = 2 * n + m
    · rw [if_pos h, if_pos (by omega)]
    · rw [if_neg h, if_neg (by omega)]
  · unfold sTickF
    rw [ea, if_neg (by simp), tickF_in hin]
/-- the second round meets another generation: that was a try -/
theorem xM_D {l : Nat → Spot} {n m : Nat} {ws : List Int} {T s0 b0 : Int} {G G0 V V0 : List Int} {j : Nat} (hj : j < n) (hG : G.length = n) (hV : V.length = m) (hin : inW ws (l j).seq) (hg : ¬ wordF ws (l j).seq / 2 = nth G j) (hT : ¬ T - 1 = 0) (hn : 1 ≤ n) (G1 V1 : List Int) (t : Int) :
    sStepF l n m ws (xM n m T s0 b0 G G0 V V0 (n + m + j)) = xM n m (T - 1) (s0 + (n + m + j : Nat) + 1) (s0 + n) G1 G V1 V 0 ∧ sTickF l n m ws (xM n m T s0 b0 G G0 V V0 (n + m + j)) t = IntKind.i64.wrap (t + 1) := by
  have hk1 : ¬ ((n + m + j : Nat) : Int) < (n : Int) := by omega
  have hk2 : ¬ ((n + m + j : Nat) : Int) < (n : Int) + (m : Int) := by omega
  have e0 : ((n + m + j : Nat) : Int) - (n : Int) - (m : Int) = (j : Int) := by omega
  have ea : sAtF l n m ⟨T, (n + m + j : Nat), s0 + n, s0 + (n + m + j : Nat), 0, G, V⟩ = (l j).seq := by unfold sAtF; rw [if_neg hk1, if_neg hk2]; simp only [e0, Int.toNat_natCast]
  rw [xM_at hj hG hV]
  refine ⟨?_, ?_⟩
  · unfold sStepF
    rw [ea]
    simp only [ne_eq, not_true_eq_false, if_false, hin, hk1, hk2, if_true, e0, Int.toNat_natCast, hg, hT]
    unfold xM
    rw [if_neg (show ¬ n ≤ 0 by omega), if_neg (show ¬ 0 = 2 * n + m by omega), mix_zero G1 hG, Nat.zero_sub, mix_zero V1 hV]
    simp only [SX.mk.injEq]
    refine ⟨trivial, rfl, trivial, by simp, trivial, trivial, trivial⟩
  · unfold sTickF
    rw [ea, if_neg (by simp), tickF_in hin]
/-- the generations, and the words, of words that stand still -/
def gOf (l : Nat → Spot) (n : Nat) (ws : List Int) : List Int := ofF n fun j => wordF ws (l j).seq / 2
def vOf (l : Nat → Spot) (n m : Nat) (G ws : List Int) : List Int := ofF m fun j => wordF ws (sPlace l G n j)
theorem gOf_len (l : Nat → Spot) (n : Nat) (ws : List Int) : (gOf l n ws).length = n := ofF_len _ _
theorem vOf_len (l : Nat → Spot) (n m : Nat) (G ws : List Int) : (vOf l n m G ws).length = m := ofF_len _ _
/-- where topics lie: each access is within the bank -/
theorem off_mono {l : Nat → Tp} {n : Nat} (h : ∀ i, i < n → TGood (l i)) {i j : Nat} (hij : i ≤ j) (hj : j ≤ n) : offT l i ≤ offT l j := by
  induction j with
  | zero => rw [show i = 0 by omega]; exact Int.le_refl _
  | succ j ih =>
    by_cases e : i = j + 1
    · subst e; exact Int.le_refl _
    · have h1 := ih (by omega) (by omega)
      have h2 := good_mul (h j (by omega))
      have h3 : offT l (j + 1) = offT l j + 2 + (l j).words * (l j).depth := rfl
      omega
theorem seq_in {l : Nat → Tp} {n : Nat} (h : TOk n l) {ws : List Int} (hl : (ws.length : Int) = offT l n) {i : Nat} (hi : i < n) : inW ws (laidS l i).seq := by
  have h0 := offT_bounds h.2 i (by omega)
  have h1 := off_mono h.2 (show i + 1 ≤ n by omega) (Nat.le_refl _)
  have h2 := good_mul (h.2 i hi)
  have h3 : offT l (i + 1) = offT l i + 2 + (l i).words * (l i).depth := rfl
  show 0 ≤ offT l i + 1 ∧ offT l i + 1 < (ws.length : Int)
  omega
theorem at_laid {l : Nat → Tp} {n : Nat} (h : TOk n l) {i : Nat} (hi : i < n) (gen : Int) : atF (laidS l i) gen = offT l i + 2 + gen % (l i).depth * (l i).words := atF_ok (laid_right h hi).atOk
theorem at_in {l : Nat → Tp} {n : Nat} (h : TOk n l) {i : Nat} (hi : i < n) (gen : Int) : offT l i + 2 ≤ atF (laidS l i) gen ∧ atF (laidS l i) gen + (l i).words ≤ offT l (i + 1) := by
  rw [at_laid h hi]
  obtain ⟨⟨h1, h2⟩, h3, h4⟩ := h.2 i hi
  have a := Int.emod_nonneg gen (b := (l i).depth) (by omega)
  have b := Int.emod_lt_of_pos gen (b := (l i).depth) (by omega)
  have c : 0 ≤ gen % (l i).depth * (l i).words := Int.mul_nonneg a (by omega)
  have d : (gen % (l i).depth + 1) * (l i).words ≤ (l i).depth * (l i).words := Int.mul_le_mul_of_nonneg_right (by omega) (by omega)
  rw [Int.add_mul, Int.one_mul, Int.mul_comm (l i).depth] at d
  have h5 : offT l (i + 1) = offT l i + 2 + (l i).words * (l i).depth := rfl
  omega
theorem place_in {l : Nat → Tp} {n : Nat} (h : TOk n l) {ws : List Int} (hl : (ws.length : Int) = offT l n) (G : List Int) {q : Int} (h0 : 0 ≤ q) (h1 : q < widthF (laidS l) n) : inW ws (sPlace (laidS l) G n q) := by
  obtain ⟨hi, h2, h3⟩ := findT_in h0 h1
  unfold sPlace
  generalize findT (laidS l) n q = i at *
  have h4 := at_in h hi (nth G i)
  have h5 : widthF (laidS l) (i + 1) = widthF (laidS l) i + (l i).words := rfl
  have h6 := off_mono h.2 (show i + 1 ≤ n by omega) (Nat.le_refl _)
  have h7 := offT_bounds h.2 i (by omega)
  constructor <;> omega
/-- a snapshot alone, of words that stand still: so many steps -/
theorem al_step {l : Nat → Tp} {n m : Nat} (h : TOk n l) (hm : widthF (laidS l) n = (m : Int)) {ws : List Int} (hl : (ws.length : Int) = offT l n) {T s0 b0 : Int} {G0 V0 : List Int} {i : Nat} (hi : i < 2 * n + m) (t : Int) :
    sStepF (laidS l) n m ws (xM n m T s0 b0 (gOf (laidS l) n ws) G0 (vOf (laidS l) n m (gOf (laidS l) n ws) ws) V0 i) = xM n m T s0 b0 (gOf (laidS l) n ws) G0 (vOf (laidS l) n m (gOf (laidS l) n ws) ws) V0 (i + 1) ∧
    sTickF (laidS l) n m ws (xM n m T s0 b0 (gOf (laidS l) n ws) G0 (vOf (laidS l) n m (gOf (laidS l) n ws) ws) V0 i) t = IntKind.i64.wrap (t + 1) := by
  have hn := h.1.1
  by_cases h1 : i < n
  · exact xM_A h1 hn (seq_in h hl h1) (ofF_nth _ _ h1) t
  by_cases h2 : i < n + m
  · obtain ⟨j, rfl⟩ : ∃ j, i = n + j := ⟨i - n, by omega⟩
    exact xM_B (by omega) hn (gOf_len _ _ _) (place_in h hl _ (by omega) (by rw [hm]; omega)) (ofF_nth _ _ (by omega)) t
  · obtain ⟨j, rfl⟩ : ∃ j, i = n + m + j := ⟨i - n - m, by omega⟩
    exact xM_C (by omega) (gOf_len _ _ _) (vOf_len _ _ _ _ _) (seq_in h hl (by omega)) (by unfold gOf; rw [ofF_nth n _ (show j < n by omega)]) t
theorem alone_nth {q p k : Nat} {rec ws : List Int} (hq : q < ws.length) (hpl : p + rec.length ≤ ws.length) (hr : 1 ≤ rec.length) (j : Nat) :
    nth (aloneW q p rec k ws (rec.length + 3)) j = if j = q then 2 * (k : Int) + 2 else if p ≤ j ∧ j < p + rec.length then nth rec (j - p) else nth ws j := by
  unfold aloneW
  rw [if_neg (by omega), if_neg (by omega), nth_set _ _ _ _ (by rw [putN_len, List.length_set]; omega)]
  by_cases h1 : j = q
  · rw [if_pos h1, if_pos h1]
  · rw [if_neg h1, if_neg h1, putN_nth _ _ _ _ (by rw [List.length_set]; omega)]
    by_cases h2 : p ≤ j ∧ j < p + rec.length
    · rw [if_pos h2, if_pos h2]
    · rw [if_neg h2, if_neg h2, nth_set _ _ _ _ hq, if_neg h1]
theorem aloneW_len {q p k : Nat} {rec ws : List Int} (i : Nat) : (aloneW q p rec k ws i).length = ws.length := by
  unfold aloneW
  split
  · rfl
  · split
    · rw [putN_len, List.length_set]
    · rw [List.length_set, putN_len, List.length_set]
theorem nth_zeros (n i : Nat) : nth (zeros n) i = 0 := by
  unfold nth zeros
  rw [List.getD_eq_getElem?_getD, List.getElem?_replicate]
  split <;> rfl
end Go.Proofs.Ytjdalllfnlpmnaa.Bank
