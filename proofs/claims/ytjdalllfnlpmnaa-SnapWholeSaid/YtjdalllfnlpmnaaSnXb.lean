/-
  What SnapAlone leans on, in plain words. Printed by wip/tools/mksna.py. No condition. By an AI agent.
-/
import Derived.Test.YtjdalllfnlpmnaaSnX
namespace Go.Proofs.Ytjdalllfnlpmnaa.Bank
set_option linter.unusedVariables false
set_option linter.unusedSimpArgs false
open Go Go.RowKit Go.Proofs.Ytjdalllfnlpmnaa.Base

theorem mid_step {l : Nat → Tp} {n m : Nat} (h : TOk n l) (hm : widthF (laidS l) n = (m : Int)) {ws : List Int} (hl : (ws.length : Int) = offT l n) {T s0 b0 : Int} {G G0 V0 : List Int} (hG : G.length = n) (hg : ∀ j, j + 1 < n → wordF ws (laidS l j).seq / 2 = nth G j) {i : Nat} (h1 : n ≤ i) (h2 : i + 1 < 2 * n + m) (t : Int) :
    sStepF (laidS l) n m ws (xM n m T s0 b0 G G0 (vOf (laidS l) n m G ws) V0 i) = xM n m T s0 b0 G G0 (vOf (laidS l) n m G ws) V0 (i + 1) ∧ sTickF (laidS l) n m ws (xM n m T s0 b0 G G0 (vOf (laidS l) n m G ws) V0 i) t = IntKind.i64.wrap (t + 1) := by
  have hn := h.1.1
  by_cases h3 : i < n + m
  · obtain ⟨j, rfl⟩ : ∃ j, i = n + j := ⟨i - n, by omega⟩
    exact xM_B (by omega) hn hG (place_in h hl _ (by omega) (by rw [hm]; omega)) (by unfold vOf; rw [ofF_nth m _ (show j < m by omega)]) t
  · obtain ⟨j, rfl⟩ : ∃ j, i = n + m + j := ⟨i - n - m, by omega⟩
    exact xM_C (by omega) hG (vOf_len _ _ _ _ _) (seq_in h hl (by omega)) (hg j (by omega)) t
theorem xM_how {n m : Nat} {T s0 b0 : Int} {G G0 V V0 : List Int} {i : Nat} (h : i < 2 * n + m) : (xM n m T s0 b0 G G0 V V0 i).how = 0 := by
  unfold xM
  simp only
  rw [if_neg (by omega)]
theorem xM_fin {n m : Nat} {T s0 b0 : Int} {G G0 V V0 : List Int} {i : Nat} (hG : G.length = n) (hV : V.length = m) (h : i = 2 * n + m) : (xM n m T s0 b0 G G0 V V0 i).how = 1 ∧ (xM n m T s0 b0 G G0 V V0 i).gl = G ∧ (xM n m T s0 b0 G G0 V V0 i).wl = V ∧ (xM n m T s0 b0 G G0 V V0 i).begun = s0 + n ∧ (xM n m T s0 b0 G G0 V V0 i).steps = s0 + ((2 * n + m : Nat) : Int) := by
  subst h
  exact ⟨if_pos rfl, mix_full _ hG (by omega), mix_full _ hV (by omega), if_pos (by omega), rfl⟩
theorem set_up {k q cq : Nat} {ts : List Int} (hq : q < k) (hc : timesF ts q = cq) : (ofF k fun j => (timesF ts j : Int)).set q ((cq : Int) + 1) = ofF k fun j => (upC (timesF ts) q (cq + 1) j : Int) := by
  refine eq_ofF (by rw [List.length_set, ofF_len]) fun j hj => ?_
  rw [nth_set _ _ _ _ (by rw [ofF_len]; exact hq)]
  unfold upC
  by_cases e : j = q
  · rw [if_pos e, if_pos e]; push_cast; rfl
  · rw [if_neg e, if_neg e, ofF_nth _ _ hj]
theorem mid_eq {l : Nat → Tp} {n N q c : Nat} {cnt : Nat → Nat} (hok : TOk n l) (hN : (N : Int) = offT l n) {ws1 ws2 : List Int} (h1 : GenIs l n N ws1 cnt) (h2 : GenIs l n N ws2 (upC cnt q c)) {j : Nat} (hj : j < n) (hne : j ≠ q) : wordF ws2 (laidS l j).seq / 2 = nth (gOf (laidS l) n ws1) j := by
  have g := geo hok hN hj 0
  unfold gOf
  rw [ofF_nth _ _ hj, g.2.2.1, wordF_nat ws2 _ (by rw [h2.1]; exact g.2.2.2.1), wordF_nat ws1 _ (by rw [h1.1]; exact g.2.2.2.1), h1.2 j hj, h2.2 j hj]
  unfold upC
  rw [if_neg hne]
theorem last_ne {l : Nat → Tp} {n N q c : Nat} {cnt : Nat → Nat} (hok : TOk n l) (hN : (N : Int) = offT l n) {ws1 ws2 : List Int} (h1 : GenIs l n N ws1 cnt) (h2 : GenIs l n N ws2 (upC cnt q c)) (hq : q < n) (hc : c ≠ cnt q) : ¬ wordF ws2 (laidS l q).seq / 2 = nth (gOf (laidS l) n ws1) q := by
  have g := geo hok hN hq 0
  unfold gOf
  rw [ofF_nth _ _ hq, g.2.2.1, wordF_nat ws2 _ (by rw [h2.1]; exact g.2.2.2.1), wordF_nat ws1 _ (by rw [h1.1]; exact g.2.2.2.1), h1.2 q hq, h2.2 q hq]
  unfold upC
  rw [if_pos rfl]
  intro e
  exact hc (by omega)
def cntA (ts : List Int) (k : Nat) : Nat → Nat := fun j => if j < k then timesF ts j else 0
def cntB (ts : List Int) (k i : Nat) : Nat → Nat := fun j => if j < k then timesF ts j else if j = k then i else 0
theorem cntB_self (ts : List Int) (k i : Nat) : cntB ts k i k = i := by simp [cntB]
theorem cnt_zero (ts : List Int) (k j : Nat) : cntA ts k j = cntB ts k 0 j := by
  unfold cntA cntB
  by_cases e : j < k <;> simp [e]
theorem up_inner (ts : List Int) (k i j : Nat) : upC (cntB ts k i) k (i + 1) j = cntB ts k (i + 1) j := by
  unfold upC cntB
  by_cases e : j = k
  · subst e; simp
  · by_cases e1 : j < k
    · simp [e, e1]
    · simp [e, e1]
theorem up_outer (ts : List Int) (k i j : Nat) (h : timesF ts k = i) : cntB ts k i j = cntA ts (k + 1) j := by
  unfold cntA cntB
  by_cases e : j = k
  · subst e; simp [h]
  · by_cases e1 : j < k
    · simp [e1, show j < k + 1 by omega]
    · simp [e, e1, show ¬ j < k + 1 by omega]
theorem width_num2 {l : Nat → Tp} {n k : Nat} (h : TOk n l) (hk : k < n) : (wrap64 (2 * (k : Int) + widthF (laidS l) k + 2) = 2 * (k : Int) + widthF (laidS l) k + 2) ∧ wrap64 (2 * (k : Int) + widthF (laidS l) k + 2 + (l k).words) = 2 * ((k + 1 : Nat) : Int) + widthF (laidS l) (k + 1) := by
  have hr := (wrongE_zero (laid_wrong h (tries := 1) (by omega))).2.1
  have hb := widthF_bounds hr k (by omega)
  have h4 := (h.2 k hk).1
  have h5 := h.1
  have h3 : widthF (laidS l) (k + 1) = widthF (laidS l) k + (l k).words := rfl
  refine ⟨wrap64_in _ (by omega), ?_⟩
  rw [wrap64_in _ (by omega), h3]
  push_cast
  omega
end Go.Proofs.Ytjdalllfnlpmnaa.Bank
