/-
  Law 10: rows that the laws turn, and what the topics hold behind one publishing each. Conditions stand at each. By an AI agent.
-/
import Derived.Test.YtjdalllfnlpmnaaSnH
namespace Go.Proofs.Ytjdalllfnlpmnaa.Bank
set_option linter.unusedVariables false
set_option linter.unusedSimpArgs false
open Go Go.RowKit Go.Proofs.Ytjdalllfnlpmnaa.Base
/-- a row of spots, with its whole block -/
def SRow (w : World) (r n : Nat) (l : Nat → Spot) : Prop := ∃ cur, Blk w r 65 cur ∧ ∀ i, i < n → ∀ j, j < 5 → cur[i * 5 + j]? = some (scell (l i) j)
theorem SRow.ex {T : Nat → Prop} {w w' : World} {r n : Nat} {l : Nat → Spot} (h : SRow w r n l) (p : Ex T w w') (hr : ¬ T r) : SRow w' r n l := by
  obtain ⟨cur, h1, h2⟩ := h
  exact ⟨cur, h1.ex p hr, h2⟩
theorem SRow.bl {w w' : World} {r n : Nat} {l : Nat → Spot} (h : SRow w r n l) (p : Below w.heap.size w w') : SRow w' r n l := h.ex (T := fun _ => False) (Ex.of_below p) (fun h => h)
theorem SRow.cell {w : World} {r n : Nat} {l : Nat → Spot} (h : SRow w r n l) (i : Nat) (hi : i < n) (j : Nat) (hj : j < 5) : w.cell? ⟨r, i * 5 + j, none⟩ = some (scell (l i) j) := by
  obtain ⟨cur, h1, h2⟩ := h
  rw [h1.cell]
  exact h2 i hi j hj
theorem SRow.frozen {w : World} {r n : Nat} {l : Nat → Spot} (h : SRow w r n l) (i : Nat) : w.frozen? ⟨r, i, none⟩ = false := by
  obtain ⟨cur, h1, h2⟩ := h
  exact h1.frozen i
theorem SRow.lt {w : World} {r n : Nat} {l : Nat → Spot} (h : SRow w r n l) : r < w.heap.size := by
  obtain ⟨cur, h1, h2⟩ := h
  exact h1.lt
theorem SRow.five {w : World} {r n : Nat} {l : Nat → Spot} (h : SRow w r n l) {i : Nat} (hi : i < n) :
    w.cell? ⟨r, i * 5, none⟩ = some (.int .i64 (l i).owners) ∧ w.cell? ⟨r, i * 5 + 1, none⟩ = some (.int .i64 (l i).seq) ∧ w.cell? ⟨r, i * 5 + 2, none⟩ = some (.int .i64 (l i).first) ∧ w.cell? ⟨r, i * 5 + 3, none⟩ = some (.int .i64 (l i).words) ∧ w.cell? ⟨r, i * 5 + 4, none⟩ = some (.int .i64 (l i).depth) :=
  ⟨h.cell i hi 0 (by decide), h.cell i hi 1 (by decide), h.cell i hi 2 (by decide), h.cell i hi 3 (by decide), h.cell i hi 4 (by decide)⟩
theorem SRow.sps {w : World} {r n c : Nat} {l : Nat → Spot} (h : SRow w r n l) (hn : n ≤ maxLen) : Sps w (.slice (some ⟨r, 0, none⟩) n c) n l :=
  ⟨_, _, rfl, hn, fun _ => ⟨r, 0, rfl, h.lt, fun i hi => by simp only [Nat.zero_add]; exact h.five hi⟩⟩
/-- the first spot's sequence is 0 now -/
def seq0 (l : Nat → Spot) (i : Nat) : Spot := if i = 0 then ⟨(l 0).owners, 0, (l 0).first, (l 0).words, (l 0).depth⟩ else l i
theorem SRow.store {w : World} {r n : Nat} {l : Nat → Spot} (h : SRow w r n l) (hn : 0 < n) : SRow (w.setCell ⟨r, 1, none⟩ (.int .i64 0)) r n (seq0 l) := by
  obtain ⟨cur, h1, h2⟩ := h
  have hs := h1.set_ 1 (.int .i64 0)
  refine ⟨_, hs, fun i hi j hj => ?_⟩
  have h3 := h2 i hi j hj
  have h4 : i * 5 + j < cur.size := (Array.getElem?_eq_some_iff.1 h3).1
  rw [Array.getElem?_setIfInBounds]
  by_cases e : 1 = i * 5 + j
  · obtain ⟨rfl, rfl⟩ : i = 0 ∧ j = 1 := by omega
    rw [if_pos rfl, if_pos h4]
    rfl
  · rw [if_neg e, h3]
    unfold seq0
    by_cases e0 : i = 0
    · subst e0
      rw [if_pos rfl]
      match j, hj with
      | 0, _ => rfl
      | 1, _ => exact absurd rfl e
      | 2, _ => rfl
      | 3, _ => rfl
      | 4, _ => rfl
    · rw [if_neg e0]
theorem seq0_width (l : Nat → Spot) : ∀ n, widthF (seq0 l) n = widthF l n
  | 0 => rfl
  | k + 1 => by
    unfold widthF
    rw [seq0_width l k]
    unfold seq0
    by_cases e : k = 0
    · subst e; rw [if_pos rfl]
    · rw [if_neg e]
theorem seq0_wrong {l : Nat → Tp} {n : Nat} (h : TOk n l) : wrongE n (seq0 (laidS l)) 1 = 0 := by
  unfold wrongE
  rw [if_neg (by have := h.1; omega), if_neg]
  rintro (h1 | h1 | h1)
  · rw [(allR_iff (seq0 (laidS l)) n).mpr (fun i hi => by
      have hr := laid_right h hi
      unfold seq0
      by_cases e : i = 0
      · subst e
        rw [if_pos rfl]
        obtain ⟨a, b, c, d, f⟩ := hr
        exact ⟨a, b, c, ⟨by show (0 : Int) ≤ 0; decide, by show (0 : Int) ≤ 1048576; decide⟩, f⟩
      · rw [if_neg e]; exact hr)] at h1
    cases h1
  · omega
  · omega
theorem srow_of_own {w : World} {base r n c : Nat} {l : Nat → Spot} (h : w.ownsRow base 65 5 (.slice (some ⟨r, 0, none⟩) n c) n (scells l n)) (hn : 0 < n) : SRow w r n l := by
  rcases h.2 with ⟨e, _⟩ | ⟨g, cap, cur, e, _, hh, _, _, _, ht⟩
  · cases e
  · injection e with e1 _ _
    injection e1 with e1
    injection e1 with e1 _ _
    subst e1
    refine ⟨cur, hh, fun i hi j hj => ?_⟩
    have h1 := scells_at l hi hj
    rw [← ht] at h1
    rw [List.getElem?_take_of_lt (show i * 5 + j < n * 5 by omega)] at h1
    simpa using h1
/-- the block that Got made, whatever it holds -/
def QRow (w : World) (q G : Nat) : Prop := ∃ cur, Blk w q 42 cur ∧ cur.size = G
theorem QRow.ex {T : Nat → Prop} {w w' : World} {q G : Nat} (h : QRow w q G) (p : Ex T w w') (hr : ¬ T q) : QRow w' q G := by
  obtain ⟨cur, h1, h2⟩ := h
  exact ⟨cur, h1.ex p hr, h2⟩
theorem QRow.cell {w : World} {q G : Nat} (h : QRow w q G) {i : Nat} (hi : i < G) : ∃ u, w.cell? ⟨q, i, none⟩ = some u := by
  obtain ⟨cur, h1, h2⟩ := h
  exact ⟨cur[i]'(by omega), by rw [h1.cell]; exact Array.getElem?_eq_getElem _⟩
theorem QRow.frozen {w : World} {q G : Nat} (h : QRow w q G) (i : Nat) : w.frozen? ⟨q, i, none⟩ = false := by
  obtain ⟨cur, h1, h2⟩ := h
  exact h1.frozen i
theorem QRow.store {w : World} {q G : Nat} (h : QRow w q G) (i : Nat) (u : Value) : QRow (w.setCell ⟨q, i, none⟩ u) q G := by
  obtain ⟨cur, h1, h2⟩ := h
  exact ⟨_, h1.set_ i u, by rw [Array.size_setIfInBounds]; exact h2⟩
theorem qrow_of_own {w : World} {base q n G : Nat} {xs : List Value} (h : w.ownsRow base 42 1 (.slice (some ⟨q, 0, none⟩) n G) n xs) (hn : 0 < n) : QRow w q G := by
  rcases h.2 with ⟨e, _⟩ | ⟨g, cap, cur, e, _, hh, _, _, hs, _⟩
  · cases e
  · injection e with e1 _ e3
    injection e1 with e1
    injection e1 with e1 _ _
    subst e1
    subst e3
    exact ⟨cur, hh, by omega⟩
theorem ints_cell {w : World} {k : IntKind} {b o n c : Nat} {xs : List Int} (h : Ints w k (.slice (some ⟨b, o, none⟩) n c) xs) {i : Nat} (hi : i < xs.length) : w.cell? ⟨b, o + i, none⟩ = some (.int k (nth xs i)) := by
  obtain ⟨A, c', e, _, hf⟩ := h.form
  injection e with e1 _ _
  obtain ⟨b', o', e4, _, hc⟩ := hf (by intro e; subst e; simp at hi)
  rw [← e1] at e4
  injection e4 with e4
  injection e4 with e5 e6
  subst e5
  subst e6
  exact hc i hi
theorem wide_bounds {l : Nat → Tp} {n m : Nat} (h : TOk n l) (hm : widthF (laidS l) n = (m : Int)) : 1 ≤ m ∧ m ≤ 20 ∧ (l 0).words ≤ (m : Int) := by
  have hr := (wrongE_zero (laid_wrong h (tries := 1) (by omega))).2.1
  have hb : ∀ k, k ≤ n → widthF (laidS l) k ≤ 4 * (k : Int) := by
    intro k hk
    induction k with
    | zero => exact Int.le_refl _
    | succ k ih =>
      have h1 := ih (by omega)
      have h2 := (h.2 k (by omega)).1
      have h3 : widthF (laidS l) (k + 1) = widthF (laidS l) k + (l k).words := rfl
      push_cast
      omega
  have h1 := hb n (Nat.le_refl _)
  have h2 := widthF_mono hr h.1.1 (Nat.le_refl _)
  have h3 : widthF (laidS l) 1 = 0 + (l 0).words := rfl
  have h4 := (h.2 0 (by have := h.1; omega)).1
  have h5 := h.1.2
  omega
/-- of topic k: the words of a record, its sequence, the place of its first generation -/
def mT (l : Nat → Tp) (k : Nat) : Nat := (l k).words.toNat
def qT (l : Nat → Tp) (k : Nat) : Nat := (offT l k + 1).toNat
def pT (l : Nat → Tp) (k : Nat) : Nat := (atF (laidS l k) 1).toNat
/-- one record of each of the first so many topics -/
def pubO (l : Nat → Tp) (N : Nat) : Nat → List Int
  | 0 => zeros N
  | k + 1 => aloneW (qT l k) (pT l k) (recL (mT l k) ((k : Int) + 3)) 0 (pubO l N k) (mT l k + 3)
theorem pub_geo {l : Nat → Tp} {n N : Nat} (h : TOk n l) (hN : (N : Int) = offT l n) {k : Nat} (hk : k < n) :
    (laidS l k).Right ∧ (laidS l k).words = (mT l k : Int) ∧ (laidS l k).seq = (qT l k : Int) ∧ qT l k < N ∧ offT l k ≤ (qT l k : Int) ∧ atF (laidS l k) (((0 : Nat) : Int) + 1) = (pT l k : Int) ∧ pT l k + mT l k ≤ N ∧ qT l k < pT l k := by
  have h1 := (h.2 k hk).1
  have h2 := offT_bounds h.2 k (by omega)
  have h3 := at_in h hk 1
  have h4 := off_mono h.2 (show k + 1 ≤ n by omega) (Nat.le_refl _)
  have e1 : (mT l k : Int) = (l k).words := by unfold mT; omega
  have e2 : (qT l k : Int) = offT l k + 1 := by unfold qT; omega
  have e3 : (pT l k : Int) = atF (laidS l k) 1 := by unfold pT; omega
  refine ⟨laid_right h hk, e1.symm, e2.symm, by omega, by omega, ?_, by omega, by omega⟩
  rw [show (((0 : Nat) : Int) + 1) = 1 from rfl]
  exact e3.symm
theorem pub_inv {l : Nat → Tp} {n N : Nat} (h : TOk n l) (hN : (N : Int) = offT l n) : ∀ k, k ≤ n → (pubO l N k).length = N ∧ (∀ j : Nat, offT l k ≤ (j : Int) → nth (pubO l N k) j = 0) ∧ (1 ≤ k → nth (pubO l N k) 1 = 2 ∧ nth (pubO l N k) ((l 0).words.toNat + 2) = 3)
  | 0, _ => ⟨zeros_len N, fun j _ => nth_zeros N j, fun h => absurd h (by omega)⟩
  | k + 1, hk => by
    obtain ⟨i1, i2, i3⟩ := pub_inv h hN k (by omega)
    obtain ⟨g1, g2, g3, g4, g5, g6, g7, g8⟩ := pub_geo h hN (show k < n by omega)
    have hgd := h.2 k (by omega)
    have h3 := at_in h (show k < n by omega) 1
    have e1 : (mT l k : Int) = (l k).words := by unfold mT; have := hgd.1; omega
    have e3 : (pT l k : Int) = atF (laidS l k) 1 := by unfold pT; have := offT_bounds h.2 k (by omega); omega
    have e2 : (qT l k : Int) = offT l k + 1 := by unfold qT; have := offT_bounds h.2 k (by omega); omega
    have hn : ∀ j, nth (pubO l N (k + 1)) j = if j = qT l k then 2 * ((0 : Nat) : Int) + 2 else if pT l k ≤ j ∧ j < pT l k + mT l k then nth (recL (mT l k) ((k : Int) + 3)) (j - pT l k) else nth (pubO l N k) j := by
      intro j
      have := alone_nth (q := qT l k) (p := pT l k) (k := 0) (rec := recL (mT l k) ((k : Int) + 3)) (ws := pubO l N k) (by rw [i1]; exact g4) (by rw [recL_len, i1]; exact g7) (by rw [recL_len]; have := hgd.1; omega) j
      rw [recL_len] at this
      exact this
    refine ⟨?_, fun j hj => ?_, fun _ => ?_⟩
    · show (aloneW _ _ _ _ _ _).length = N
      rw [aloneW_len]; exact i1
    · have h5 : offT l (k + 1) = offT l k + 2 + (l k).words * (l k).depth := rfl
      have h6 := good_mul hgd
      rw [hn, if_neg (by omega), if_neg (by omega)]
      exact i2 j (by omega)
    · by_cases hk0 : k = 0
      · subst hk0
        have o0 : offT l 0 = 0 := rfl
        have hp : pT l 0 = (l 0).words.toNat + 2 := by
          have : (pT l 0 : Int) = offT l 0 + 2 + 1 % (l 0).depth * (l 0).words := by rw [e3]; exact at_laid h (by omega) 1
          rw [Int.emod_eq_of_lt (by decide) (by have := hgd.2; omega), Int.one_mul] at this
          have := hgd.1
          omega
        refine ⟨?_, ?_⟩
        · rw [hn, if_pos (by omega)]; rfl
        · rw [hn, if_neg (by omega), if_pos (by have := hgd.1; omega), hp, Nat.sub_self, recL_nth _ _ _ (by have := hgd.1; omega)]
          decide
      · obtain ⟨j1, j2⟩ := i3 (by omega)
        have h8 := off_mono h.2 (show 1 ≤ k by omega) (by omega)
        have h9 : offT l 1 = 0 + 2 + (l 0).words * (l 0).depth := rfl
        have hg0 := h.2 0 (by omega)
        have h10 := good_mul hg0
        have h11 : (l 0).words * 2 ≤ (l 0).words * (l 0).depth := Int.mul_le_mul_of_nonneg_left hg0.2.1 (by have := hg0.1; omega)
        refine ⟨?_, ?_⟩
        · rw [hn, if_neg (by omega), if_neg (by omega)]; exact j1
        · rw [hn, if_neg (by have := hg0.1; omega), if_neg (by have := hg0.1; omega)]; exact j2
theorem findT_zero {l : Nat → Tp} {n : Nat} (h : TOk n l) : findT (laidS l) n 0 = 0 := by
  have hr := (wrongE_zero (laid_wrong h (tries := 1) (by omega))).2.1
  have h4 := (h.2 0 (by have := h.1; omega)).1
  exact findT_eq hr (by have := h.1; omega) (Int.le_refl _) (by show (0 : Int) < 0 + (l 0).words; omega)
theorem gen_first {l : Nat → Tp} {n : Nat} {ws : List Int} (h : TOk n l) (hl : (ws.length : Int) = offT l n) {N : Nat} {P : Prop} (hi : ws.length = N ∧ P ∧ (1 ≤ n → nth ws 1 = 2 ∧ nth ws ((l 0).words.toNat + 2) = 3)) : nth (gOf (laidS l) n ws) 0 = 1 := by
  have hin := seq_in h hl (show 0 < n by have := h.1; omega)
  unfold gOf
  rw [ofF_nth _ _ (by have := h.1; omega), wordF_in hin, show (laidS l 0).seq.toNat = 1 from rfl, (hi.2.2 h.1.1).1]
  rfl
theorem word_first {l : Nat → Tp} {n m : Nat} {ws : List Int} (h : TOk n l) (hl : (ws.length : Int) = offT l n) (hm : widthF (laidS l) n = (m : Int)) (hm1 : 1 ≤ m) {N : Nat} {P : Prop} (hi : ws.length = N ∧ P ∧ (1 ≤ n → nth ws 1 = 2 ∧ nth ws ((l 0).words.toNat + 2) = 3)) : nth (vOf (laidS l) n m (gOf (laidS l) n ws) ws) 0 = 3 := by
  have hin := place_in h hl (gOf (laidS l) n ws) (q := 0) (Int.le_refl _) (by omega)
  unfold vOf
  rw [ofF_nth _ _ (by omega), show (((0 : Nat) : Int)) = 0 from rfl, wordF_in hin]
  have hg0 := h.2 0 (by have := h.1; omega)
  have e : sPlace (laidS l) (gOf (laidS l) n ws) n 0 = (l 0).words + 2 := by
    unfold sPlace
    rw [findT_zero h, gen_first h hl hi, at_laid h (by have := h.1; omega) 1, Int.emod_eq_of_lt (by decide) (by have := hg0.2; omega)]
    have h9 : widthF (laidS l) 0 = 0 := rfl
    have o0 : offT l 0 = 0 := rfl
    omega
  rw [e, show ((l 0).words + 2).toNat = (l 0).words.toNat + 2 by have := hg0.1; omega]
  exact (hi.2.2 h.1.1).2
theorem xM_end {k m i : Nat} {ws : List Int} {l : Nat → Spot} (h : i + 1 = 2 * k + m) : (xM k m 1 0 0 (gOf l k ws) (zeros k) (vOf l k m (gOf l k ws) ws) (zeros m) (i + 1)).how = 1 ∧ (xM k m 1 0 0 (gOf l k ws) (zeros k) (vOf l k m (gOf l k ws) ws) (zeros m) (i + 1)).gl = gOf l k ws ∧ (xM k m 1 0 0 (gOf l k ws) (zeros k) (vOf l k m (gOf l k ws) ws) (zeros m) (i + 1)).wl = vOf l k m (gOf l k ws) ws := by
  unfold xM
  simp only
  rw [if_pos h, mix_full _ (gOf_len _ _ _) (by omega), mix_full _ (vOf_len _ _ _ _ _) (by omega)]
  exact ⟨rfl, rfl, rfl⟩
theorem mix_fit {n i : Nat} {A A0 : List Int} (h : ∀ j, j < n → 0 ≤ nth A j ∧ nth A j ≤ 18446744073709551615) (h0 : ∀ j, j < n → 0 ≤ nth A0 j ∧ nth A0 j ≤ 18446744073709551615) : ∀ x ∈ mix n A A0 i, 0 ≤ x ∧ x ≤ 18446744073709551615 := by
  intro x hx
  simp only [mix, ofF, List.mem_map, List.mem_range] at hx
  obtain ⟨j, hj, rfl⟩ := hx
  split
  · exact h j hj
  · exact h0 j hj
theorem gOf_fit {l : Nat → Spot} {n : Nat} {ws : List Int} (hw : ∀ i, 0 ≤ wordF ws i ∧ wordF ws i ≤ 18446744073709551615) : ∀ j, j < n → 0 ≤ nth (gOf l n ws) j ∧ nth (gOf l n ws) j ≤ 18446744073709551615 := by
  intro j hj
  unfold gOf
  rw [ofF_nth _ _ hj]
  have := hw (l j).seq
  omega
theorem xM_ok {l : Nat → Tp} {n m : Nat} (h : TOk n l) (hm : widthF (laidS l) n = (m : Int)) {ws : List Int} (hw : ∀ i, 0 ≤ wordF ws i ∧ wordF ws i ≤ 18446744073709551615) {i : Nat} (hi : i ≤ 2 * n + m) :
    SOk n m (laidS l) 1 (xM n m 1 0 0 (gOf (laidS l) n ws) (zeros n) (vOf (laidS l) n m (gOf (laidS l) n ws) ws) (zeros m) i) i := by
  have hr := wrongE_zero (laid_wrong h (tries := 1) (by omega))
  have hmm := m_of (laid_wrong h (tries := 1) (by omega)) hm
  have hb := wide_bounds h hm
  refine ⟨fun h0 => ⟨⟨hr.1.1, hr.1.2, hmm.2, hr.2.1, hm, mix_fit (gOf_fit hw) (fun j _ => by rw [nth_zeros]; omega), hr.2.2, ?_⟩, ?_, ?_⟩, ⟨mix_len _ _ _ _, mix_len _ _ _ _⟩, ⟨Int.le_refl _, by omega⟩, ?_, hr.1, hmm⟩
  · show (0 : Int) ≤ 0 + (i : Int) ∧ (0 : Int) + (i : Int) ≤ _
    have := h.1
    omega
  · show (0 : Int) ≤ (i : Int)
    omega
  · have h0 : (if i = 2 * n + m then (1 : Int) else 0) = 0 := h0
    by_cases e : i = 2 * n + m
    · rw [if_pos e] at h0; exact absurd h0 (by decide)
    · show (i : Int) < _
      omega
  · show (0 : Int) ≤ 0 + (i : Int) ∧ (0 : Int) + (i : Int) ≤ _
    omega
end Go.Proofs.Ytjdalllfnlpmnaa.Bank
