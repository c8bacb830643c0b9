/-
  Law 10: what a snapshot knows while others publish; each step, and each end of a publishing, keeps it. No program. By an AI agent.
-/
import Derived.Test.YtjdalllfnlpmnaaSnPa
namespace Go.Proofs.Ytjdalllfnlpmnaa.Bank
set_option linter.unusedVariables false
set_option linter.unusedSimpArgs false
open Go Go.RowKit Go.Proofs.Ytjdalllfnlpmnaa.Base
/-- of which topic word q is, and which one of its words -/
def ofT (l : Nat → Tp) (n q : Nat) : Nat := findT (laidS l) n (q : Int)
def wiT (l : Nat → Tp) (n q : Nat) : Nat := ((q : Int) - widthF (laidS l) (ofT l n q)).toNat
structure Snp (n m : Nat) (l : Nat → Tp) (T : Int) (x : SX) (cnt base : Nat → Nat) (frm : Nat) (NB : List (Nat → Nat)) (dn : Nat → Nat → Int) : Prop where
  how : x.how = 0
  tr : 1 ≤ x.tries ∧ x.tries ≤ T
  k : 0 ≤ x.k ∧ x.k < 2 * (n : Int) + (m : Int)
  len : x.gl.length = n ∧ x.wl.length = m
  steps : x.steps = (NB.length : Int) ∧ x.steps ≤ (2 * (n : Int) + (m : Int)) * (T - x.tries) + x.k
  base_le : ∀ j, j < n → base j ≤ cnt j
  frm_le : (frm : Int) + (T - x.tries) ≤ (sumC base n : Int)
  g : ∀ j, j < n → (j : Int) < x.k → (base j : Int) ≤ nth x.gl j ∧ nth x.gl j ≤ (cnt j : Int)
  nb : (n : Int) ≤ x.k → ∃ f, NB[x.begun.toNat - 1]? = some f ∧ 1 ≤ x.begun ∧ x.begun ≤ (NB.length : Int) ∧ ∀ j, j < n → nth x.gl j ≤ (f j : Int) ∧ f j ≤ cnt j
  w : ∀ q : Nat, q < m → (n : Int) + (q : Int) < x.k → (cnt (ofT l n q) : Int) = nth x.gl (ofT l n q) → nth x.wl q = RW dn (ofT l n q) (cnt (ofT l n q)) (wiT l n q)
  d : ∀ j : Nat, j < n → (n : Int) + (m : Int) + (j : Int) < x.k → (∀ f, NB[x.begun.toNat - 1]? = some f → (f j : Int) = nth x.gl j) ∧ ∀ q, q < m → ofT l n q = j → nth x.wl q = RW dn j (nth x.gl j).toNat (wiT l n q)
/-- what a snapshot that is done tells -/
def SFin (n m : Nat) (l : Nat → Tp) (x : SX) (cnt : Nat → Nat) (NB : List (Nat → Nat)) (dn : Nat → Nat → Int) : Prop :=
  ∃ f, NB[x.begun.toNat - 1]? = some f ∧ 1 ≤ x.begun ∧ x.begun ≤ (NB.length : Int) ∧ (∀ j, j < n → nth x.gl j = (f j : Int) ∧ f j ≤ cnt j) ∧ ∀ q, q < m → nth x.wl q = RW dn (ofT l n q) (f (ofT l n q)) (wiT l n q)
theorem ofT_lt {l : Nat → Tp} {n m : Nat} (h : TOk n l) (hm : widthF (laidS l) n = (m : Int)) {q : Nat} (hq : q < m) : ofT l n q < n ∧ wiT l n q < mT l (ofT l n q) ∧ (q : Int) - widthF (laidS l) (ofT l n q) = (wiT l n q : Int) := by
  obtain ⟨h1, h2, h3⟩ := findT_in (l := laidS l) (n := n) (q := (q : Int)) (by omega) (by omega)
  have h4 : widthF (laidS l) (ofT l n q + 1) = widthF (laidS l) (ofT l n q) + (l (ofT l n q)).words := rfl
  have h5 : (mT l (ofT l n q) : Int) = (l (ofT l n q)).words := by unfold mT; have := (h.2 _ h1).1; unfold ofT at *; omega
  have e : ofT l n q = findT (laidS l) n (q : Int) := rfl
  rw [← e] at h1 h2 h3
  unfold wiT
  refine ⟨h1, ?_, ?_⟩ <;> omega
theorem Snp.fresh {n m : Nat} {l : Nat → Tp} {T : Int} {cnt : Nat → Nat} {dn : Nat → Nat → Int} (hn : 1 ≤ n) (hT : 1 ≤ T) : Snp n m l T (SX.zero T n m) cnt cnt (sumC cnt n) [] dn := by
  have e1 : (SX.zero T n m).tries = T := rfl
  have e2 : (SX.zero T n m).k = 0 := rfl
  have e3 : (SX.zero T n m).steps = 0 := rfl
  refine ⟨rfl, by rw [e1]; omega, by rw [e2]; omega, ⟨zeros_len n, zeros_len m⟩, ⟨rfl, by rw [e3, e1, e2, Int.sub_self, Int.mul_zero]; decide⟩, fun _ _ => Nat.le_refl _, by rw [e1]; omega, fun j _ h => by rw [e2] at h; omega, fun h => by rw [e2] at h; omega, fun q _ h => by rw [e2] at h; omega, fun j _ h => by rw [e2] at h; omega⟩
theorem upC_ge (cnt : Nat → Nat) (k j : Nat) : cnt j ≤ upC cnt k (cnt k + 1) j := by
  unfold upC
  split
  · rename_i e; subst e; omega
  · exact Nat.le_refl _
/-- a publishing of topic k ends -/
theorem Snp.pub {n m : Nat} {l : Nat → Tp} {T : Int} {x : SX} {cnt base : Nat → Nat} {frm : Nat} {NB : List (Nat → Nat)} {dn : Nat → Nat → Int} (hok : TOk n l) (hm : widthF (laidS l) n = (m : Int)) (h : Snp n m l T x cnt base frm NB dn) (k : Nat) (y : Int) :
    Snp n m l T x (upC cnt k (cnt k + 1)) base frm NB (upD dn k (cnt k + 1) y) := by
  refine ⟨h.how, h.tr, h.k, h.len, h.steps, fun j hj => Nat.le_trans (h.base_le j hj) (upC_ge cnt k j), h.frm_le, fun j hj hk => ?_, fun hk => ?_, fun q hq hk he => ?_, fun j hj hk => ?_⟩
  · have := h.g j hj hk
    have := upC_ge cnt k j
    omega
  · obtain ⟨f, h1, h2, h3, h4⟩ := h.nb hk
    exact ⟨f, h1, h2, h3, fun j hj => ⟨(h4 j hj).1, Nat.le_trans (h4 j hj).2 (upC_ge cnt k j)⟩⟩
  · have ho := ofT_lt hok hm hq
    have hg := h.g (ofT l n q) ho.1 (by omega)
    have hwq := h.w q hq hk
    generalize ofT l n q = i at *
    by_cases e : i = k
    · subst e
      have : upC cnt i (cnt i + 1) i = cnt i + 1 := if_pos rfl
      rw [this] at he
      omega
    · have ec : upC cnt k (cnt k + 1) i = cnt i := if_neg e
      rw [ec] at he ⊢
      rw [RW_up (.inl e)]
      exact hwq he
  · obtain ⟨d1, d2⟩ := h.d j hj hk
    refine ⟨d1, fun q hq he => ?_⟩
    have hg := h.g j hj (by omega)
    have hor : j ≠ k ∨ (nth x.gl j).toNat ≠ cnt k + 1 := by
      by_cases e : j = k
      · subst e; right; omega
      · exact .inl e
    rw [d2 q hq he, RW_up hor]
theorem nb_left {NB : List (Nat → Nat)} {b : Int} (cnt : Nat → Nat) (h1 : 1 ≤ b) (h2 : b ≤ (NB.length : Int)) : (NB ++ [cnt])[b.toNat - 1]? = NB[b.toNat - 1]? := List.getElem?_append_left (by omega)
/-- a step of the snapshot -/
theorem Snp.step {n m N : Nat} {l : Nat → Tp} {T : Int} {x : SX} {cnt base : Nat → Nat} {frm : Nat} {NB : List (Nat → Nat)} {dn : Nat → Nat → Int} {ws : List Int} {st : Nat → Option W1} (hok : TOk n l) (hN : (N : Int) = offT l n) (hm : widthF (laidS l) n = (m : Int)) (hc : CInv l n N ws cnt st dn) (h : Snp n m l T x cnt base frm NB dn) :
    ((sStepF (laidS l) n m ws x).how = 0 ∧ ∃ base', Snp n m l T (sStepF (laidS l) n m ws x) cnt base' frm (NB ++ [cnt]) dn) ∨
    ((sStepF (laidS l) n m ws x).how = 1 ∧ SFin n m l (sStepF (laidS l) n m ws x) cnt (NB ++ [cnt]) dn ∧ (sStepF (laidS l) n m ws x).steps = ((NB ++ [cnt]).length : Int) ∧ (sStepF (laidS l) n m ws x).steps ≤ (2 * (n : Int) + (m : Int)) * T) ∨
    ((sStepF (laidS l) n m ws x).how = 2 ∧ (frm : Int) + T ≤ (sumC cnt n : Int) ∧ (sStepF (laidS l) n m ws x).steps = ((NB ++ [cnt]).length : Int) ∧ (sStepF (laidS l) n m ws x).steps ≤ (2 * (n : Int) + (m : Int)) * T) := by
  obtain ⟨tries, k, begun, steps, how, gl, wl⟩ := x
  obtain ⟨h0, htr, hk, hlen, hst, hbl, hfr, hg, hnb, hw, hd⟩ := h
  simp only at h0 htr hk hlen hst hfr hg hnb hw hd
  subst h0
  have hn := hok.1
  have hl : (ws.length : Int) = offT l n := by rw [hc.b.1]; exact hN
  have hgen := hc.b.gen
  have hsl : steps + 1 = ((NB ++ [cnt]).length : Int) := by rw [List.length_append]; simp; omega
  have hWpos : 0 ≤ 2 * (n : Int) + (m : Int) := by omega
  by_cases h1 : k < n
  · obtain ⟨j, rfl⟩ : ∃ j : Nat, k = j := ⟨k.toNat, by omega⟩
    have hj : j < n := by omega
    have gq := geo hok hN hj 0
    have hin := seq_in hok hl hj
    have hwd : wordF ws (laidS l j).seq / 2 = (cnt j : Int) := by rw [gq.2.2.1, wordF_nat _ _ (by rw [hc.b.1]; exact gq.2.2.2.1)]; exact hgen.2 j hj
    have ea : sAtF (laidS l) n m ⟨tries, j, begun, steps, 0, gl, wl⟩ = (laidS l j).seq := if_pos h1
    have es : sStepF (laidS l) n m ws ⟨tries, j, begun, steps, 0, gl, wl⟩ = ⟨tries, (j : Int) + 1, if (j : Int) + 1 = (n : Int) then steps + 1 else begun, steps + 1, 0, gl.set j (cnt j : Int), wl⟩ := by
      unfold sStepF
      rw [ea]
      simp only [ne_eq, not_true_eq_false, if_false, hin, h1, if_true, Int.toNat_natCast, hwd]
    rw [es]
    have hgl : ∀ i, i < n → (i : Int) < (j : Int) + 1 → (base i : Int) ≤ nth (gl.set j (cnt j : Int)) i ∧ nth (gl.set j (cnt j : Int)) i ≤ (cnt i : Int) := by
      intro i hi hij
      rw [nth_set _ _ _ _ (by omega)]
      by_cases e : i = j
      · subst e
        rw [if_pos rfl]
        have := hbl i hi
        omega
      · rw [if_neg e]
        exact hg i hi (by omega)
    refine .inl ⟨rfl, base, ⟨rfl, htr, by show 0 ≤ (j : Int) + 1 ∧ (j : Int) + 1 < _; omega, ⟨by rw [List.length_set]; exact hlen.1, hlen.2⟩, ⟨hsl, by show steps + 1 ≤ (2 * (n : Int) + (m : Int)) * (T - tries) + ((j : Int) + 1); omega⟩, hbl, hfr, hgl, fun hh => ?_, fun q hq hh => ?_, fun i hi hh => ?_⟩⟩
    · have hh : (n : Int) ≤ (j : Int) + 1 := hh
      have e : (j : Int) + 1 = (n : Int) := by omega
      refine ⟨cnt, ?_, ?_, ?_, fun i hi => ⟨(hgl i hi (by omega)).2, Nat.le_refl _⟩⟩
      · show (NB ++ [cnt])[(if (j : Int) + 1 = (n : Int) then steps + 1 else begun).toNat - 1]? = some cnt
        rw [if_pos e, List.getElem?_append_right (by omega)]
        rw [show (steps + 1).toNat - 1 - NB.length = 0 by omega]
        rfl
      · show 1 ≤ (if (j : Int) + 1 = (n : Int) then steps + 1 else begun)
        rw [if_pos e]; omega
      · show (if (j : Int) + 1 = (n : Int) then steps + 1 else begun) ≤ _
        rw [if_pos e]; omega
    · have hh : (n : Int) + (q : Int) < (j : Int) + 1 := hh; omega
    · have hh : (n : Int) + (m : Int) + (i : Int) < (j : Int) + 1 := hh; omega
  by_cases h2 : k < (n : Int) + (m : Int)
  · obtain ⟨j, rfl⟩ : ∃ j : Nat, k = (n : Int) + (j : Int) := ⟨(k - n).toNat, by omega⟩
    have e0 : (n : Int) + (j : Int) - (n : Int) = (j : Int) := by omega
    have hj : j < m := by omega
    obtain ⟨hi1, hi2, hi3⟩ := ofT_lt hok hm hj
    have hin := place_in hok hl gl (q := (j : Int)) (by omega) (by omega)
    have ea : sAtF (laidS l) n m ⟨tries, (n : Int) + (j : Int), begun, steps, 0, gl, wl⟩ = sPlace (laidS l) gl n (j : Int) := by
      unfold sAtF
      simp only [h1, h2, if_false, if_true, e0]
    have es : sStepF (laidS l) n m ws ⟨tries, (n : Int) + (j : Int), begun, steps, 0, gl, wl⟩ = ⟨tries, (n : Int) + (j : Int) + 1, begun, steps + 1, 0, gl, wl.set j (wordF ws (sPlace (laidS l) gl n (j : Int)))⟩ := by
      unfold sStepF
      rw [ea]
      simp only [ne_eq, not_true_eq_false, if_false, hin, h1, h2, if_true, e0, Int.toNat_natCast]
    rw [es]
    refine .inl ⟨rfl, base, ⟨rfl, htr, by show 0 ≤ (n : Int) + (j : Int) + 1 ∧ (n : Int) + (j : Int) + 1 < _; omega, ⟨hlen.1, by rw [List.length_set]; exact hlen.2⟩, ⟨hsl, by show steps + 1 ≤ (2 * (n : Int) + (m : Int)) * (T - tries) + ((n : Int) + (j : Int) + 1); omega⟩, hbl, hfr, fun i hi _ => hg i hi (by omega), fun hh => ?_, fun q hq hh he => ?_, fun i hi hh => ?_⟩⟩
    · obtain ⟨f, f1, f2, f3, f4⟩ := hnb (by omega)
      refine ⟨f, ?_, f2, by rw [← hsl]; show begun ≤ _; omega, f4⟩
      show (NB ++ [cnt])[begun.toNat - 1]? = some f
      rw [nb_left cnt f2 f3]; exact f1
    · show nth (wl.set j _) q = _
      rw [nth_set _ _ _ _ (by omega)]
      by_cases e : q = j
      · subst e
        rw [if_pos rfl]
        have hpl := pl_spec hok hi1 (cnt (ofT l n q))
        have hat : sPlace (laidS l) gl n (q : Int) = ((pl l (ofT l n q) (cnt (ofT l n q)) + wiT l n q : Nat) : Int) := by
          have e9 : sPlace (laidS l) gl n (q : Int) = atF (laidS l (ofT l n q)) (nth gl (ofT l n q)) + ((q : Int) - widthF (laidS l) (ofT l n q)) := rfl
          have he : (cnt (ofT l n q) : Int) = nth gl (ofT l n q) := he
          rw [e9, ← he, hpl.2.2.2, hi3]
          push_cast; rfl
        have hlt : pl l (ofT l n q) (cnt (ofT l n q)) + wiT l n q < ws.length := by
          have := off_mono hok.2 (show ofT l n q + 1 ≤ n by omega) (Nat.le_refl _)
          omega
        rw [hat, wordF_nat _ _ hlt]
        exact hc.new _ hi1 _ hi2
      · rw [if_neg e]
        exact hw q hq (by have hh : (n : Int) + (q : Int) < (n : Int) + (j : Int) + 1 := hh; omega) he
    · have hh : (n : Int) + (m : Int) + (i : Int) < (n : Int) + (j : Int) + 1 := hh; omega
  · obtain ⟨j, rfl⟩ : ∃ j : Nat, k = (n : Int) + (m : Int) + (j : Int) := ⟨(k - n - m).toNat, by omega⟩
    have e0 : (n : Int) + (m : Int) + (j : Int) - (n : Int) - (m : Int) = (j : Int) := by omega
    have hj : j < n := by omega
    have gq := geo hok hN hj 0
    have hin := seq_in hok hl hj
    have hwd : wordF ws (laidS l j).seq / 2 = (cnt j : Int) := by rw [gq.2.2.1, wordF_nat _ _ (by rw [hc.b.1]; exact gq.2.2.2.1)]; exact hgen.2 j hj
    have ea : sAtF (laidS l) n m ⟨tries, (n : Int) + (m : Int) + (j : Int), begun, steps, 0, gl, wl⟩ = (laidS l j).seq := by
      unfold sAtF
      simp only [h1, h2, if_false, e0, Int.toNat_natCast]
    obtain ⟨f, f1, f2, f3, f4⟩ := hnb (by omega)
    have f1' : (NB ++ [cnt])[begun.toNat - 1]? = some f := by rw [nb_left cnt f2 f3]; exact f1
    have f3' : begun ≤ ((NB ++ [cnt]).length : Int) := by rw [← hsl]; omega
    have hmul : (2 * (n : Int) + (m : Int)) * (T - tries + 1) = (2 * (n : Int) + (m : Int)) * (T - tries) + (2 * (n : Int) + (m : Int)) := by rw [Int.mul_add, Int.mul_one]
    have hT : (2 * (n : Int) + (m : Int)) * (T - tries + 1) ≤ (2 * (n : Int) + (m : Int)) * T := Int.mul_le_mul_of_nonneg_left (by omega) hWpos
    have hgj := hg j hj (by omega)
    by_cases hk2 : (cnt j : Int) = nth gl j
    · have dj : (∀ f, (NB ++ [cnt])[begun.toNat - 1]? = some f → (f j : Int) = nth gl j) ∧ ∀ q, q < m → ofT l n q = j → nth wl q = RW dn j (nth gl j).toNat (wiT l n q) := by
        refine ⟨fun f' hf' => ?_, fun q hq he => ?_⟩
        · rw [f1'] at hf'
          injection hf' with hf'
          subst hf'
          have := f4 j hj
          omega
        · have := hw q hq (by omega)
          rw [he] at this
          rw [this hk2, ← hk2, Int.toNat_natCast]
      by_cases hl9 : (n : Int) + (m : Int) + (j : Int) + 1 = 2 * (n : Int) + (m : Int)
      · have es : sStepF (laidS l) n m ws ⟨tries, (n : Int) + (m : Int) + (j : Int), begun, steps, 0, gl, wl⟩ = ⟨tries, (n : Int) + (m : Int) + (j : Int) + 1, begun, steps + 1, 1, gl, wl⟩ := by
          unfold sStepF
          rw [ea]
          simp only [ne_eq, not_true_eq_false, if_false, hin, h1, h2, hwd, hk2, e0, Int.toNat_natCast, if_true, if_pos hl9]
        rw [es]
        have dall : ∀ i, i < n → (∀ f, (NB ++ [cnt])[begun.toNat - 1]? = some f → (f i : Int) = nth gl i) ∧ ∀ q, q < m → ofT l n q = i → nth wl q = RW dn i (nth gl i).toNat (wiT l n q) := by
          intro i hi
          by_cases e : i = j
          · subst e; exact dj
          · obtain ⟨d1, d2⟩ := hd i hi (by omega)
            exact ⟨fun f' hf' => d1 f' (by rw [nb_left cnt f2 f3] at hf'; exact hf'), d2⟩
        refine .inr (.inl ⟨rfl, ⟨f, f1', f2, f3', fun i hi => ⟨((dall i hi).1 f f1').symm, (f4 i hi).2⟩, fun q hq => ?_⟩, hsl, by show steps + 1 ≤ (2 * (n : Int) + (m : Int)) * T; omega⟩)
        obtain ⟨hi1, _, _⟩ := ofT_lt hok hm hq
        have := (dall _ hi1).2 q hq rfl
        have e9 := (dall _ hi1).1 f f1'
        rw [← e9, Int.toNat_natCast] at this
        exact this
      · have es : sStepF (laidS l) n m ws ⟨tries, (n : Int) + (m : Int) + (j : Int), begun, steps, 0, gl, wl⟩ = ⟨tries, (n : Int) + (m : Int) + (j : Int) + 1, begun, steps + 1, 0, gl, wl⟩ := by
          unfold sStepF
          rw [ea]
          simp only [ne_eq, not_true_eq_false, if_false, hin, h1, h2, hwd, hk2, e0, Int.toNat_natCast, if_true, if_neg hl9]
        rw [es]
        refine .inl ⟨rfl, base, ⟨rfl, htr, by show 0 ≤ (n : Int) + (m : Int) + (j : Int) + 1 ∧ (n : Int) + (m : Int) + (j : Int) + 1 < _; omega, hlen, ⟨hsl, by show steps + 1 ≤ (2 * (n : Int) + (m : Int)) * (T - tries) + ((n : Int) + (m : Int) + (j : Int) + 1); omega⟩, hbl, hfr, fun i hi _ => hg i hi (by omega), fun _ => ⟨f, f1', f2, f3', f4⟩, fun q hq _ he => hw q hq (by omega) he, fun i hi hh => ?_⟩⟩
        by_cases e : i = j
        · subst e; exact dj
        · obtain ⟨d1, d2⟩ := hd i hi (by have hh : (n : Int) + (m : Int) + (i : Int) < (n : Int) + (m : Int) + (j : Int) + 1 := hh; omega)
          exact ⟨fun f' hf' => d1 f' (by rw [nb_left cnt f2 f3] at hf'; exact hf'), d2⟩
    · have hlt := sumC_lt (a := base) (b := cnt) hbl hj (by omega)
      by_cases hl9 : tries - 1 = 0
      · have es : sStepF (laidS l) n m ws ⟨tries, (n : Int) + (m : Int) + (j : Int), begun, steps, 0, gl, wl⟩ = ⟨tries - 1, 0, begun, steps + 1, 2, gl, wl⟩ := by
          unfold sStepF
          rw [ea]
          simp only [ne_eq, not_true_eq_false, if_false, hin, h1, h2, hwd, hk2, e0, Int.toNat_natCast, if_pos hl9]
        rw [es]
        exact .inr (.inr ⟨rfl, by omega, hsl, by show steps + 1 ≤ (2 * (n : Int) + (m : Int)) * T; omega⟩)
      · have es : sStepF (laidS l) n m ws ⟨tries, (n : Int) + (m : Int) + (j : Int), begun, steps, 0, gl, wl⟩ = ⟨tries - 1, 0, begun, steps + 1, 0, gl, wl⟩ := by
          unfold sStepF
          rw [ea]
          simp only [ne_eq, not_true_eq_false, if_false, hin, h1, h2, hwd, hk2, e0, Int.toNat_natCast, if_neg hl9]
        rw [es]
        refine .inl ⟨rfl, cnt, ⟨rfl, by show 1 ≤ tries - 1 ∧ tries - 1 ≤ T; omega, by show (0 : Int) ≤ 0 ∧ (0 : Int) < _; omega, hlen, ⟨hsl, by show steps + 1 ≤ (2 * (n : Int) + (m : Int)) * (T - (tries - 1)) + 0; rw [show T - (tries - 1) = T - tries + 1 by omega]; omega⟩, fun _ _ => Nat.le_refl _, by show (frm : Int) + (T - (tries - 1)) ≤ _; omega, fun i _ hh => ?_, fun hh => ?_, fun q _ hh => ?_, fun i _ hh => ?_⟩⟩
        · have hh : (i : Int) < 0 := hh; omega
        · have hh : (n : Int) ≤ 0 := hh; omega
        · have hh : (n : Int) + (q : Int) < 0 := hh; omega
        · have hh : (n : Int) + (m : Int) + (i : Int) < 0 := hh; omega
end Go.Proofs.Ytjdalllfnlpmnaa.Bank
