/-
  A publishing alone: how it stands, and the words, behind each step. No program. By an AI agent.
-/
import Derived.Test.YtihogagnjikghaaWrP
namespace Go.Proofs.Ytihogagnjikghaa.Bank
set_option linter.unusedVariables false
set_option linter.unusedSimpArgs false
open Go Go.RowKit Go.Proofs.Ytihogagnjikghaa.Base

theorem nth_set (ws : List Int) (i j : Nat) (x : Int) (hi : i < ws.length) : nth (ws.set i x) j = if j = i then x else nth ws j := by
  unfold nth
  simp only [List.getD_eq_getElem?_getD, List.getElem?_set]
  by_cases h : i = j
  · subst h; simp [hi]
  · rw [if_neg h, if_neg (Ne.symm h)]
theorem wordF_nat (ws : List Int) (j : Nat) (h : j < ws.length) : wordF ws (j : Int) = nth ws j := by
  rw [wordF_in ⟨by omega, by omega⟩, Int.toNat_natCast]
theorem inW_nat (ws : List Int) (j : Nat) (h : j < ws.length) : inW ws (j : Int) := ⟨by omega, by omega⟩
/-- so many words of rec, laid from a on -/
def putN (ws : List Int) (a : Nat) (rec : List Int) : Nat → List Int
  | 0 => ws
  | m + 1 => (putN ws a rec m).set (a + m) (nth rec m)
theorem putN_len (ws : List Int) (a : Nat) (rec : List Int) : ∀ m, (putN ws a rec m).length = ws.length
  | 0 => rfl
  | m + 1 => by unfold putN; rw [List.length_set]; exact putN_len ws a rec m
theorem putN_nth (ws : List Int) (a : Nat) (rec : List Int) : ∀ m, a + m ≤ ws.length → ∀ j, nth (putN ws a rec m) j = if a ≤ j ∧ j < a + m then nth rec (j - a) else nth ws j
  | 0, _, j => by unfold putN; rw [if_neg (by omega)]
  | m + 1, h, j => by
    unfold putN
    rw [nth_set _ _ _ _ (by rw [putN_len]; omega), putN_nth ws a rec m (by omega) j]
    by_cases h1 : j = a + m
    · subst h1
      rw [if_pos rfl, if_pos (by omega)]
      congr 1; omega
    · rw [if_neg h1]
      by_cases h2 : a ≤ j ∧ j < a + m
      · rw [if_pos h2, if_pos (by omega)]
      · rw [if_neg h2, if_neg (by omega)]
/-- a publishing alone, behind i steps: k records were published; p: its place -/
def aloneX (len k : Nat) (i : Nat) : WS :=
  if i = 0 then WS.zero
  else if i = 1 then ⟨0, 1, 0, 1, 2 * k, 0⟩
  else if i ≤ len + 1 then ⟨0, 2, 0, i, 2 * k, (i : Int) - 2⟩
  else if i = len + 2 then ⟨0, 3, 0, i, 2 * k, len⟩
  else ⟨1, 3, 0, len + 3, 2 * k, len⟩
def aloneW (q p : Nat) (rec : List Int) (k : Nat) (ws : List Int) (i : Nat) : List Int :=
  if i ≤ 1 then ws
  else if i ≤ rec.length + 2 then putN (ws.set q (2 * k + 1)) p rec (i - 2)
  else (putN (ws.set q (2 * k + 1)) p rec rec.length).set q (2 * k + 2)
def tickN (t : Int) : Nat → Int
  | 0 => t
  | n + 1 => IntKind.i64.wrap (tickN t n + 1)
theorem alone_step {s : Spot} {rec : List Int} {tries : Int} {k p : Nat} {ws : List Int} {q : Nat} {t : Int} (hl : 1 ≤ rec.length) (hq : s.seq = q) (hql : q < ws.length) (hw : nth ws q = 2 * k) (hk : k < 4611686018427387904)
    (hp : atF s (k + 1) = p) (hpl : p + rec.length ≤ ws.length) (hpq : q < p) (i : Nat) (hi : i < rec.length + 3) :
    wStep s rec tries (aloneX rec.length k i) (aloneW q p rec k ws i) (tickN t i) = (aloneX rec.length k (i + 1), aloneW q p rec k ws (i + 1), tickN t (i + 1)) := by
  have hin : ∀ l : List Int, l.length = ws.length → inW l s.seq := fun l h => by rw [hq]; exact inW_nat _ _ (by omega)
  have hwF : ∀ l : List Int, l.length = ws.length → wordF l s.seq = nth l q := fun l h => by rw [hq]; exact wordF_nat _ _ (by omega)
  have hset : ∀ (l : List Int) (x : Int), l.length = ws.length → setF l s.seq x = l.set q x := fun l x h => by rw [setF_in (hin l h), hq]; simp
  have htick : ∀ (l : List Int) (u : Int), l.length = ws.length → tickF l s.seq u = IntKind.i64.wrap (u + 1) := fun l u h => tickF_in (hin l h)
  have hwr : ∀ x : Int, 0 ≤ x ∧ x ≤ 18446744073709551615 → IntKind.u64.wrap x = x := fun x h => u64_wrap_in h
  by_cases h0 : i = 0
  · subst h0
    have e1 : aloneX rec.length k 0 = WS.zero := rfl
    have e2 : aloneW q p rec k ws 0 = ws := rfl
    have e3 : aloneX rec.length k (0 + 1) = ⟨0, 1, 0, 1, 2 * k, 0⟩ := rfl
    have e4 : aloneW q p rec k ws (0 + 1) = ws := rfl
    rw [e1, e2, e3, e4]
    unfold wStep WS.zero
    simp only [ne_eq, not_true, if_false, if_true]
    rw [if_pos (hin ws rfl), hwF ws rfl, hw, if_pos (by omega), htick _ _ rfl]
    rfl
  · by_cases h1 : i = 1
    · subst h1
      have e1 : aloneX rec.length k 1 = ⟨0, 1, 0, 1, 2 * k, 0⟩ := rfl
      have e2 : aloneW q p rec k ws 1 = ws := rfl
      have e3 : aloneX rec.length k (1 + 1) = ⟨0, 2, 0, 2, 2 * k, 0⟩ := by unfold aloneX; rw [if_neg (by omega), if_neg (by omega), if_pos (by omega)]; rfl
      have e4 : aloneW q p rec k ws (1 + 1) = ws.set q (2 * k + 1) := by
        unfold aloneW
        rw [if_neg (by omega), if_pos (by omega)]
        rfl
      rw [e1, e2, e3, e4]
      unfold wStep
      simp only [ne_eq, not_true, if_false, if_true]
      have hc : casB ws s.seq (2 * (k : Int)) = true := by rw [casB_in (hin ws rfl), hq, Int.toNat_natCast, hw]; simp
      rw [if_neg (by omega), if_pos (hin ws rfl), if_pos hc, hset ws _ rfl, hwr _ (by omega), htick _ _ rfl]
      rfl
    · by_cases h2 : i ≤ rec.length + 1
      · have hlw : (putN (ws.set q (2 * k + 1)) p rec (i - 2)).length = ws.length := by rw [putN_len, List.length_set]
        have e1 : aloneX rec.length k i = ⟨0, 2, 0, i, 2 * k, (i : Int) - 2⟩ := by unfold aloneX; rw [if_neg h0, if_neg h1, if_pos h2]
        have e2 : aloneW q p rec k ws i = putN (ws.set q (2 * k + 1)) p rec (i - 2) := by unfold aloneW; rw [if_neg (by omega), if_pos (by omega)]
        have e4 : aloneW q p rec k ws (i + 1) = (putN (ws.set q (2 * k + 1)) p rec (i - 2)).set (p + (i - 2)) (nth rec (i - 2)) := by
          unfold aloneW
          rw [if_neg (by omega), if_pos (by omega), show i + 1 - 2 = (i - 2) + 1 by omega]
          rfl
        have e3 : aloneX rec.length k (i + 1) = ⟨0, if (i : Int) - 2 + 1 = (rec.length : Int) then 3 else 2, 0, (i : Int) + 1, 2 * k, (i : Int) - 2 + 1⟩ := by
          unfold aloneX
          rw [if_neg (by omega), if_neg (by omega)]
          by_cases h3 : i + 1 ≤ rec.length + 1
          · rw [if_pos h3, if_neg (by omega)]
            simp; omega
          · rw [if_neg h3, if_pos (by omega), if_pos (by omega)]
            simp; omega
        have hpl2 : placeF s (2 * k) ((i : Int) - 2) = ((p + (i - 2) : Nat) : Int) := by
          unfold placeF
          rw [show (2 * (k : Int)) / 2 + 1 = k + 1 by omega, hwr _ (by omega), hp]
          omega
        rw [e1, e2, e3, e4]
        unfold wStep
        simp only [ne_eq, not_true, if_false, if_true]
        rw [if_neg (by omega), if_neg (by omega), hpl2, if_pos (inW_nat _ _ (by rw [hlw]; omega)), setF_in (inW_nat _ _ (by rw [hlw]; omega)), tickF_in (inW_nat _ _ (by rw [hlw]; omega)), Int.toNat_natCast]
        rw [show ((i : Int) - 2).toNat = i - 2 by omega]
        rfl
      · obtain rfl : i = rec.length + 2 := by omega
        have hlw : (putN (ws.set q (2 * k + 1)) p rec rec.length).length = ws.length := by rw [putN_len, List.length_set]
        have e1 : aloneX rec.length k (rec.length + 2) = ⟨0, 3, 0, ((rec.length + 2 : Nat) : Int), 2 * k, rec.length⟩ := by unfold aloneX; rw [if_neg h0, if_neg h1, if_neg h2, if_pos rfl]
        have e2 : aloneW q p rec k ws (rec.length + 2) = putN (ws.set q (2 * k + 1)) p rec rec.length := by unfold aloneW; rw [if_neg (by omega), if_pos (by omega)]; rfl
        have e3 : aloneX rec.length k (rec.length + 2 + 1) = ⟨1, 3, 0, rec.length + 3, 2 * k, rec.length⟩ := by
          unfold aloneX
          rw [if_neg (by omega), if_neg (by omega), if_neg (by omega), if_neg (by omega)]
        have e4 : aloneW q p rec k ws (rec.length + 2 + 1) = (putN (ws.set q (2 * k + 1)) p rec rec.length).set q (2 * k + 2) := by
          unfold aloneW
          rw [if_neg (by omega), if_neg (by omega)]
        rw [e1, e2, e3, e4]
        unfold wStep
        simp only [ne_eq, not_true, if_false, if_true]
        rw [if_neg (by omega), if_neg (by omega), if_neg (by omega), if_pos (hin _ hlw), hset _ _ hlw, hwr _ (by omega), htick _ _ hlw]
        have : (((rec.length + 2 : Nat) : Int) + 1) = (rec.length : Int) + 3 := by omega
        rw [this]
        rfl
end Go.Proofs.Ytihogagnjikghaa.Bank
