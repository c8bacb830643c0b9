/-
  Law 10: what a step makes of a snapshot, as one function; the step keeps to it. Conditions stand at each. By an AI agent.
-/
import Derived.Test.YtjdalllfnlpmnaaSnT
import Derived.Test.YtjdalllfnlpmnaaSnG
namespace Go.Proofs.Ytjdalllfnlpmnaa.Bank
set_option linter.unusedVariables false
set_option linter.unusedSimpArgs false
open Go Go.RowKit Go.Proofs.Ytjdalllfnlpmnaa.Base
/-- a snapshot under way: the tries that are left, the accesses of this try, the moment, the steps, how it stands, the generations, the words -/
structure SX where
  tries : Int
  k : Int
  begun : Int
  steps : Int
  how : Int
  gl : List Int
  wl : List Int
def sAtF (l : Nat → Spot) (n m : Nat) (x : SX) : Int :=
  if x.k < n then (l x.k.toNat).seq else if x.k < (n : Int) + (m : Int) then sPlace l x.gl n (x.k - n) else (l (x.k - n - m).toNat).seq
def sStepF (l : Nat → Spot) (n m : Nat) (ws : List Int) (x : SX) : SX :=
  if x.how ≠ 0 then x
  else if ¬ inW ws (sAtF l n m x) then ⟨x.tries, x.k, x.begun, x.steps, 3, x.gl, x.wl⟩
  else if x.k < n then ⟨x.tries, x.k + 1, if x.k + 1 = n then x.steps + 1 else x.begun, x.steps + 1, 0, x.gl.set x.k.toNat (wordF ws (sAtF l n m x) / 2), x.wl⟩
  else if x.k < (n : Int) + (m : Int) then ⟨x.tries, x.k + 1, x.begun, x.steps + 1, 0, x.gl, x.wl.set (x.k - n).toNat (wordF ws (sAtF l n m x))⟩
  else if wordF ws (sAtF l n m x) / 2 = nth x.gl (x.k - n - m).toNat then ⟨x.tries, x.k + 1, x.begun, x.steps + 1, if x.k + 1 = 2 * (n : Int) + (m : Int) then 1 else 0, x.gl, x.wl⟩
  else ⟨x.tries - 1, 0, x.begun, x.steps + 1, if x.tries - 1 = 0 then 2 else 0, x.gl, x.wl⟩
def sTickF (l : Nat → Spot) (n m : Nat) (ws : List Int) (x : SX) (t : Int) : Int := if x.how ≠ 0 then t else tickF ws (sAtF l n m x) t
/-- the snapshot x in memory -/
def SnX (w : World) (o rs cs rg rw n m : Nat) (l : Nat → Spot) (x : SX) : Prop := SnAt w o rs cs rg rw n m l x.tries x.k x.begun x.steps x.how x.gl x.wl
set_option maxHeartbeats 1000000 in
theorem SStep_any (g h o rs cs rg rw n m : Nat) (ws : List Int) (t : Int) (l : Nat → Spot) (x : SX) (w : World) (hb : BankAt w g h ws t) (ho : SnX w o rs cs rg rw n m l x)
    (hi : x.how = 0 → SInv n m l x.tries x.steps x.gl ∧ 0 ≤ x.k ∧ x.k < 2 * (n : Int) + (m : Int))
    (ne : o ≠ g ∧ o ≠ h ∧ rs ≠ g ∧ rs ≠ h ∧ rg ≠ g ∧ rg ≠ h ∧ rw ≠ g ∧ rw ≠ h) :
    Calls Try.prog 17 #[.pointer (some ⟨o, 0, none⟩), .pointer (some ⟨g, 0, none⟩)] w fun e w' => e = .returned (.int .i64 (sStepF l n m ws x).how) ∧ BankAt w' g h ws (sTickF l n m ws x t) ∧ SnX w' o rs cs rg rw n m l (sStepF l n m ws x) ∧ Ex (fun k => k = g ∨ k = h ∨ k = o ∨ k = rg ∨ k = rw) w w' := by
  obtain ⟨tries, k, begun, steps, how, gl, wl⟩ := x
  unfold SnX at ho ⊢
  simp only at ho hi
  by_cases hh : how = 0
  · subst hh
    obtain ⟨hs, k0, k1⟩ := hi rfl
    clear hi
    have et : sTickF l n m ws ⟨tries, k, begun, steps, 0, gl, wl⟩ t = tickF ws (sAtF l n m ⟨tries, k, begun, steps, 0, gl, wl⟩) t := if_neg (fun h => h rfl)
    rw [et]
    by_cases h1 : k < n
    · obtain ⟨j, rfl⟩ : ∃ j : Nat, k = j := ⟨k.toNat, by omega⟩
      have ea : sAtF l n m ⟨tries, j, begun, steps, 0, gl, wl⟩ = (l j).seq := if_pos h1
      have hj : j < n := by omega
      by_cases hin : inW ws (l j).seq
      · by_cases hv : (j : Int) + 1 = (n : Int)
        · have es : sStepF l n m ws ⟨tries, j, begun, steps, 0, gl, wl⟩ = ⟨tries, (j : Int) + 1, steps + 1, steps + 1, 0, gl.set j (wordF ws (l j).seq / 2), wl⟩ := by
            unfold sStepF
            rw [ea]
            simp only [ne_eq, not_true_eq_false, if_false, hin, h1, hv, if_true, Int.toNat_natCast]
          rw [es, ea]
          exact SN_Al g h o rs cs rg rw n m ws t l tries j begun steps gl wl j w hb ho hs ne hj rfl hin hv
        · have es : sStepF l n m ws ⟨tries, j, begun, steps, 0, gl, wl⟩ = ⟨tries, (j : Int) + 1, begun, steps + 1, 0, gl.set j (wordF ws (l j).seq / 2), wl⟩ := by
            unfold sStepF
            rw [ea]
            simp only [ne_eq, not_true_eq_false, if_false, hin, h1, hv, if_true, Int.toNat_natCast]
          rw [es, ea]
          exact SN_A g h o rs cs rg rw n m ws t l tries j begun steps gl wl j w hb ho hs ne hj rfl hin hv
      · have es : sStepF l n m ws ⟨tries, j, begun, steps, 0, gl, wl⟩ = ⟨tries, j, begun, steps, 3, gl, wl⟩ := by
          unfold sStepF
          rw [ea]
          simp only [ne_eq, not_true_eq_false, if_false, hin, not_false_eq_true, if_true]
        rw [es, ea]
        exact SN_outA g h o rs cs rg rw n m ws t l tries j begun steps gl wl j w hb ho hs ne hj rfl hin
    · by_cases h2 : k < (n : Int) + (m : Int)
      · obtain ⟨j, rfl⟩ : ∃ j : Nat, k = (n : Int) + (j : Int) := ⟨(k - n).toNat, by omega⟩
        have e0 : (n : Int) + (j : Int) - (n : Int) = (j : Int) := by omega
        have ea : sAtF l n m ⟨tries, (n : Int) + (j : Int), begun, steps, 0, gl, wl⟩ = sPlace l gl n (j : Int) := by
          unfold sAtF
          simp only [h1, h2, if_false, if_true, e0]
        have hj : j < m := by omega
        by_cases hin : inW ws (sPlace l gl n (j : Int))
        · have es : sStepF l n m ws ⟨tries, (n : Int) + (j : Int), begun, steps, 0, gl, wl⟩ = ⟨tries, (n : Int) + (j : Int) + 1, begun, steps + 1, 0, gl, wl.set j (wordF ws (sPlace l gl n (j : Int)))⟩ := by
            unfold sStepF
            rw [ea]
            simp only [ne_eq, not_true_eq_false, if_false, hin, h1, h2, if_true, e0, Int.toNat_natCast]
          rw [es, ea]
          exact SN_B g h o rs cs rg rw n m ws t l tries _ begun steps gl wl j w hb ho hs ne hj rfl hin
        · have es : sStepF l n m ws ⟨tries, (n : Int) + (j : Int), begun, steps, 0, gl, wl⟩ = ⟨tries, (n : Int) + (j : Int), begun, steps, 3, gl, wl⟩ := by
            unfold sStepF
            rw [ea]
            simp only [ne_eq, not_true_eq_false, if_false, hin, not_false_eq_true, if_true]
          rw [es, ea]
          exact SN_outB g h o rs cs rg rw n m ws t l tries _ begun steps gl wl j w hb ho hs ne hj rfl hin
      · obtain ⟨j, rfl⟩ : ∃ j : Nat, k = (n : Int) + (m : Int) + (j : Int) := ⟨(k - n - m).toNat, by omega⟩
        have e0 : (n : Int) + (m : Int) + (j : Int) - (n : Int) - (m : Int) = (j : Int) := by omega
        have ea : sAtF l n m ⟨tries, (n : Int) + (m : Int) + (j : Int), begun, steps, 0, gl, wl⟩ = (l j).seq := by
          unfold sAtF
          simp only [h1, h2, if_false, e0, Int.toNat_natCast]
        have hj : j < n := by omega
        by_cases hin : inW ws (l j).seq
        · by_cases hk2 : wordF ws (l j).seq / 2 = nth gl j
          · by_cases hv : (n : Int) + (m : Int) + (j : Int) + 1 = 2 * (n : Int) + (m : Int)
            · have es : sStepF l n m ws ⟨tries, (n : Int) + (m : Int) + (j : Int), begun, steps, 0, gl, wl⟩ = ⟨tries, (n : Int) + (m : Int) + (j : Int) + 1, begun, steps + 1, 1, gl, wl⟩ := by
                unfold sStepF
                rw [ea]
                simp only [ne_eq, not_true_eq_false, if_false, hin, h1, h2, hk2, e0, Int.toNat_natCast, if_true, if_pos hv]
              rw [es, ea]
              exact SN_Cl g h o rs cs rg rw n m ws t l tries _ begun steps gl wl j w hb ho hs ne hj rfl hin hk2 hv
            · have es : sStepF l n m ws ⟨tries, (n : Int) + (m : Int) + (j : Int), begun, steps, 0, gl, wl⟩ = ⟨tries, (n : Int) + (m : Int) + (j : Int) + 1, begun, steps + 1, 0, gl, wl⟩ := by
                unfold sStepF
                rw [ea]
                simp only [ne_eq, not_true_eq_false, if_false, hin, h1, h2, hk2, e0, Int.toNat_natCast, if_true, if_neg hv]
              rw [es, ea]
              exact SN_Cm g h o rs cs rg rw n m ws t l tries _ begun steps gl wl j w hb ho hs ne hj rfl hin hk2 hv
          · by_cases hv : tries - 1 = 0
            · have es : sStepF l n m ws ⟨tries, (n : Int) + (m : Int) + (j : Int), begun, steps, 0, gl, wl⟩ = ⟨tries - 1, 0, begun, steps + 1, 2, gl, wl⟩ := by
                unfold sStepF
                rw [ea]
                simp only [ne_eq, not_true_eq_false, if_false, hin, h1, h2, hk2, e0, Int.toNat_natCast, if_pos hv]
              rw [es, ea]
              exact SN_Cs g h o rs cs rg rw n m ws t l tries _ begun steps gl wl j w hb ho hs ne hj rfl hin hk2 hv
            · have es : sStepF l n m ws ⟨tries, (n : Int) + (m : Int) + (j : Int), begun, steps, 0, gl, wl⟩ = ⟨tries - 1, 0, begun, steps + 1, 0, gl, wl⟩ := by
                unfold sStepF
                rw [ea]
                simp only [ne_eq, not_true_eq_false, if_false, hin, h1, h2, hk2, e0, Int.toNat_natCast, if_neg hv]
              rw [es, ea]
              exact SN_Ca g h o rs cs rg rw n m ws t l tries _ begun steps gl wl j w hb ho hs ne hj rfl hin hk2 hv
        · have es : sStepF l n m ws ⟨tries, (n : Int) + (m : Int) + (j : Int), begun, steps, 0, gl, wl⟩ = ⟨tries, (n : Int) + (m : Int) + (j : Int), begun, steps, 3, gl, wl⟩ := by
            unfold sStepF
            rw [ea]
            simp only [ne_eq, not_true_eq_false, if_false, hin, not_false_eq_true, if_true]
          rw [es, ea]
          exact SN_outC g h o rs cs rg rw n m ws t l tries _ begun steps gl wl j w hb ho hs ne hj rfl hin
  · have es : sStepF l n m ws ⟨tries, k, begun, steps, how, gl, wl⟩ = ⟨tries, k, begun, steps, how, gl, wl⟩ := if_pos hh
    have et : sTickF l n m ws ⟨tries, k, begun, steps, how, gl, wl⟩ t = t := if_pos hh
    rw [es, et]
    refine (SN_done o rs cs rg rw n m l tries k begun steps how gl wl _ w ho hh).mono ?_
    rintro e w' ⟨rfl, rfl⟩
    exact ⟨rfl, hb, ho, Ex.refl _ _⟩
end Go.Proofs.Ytjdalllfnlpmnaa.Bank
