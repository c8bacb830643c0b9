/-
  Law 10: how a row of spots is judged by snap and by the document, how many words it has, the document's copy of it. Conditions stand at each. By an AI agent.
-/
import Derived.Test.YtjdalllfnlpmnaaSnS
import Derived.Test.YtjdalllfnlpmnaaRf
namespace Go.Proofs.Ytjdalllfnlpmnaa.Bank
set_option linter.unusedVariables false
set_option linter.unusedSimpArgs false
open Go Go.RowKit Go.Proofs.Ytjdalllfnlpmnaa.Base Go.Deep Go.ChangeShapes Go.WideShapes
theorem widthF_bounds {l : Nat → Spot} {n : Nat} (h : allR l n = true) : ∀ k, k ≤ n → 0 ≤ widthF l k ∧ widthF l k ≤ 64 * (k : Int) := by
  have h := (allR_iff l n).mp h
  intro k
  induction k with
  | zero => intro _; exact ⟨Int.le_refl _, by simp [widthF]⟩
  | succ k ih =>
    intro hk
    have := (h k (by omega)).1
    have := ih (by omega)
    unfold widthF
    omega
def sMostF (n : Nat) (l : Nat → Spot) (tries : Int) : Int := if wrongE n l tries ≠ 0 then 0 else (2 * (n : Int) + widthF l n) * tries
theorem wrongE_zero {n : Nat} {l : Nat → Spot} {tries : Int} (h : wrongE n l tries = 0) : (1 ≤ n ∧ n ≤ 64) ∧ allR l n = true ∧ 1 ≤ tries ∧ tries ≤ 16 := by
  unfold wrongE at h
  split at h
  · omega
  · rename_i h1
    split at h
    · omega
    · rename_i h2
      refine ⟨by omega, ?_, by omega, by omega⟩
      cases e : allR l n with
      | true => rfl
      | false => exact absurd (Or.inl e) h2
theorem wrongE_ways (n : Nat) (l : Nat → Spot) (tries : Int) : wrongE n l tries = 0 ∨ wrongE n l tries = 10 ∨ wrongE n l tries = 12 := by
  unfold wrongE
  split
  · exact .inr (.inr rfl)
  · split
    · exact .inr (.inl rfl)
    · exact .inl rfl
set_option maxRecDepth 100000 in
set_option maxHeartbeats 4000000 in
theorem swrong_any (v : Value) (n : Nat) (l : Nat → Spot) (tries : Int) (w : World) (h : Sps w v n l) :
    Calls Try.prog 32 #[v, .int .i64 tries] w fun e w' => e = .returned (.int .i64 (wrongE n l tries)) ∧ Below w.heap.size w w' := by
  have HC := Lib.hid (ContainsFunc_any v n l w h)
  obtain ⟨A, c, rfl, hn, hg⟩ := h.form
  have HG := Lib.hid hg
  have HN := Lib.hid hn
  clear h hn hg
  by_cases h1 : n < 1
  · have HW := Lib.hid (show wrongE n l tries = 12 from if_pos (.inl h1))
    have k1 : decide ((n : Int) < 1) = true := decide_eq_true (by omega)
    clear h1
    go_enter Try.func32, Try.ntmps32
    go_wp2_with fail
    go_ret
    exact ⟨by rw [HW.out]; rfl, Below.refl _ _⟩
  by_cases h2 : 64 < n
  · have HW := Lib.hid (show wrongE n l tries = 12 from if_pos (.inr h2))
    have k1 : decide ((n : Int) < 1) = false := decide_eq_false (by omega)
    have k2 : decide ((n : Int) > 64) = true := decide_eq_true (by omega)
    clear h1 h2
    go_enter Try.func32, Try.ntmps32
    go_wp2_with fail
    go_ret
    exact ⟨by rw [HW.out]; rfl, Below.refl _ _⟩
  have k1 : decide ((n : Int) < 1) = false := decide_eq_false (by omega)
  have k2 : decide ((n : Int) > 64) = false := decide_eq_false (by omega)
  have HW := Lib.hid (show wrongE n l tries = if allR l n = false ∨ tries < 1 ∨ 16 < tries then 10 else 0 from if_neg (fun h => h.elim h1 h2))
  have H0 := Lib.hid h1
  clear h1 h2
  go_enter Try.func32, Try.ntmps32
  go_wp2_with fail
  refine HC.out.mono ?_; rintro e w1 ⟨rfl, hb1⟩
  have L1 := Lib.hid hb1
  clear hb1 HC
  cases ha : allR l n with
  | false =>
    have HR := Lib.hid (show wrongE n l tries = 10 from HW.out.trans (if_pos (.inl ha)))
    clear ha
    go_wp2_with fail
    go_ret
    exact ⟨by rw [HR.out]; rfl, L1.out⟩
  | true =>
    have HA := Lib.hid ha
    clear ha
    by_cases t1 : tries < 1
    · have HR := Lib.hid (show wrongE n l tries = 10 from HW.out.trans (if_pos (.inr (.inl t1))))
      have kt : decide (tries < 1) = true := decide_eq_true t1
      clear t1
      go_wp2_with fail
      go_ret
      exact ⟨by rw [HR.out]; rfl, L1.out⟩
    have kt : decide (tries < 1) = false := decide_eq_false t1
    have HT1 := Lib.hid t1
    clear t1
    by_cases t2 : 16 < tries
    · have HR := Lib.hid (show wrongE n l tries = 10 from HW.out.trans (if_pos (.inr (.inr t2))))
      have kt2 : decide (tries > 16) = true := decide_eq_true t2
      clear t2
      go_wp2_with fail
      go_ret
      exact ⟨by rw [HR.out]; rfl, L1.out⟩
    have kt2 : decide (tries > 16) = false := decide_eq_false t2
    have HR := Lib.hid (show wrongE n l tries = 0 from HW.out.trans (if_neg (fun h => h.elim (fun h => absurd (HA.out.symm.trans h) (by decide)) (fun h => h.elim HT1.out t2))))
    clear t2
    go_wp2_with fail
    go_ret
    exact ⟨by rw [HR.out]; rfl, L1.out⟩
set_option maxRecDepth 100000 in
set_option maxHeartbeats 4000000 in
theorem rWrong_any (v : Value) (n : Nat) (l : Nat → Spot) (tries : Int) (w : World) (h : Sps w v n l) :
    Calls Try.prog 35 #[v, .int .i64 tries] w fun e w' => e = .returned (.int .i64 (wrongE n l tries)) ∧ Below w.heap.size w w' := by
  obtain ⟨A, c, rfl, hn, hg⟩ := h.form
  have HG := Lib.hid hg
  have HN := Lib.hid hn
  clear h hn hg
  by_cases h1 : n < 1
  · have HW := Lib.hid (show wrongE n l tries = 12 from if_pos (.inl h1))
    have k1 : decide ((n : Int) < 1) = true := decide_eq_true (by omega)
    clear h1
    go_enter Try.func35, Try.ntmps35
    go_wp2_with fail
    go_ret
    exact ⟨by rw [HW.out]; rfl, Below.refl _ _⟩
  by_cases h2 : 64 < n
  · have HW := Lib.hid (show wrongE n l tries = 12 from if_pos (.inr h2))
    have k1 : decide ((n : Int) < 1) = false := decide_eq_false (by omega)
    have k2 : decide ((n : Int) > 64) = true := decide_eq_true (by omega)
    clear h1 h2
    go_enter Try.func35, Try.ntmps35
    go_wp2_with fail
    go_ret
    exact ⟨by rw [HW.out]; rfl, Below.refl _ _⟩
  have k1 : decide ((n : Int) < 1) = false := decide_eq_false (by omega)
  have k2 : decide ((n : Int) > 64) = false := decide_eq_false (by omega)
  have HW := Lib.hid (show wrongE n l tries = if allR l n = false ∨ tries < 1 ∨ 16 < tries then 10 else 0 from if_neg (fun h => h.elim h1 h2))
  have H0 := Lib.hid h1
  clear h1 h2
  go_enter Try.func35, Try.ntmps35
  go_wp2_with fail
  go_loopw [5] (fun s5 wr => ∃ i : Nat, i ≤ n ∧ s5 = .int .i64 i ∧ allR l i = true ∧ Below w.heap.size w wr) (fun s5 _ => n - (intOf s5).toNat)
  case atStart => exact ⟨0, by omega, rfl, rfl, Below.refl _ _⟩
  case round =>
    obtain ⟨i, hi, rfl, hs, hl⟩ := hrel
    have HS := Lib.hid hs
    have L0 := Lib.hid hl
    clear hs hl
    by_cases hlt : i < n
    · have kd : decide ((i : Int) < (n : Int)) = true := decide_eq_true (by omega)
      have ki0 : (0 : Int) ≤ (i : Int) := by omega
      have ki1 : (i : Int) < (n : Int) := by omega
      have HI := Lib.hid hlt
      clear hi hlt
      obtain ⟨b, o, rfl, hb, hc⟩ := HG.out (by have := HI.out; omega)
      have HB := Lib.hid hb
      have HC := Lib.hid hc
      clear hb hc
      have HC5 := Lib.hid (HC.out i HI.out)
      have HR := Lib.hid (fun W => rRight_any (l i) W)
      unfold Spot.val at HR
      have c0 := (L0.out.cell (p := ⟨b, o + i * 5, none⟩) HB.out).trans HC5.out.1
      have c1 := (L0.out.cell (p := ⟨b, o + i * 5 + 1, none⟩) HB.out).trans HC5.out.2.1
      have c2 := (L0.out.cell (p := ⟨b, o + i * 5 + 2, none⟩) HB.out).trans HC5.out.2.2.1
      have c3 := (L0.out.cell (p := ⟨b, o + i * 5 + 3, none⟩) HB.out).trans HC5.out.2.2.2.1
      have c4 := (L0.out.cell (p := ⟨b, o + i * 5 + 4, none⟩) HB.out).trans HC5.out.2.2.2.2
      have HM := Lib.hid (turn_no i n HI.out HN.out)
      go_wp2_with fail
      refine (HR.out wr).mono ?_; rintro e w1 ⟨rfl, hb1⟩
      have L1 := Lib.hid (bl L0.out hb1)
      clear c0 c1 c2 c3 c4 hb1 HR
      by_cases hm : (l i).Right
      · rw [decide_eq_true hm]
        have HM2 := Lib.hid hm
        clear hm
        go_wp2_with fail
        go_roundw
        case rel => exact ⟨i + 1, HI.out, HM.out.1, by unfold allR; rw [HS.out, decide_eq_true HM2.out]; rfl, L1.out⟩
        case measure => exact HM.out.2
      · rw [decide_eq_false hm]
        have HR := Lib.hid (show wrongE n l tries = 10 from HW.out.trans (if_pos (.inl (allR_false HI.out hm))))
        clear hm
        go_wp2_with fail
        go_ret
        exact ⟨by rw [HR.out]; rfl, L1.out⟩
    · obtain rfl : i = n := by omega
      have kd : decide ((i : Int) < (i : Int)) = false := decide_eq_false (by omega)
      have HA := Lib.hid HS.out
      have L1 := Lib.hid L0.out
      by_cases t1 : tries < 1
      · have HR := Lib.hid (show wrongE i l tries = 10 from HW.out.trans (if_pos (.inr (.inl t1))))
        have kt : decide (tries < 1) = true := decide_eq_true t1
        clear t1
        go_wp2_with fail
        go_ret
        exact ⟨by rw [HR.out]; rfl, L1.out⟩
      have kt : decide (tries < 1) = false := decide_eq_false t1
      have HT1 := Lib.hid t1
      clear t1
      by_cases t2 : 16 < tries
      · have HR := Lib.hid (show wrongE i l tries = 10 from HW.out.trans (if_pos (.inr (.inr t2))))
        have kt2 : decide (tries > 16) = true := decide_eq_true t2
        clear t2
        go_wp2_with fail
        go_ret
        exact ⟨by rw [HR.out]; rfl, L1.out⟩
      have kt2 : decide (tries > 16) = false := decide_eq_false t2
      have HR := Lib.hid (show wrongE i l tries = 0 from HW.out.trans (if_neg (fun h => h.elim (fun h => absurd (HA.out.symm.trans h) (by decide)) (fun h => h.elim HT1.out t2))))
      clear t2
      go_wp2_with fail
      go_ret
      exact ⟨by rw [HR.out]; rfl, L1.out⟩
theorem width_num {l : Nat → Spot} {n i : Nat} (h : allR l n = true) (hn : n ≤ 64) (hi : i < n) : Value.int .i64 (wrap64 (widthF l i + (l i).words)) = .int .i64 (widthF l (i + 1)) := by
  have b := widthF_bounds h i (by omega)
  have r := ((allR_iff l n).mp h i hi).1
  rw [wrap64_in _ (by omega)]
  rfl
set_option maxRecDepth 100000 in
set_option maxHeartbeats 4000000 in
theorem width_any (v : Value) (n : Nat) (l : Nat → Spot) (w : World) (h : Sps w v n l) (hr : allR l n = true) (h64 : n ≤ 64) :
    Calls Try.prog 34 #[v] w fun e w' => e = .returned (.int .i64 (widthF l n)) ∧ Below w.heap.size w w' := by
  obtain ⟨A, c, rfl, hn, hg⟩ := h.form
  have HG := Lib.hid hg
  have HN := Lib.hid hn
  have HR := Lib.hid hr
  have H64 := Lib.hid h64
  clear h hn hg hr h64
  go_enter Try.func34, Try.ntmps34
  go_wp2_with fail
  go_loopw [3, 5, 8] (fun s3 s5 s8 wr => ∃ i : Nat, i ≤ n ∧ s8 = .int .i64 i ∧ s3 = .int .i64 (widthF l i) ∧ Below w.heap.size w wr) (fun s3 s5 s8 _ => n - (intOf s8).toNat)
  case atStart => exact ⟨0, by omega, rfl, rfl, Below.refl _ _⟩
  case round =>
    obtain ⟨i, hi, rfl, rfl, hl⟩ := hrel
    have L0 := Lib.hid hl
    clear hl
    by_cases hlt : i < n
    · have kd : decide ((i : Int) < (n : Int)) = true := decide_eq_true (by omega)
      have ki0 : (0 : Int) ≤ (i : Int) := by omega
      have ki1 : (i : Int) < (n : Int) := by omega
      have HI := Lib.hid hlt
      clear hi hlt
      obtain ⟨b, o, rfl, hb, hc⟩ := HG.out (by have := HI.out; omega)
      have HB := Lib.hid hb
      have HC := Lib.hid hc
      clear hb hc
      have HC5 := Lib.hid (HC.out i HI.out)
      have c0 := (L0.out.cell (p := ⟨b, o + i * 5, none⟩) HB.out).trans HC5.out.1
      have c1 := (L0.out.cell (p := ⟨b, o + i * 5 + 1, none⟩) HB.out).trans HC5.out.2.1
      have c2 := (L0.out.cell (p := ⟨b, o + i * 5 + 2, none⟩) HB.out).trans HC5.out.2.2.1
      have c3 := (L0.out.cell (p := ⟨b, o + i * 5 + 3, none⟩) HB.out).trans HC5.out.2.2.2.1
      have c4 := (L0.out.cell (p := ⟨b, o + i * 5 + 4, none⟩) HB.out).trans HC5.out.2.2.2.2
      have HM := Lib.hid (turn_no i n HI.out HN.out)
      have HWN := Lib.hid (width_num HR.out H64.out HI.out)
      have L1 := Lib.hid (L0.out.alloc L0.out.size (.cells #[.int .i64 (l i).owners, .int .i64 (l i).seq, .int .i64 (l i).first, .int .i64 (l i).words, .int .i64 (l i).depth] 65))
      go_wp2_with fail
      go_roundw
      case rel => exact ⟨i + 1, HI.out, HM.out.1, HWN.out, L1.out⟩
      case measure => exact HM.out.2
    · obtain rfl : i = n := by omega
      have kd : decide ((i : Int) < (i : Int)) = false := decide_eq_false (by omega)
      go_wp2_with fail
      go_ret
      exact ⟨rfl, L0.out⟩
end Go.Proofs.Ytjdalllfnlpmnaa.Bank
