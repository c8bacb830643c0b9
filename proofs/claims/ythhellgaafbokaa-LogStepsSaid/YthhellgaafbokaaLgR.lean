/-
  The document's answer for the log: Sound, Gaps. Conditions stand at each. By an AI agent.
-/
import Derived.Test.YthhellgaafbokaaLgS
import Derived.Test.YthhellgaafbokaaRefG
import Derived.Test.YthhellgaafbokaaBank
namespace Go.Proofs.Ythhellgaafbokaa.Lg
set_option linter.unusedVariables false
set_option linter.unusedSimpArgs false
open Go Go.RowKit Go.Proofs.Ythhellgaafbokaa.Base Go.Proofs.Ythhellgaafbokaa.Reg
theorem SoundF.push {i : Nat} {l : Nat → St} (h : SoundF i l) (hm : mayE (l i) = 0) (hj : ∀ j, j < i → (l j).epoch < (l i).epoch) : SoundF (i + 1) l := fun k hk => by
  by_cases e : k = i
  · subst e; exact ⟨hm, fun h0 => hj (k - 1) (by omega)⟩
  · exact h k (by omega)
set_option maxRecDepth 100000 in
set_option maxHeartbeats 4000000 in
theorem RSound_any (v : Value) (n : Nat) (l : Nat → St) (w : World) (h : Sts w v n l) : Calls Try.prog 11 #[v] w fun e w' => e = .returned (.bool (decide (SoundF n l))) ∧ Below w.heap.size w w' := by
  obtain ⟨A, c, rfl, hn, hg⟩ := h.form
  have HOK := Lib.hid h.ok
  have HG := Lib.hid hg
  have HN := Lib.hid hn
  clear h hn hg
  go_enter Try.func11, Try.ntmps11
  go_wp2_with fail
  go_loopw [3, 4, 5, 6] (fun s3 s4 s5 s6 wr => ∃ i : Nat, i ≤ n ∧ s3 = .int .i64 i ∧ SoundF i l ∧ Below w.heap.size w wr) (fun s3 s4 s5 s6 _ => n - (intOf s3).toNat)
  case atStart => exact ⟨0, by omega, rfl, fun _ h => absurd h (by omega), Below.refl _ _⟩
  case round =>
    obtain ⟨i, hi, rfl, hs, hl⟩ := hrel
    have HS := Lib.hid hs
    have L0 := Lib.hid hl
    clear hs hl
    by_cases hlt : i < n
    · have kd : decide ((i : Int) < (n : Int)) = true := decide_eq_true (by omega)
      have ki0 : (0 : Int) ≤ (i : Int) := by omega
      have ki1 : (i : Int) < (n : Int) := by omega
      have HI := Lib.hid hlt
      clear hi hlt
      obtain ⟨b, o, rfl, hb, hc⟩ := HG.out (by have := HI.out; omega)
      have HB := Lib.hid hb
      have HC := Lib.hid hc
      clear hb hc
      have HC5 := Lib.hid (HC.out i HI.out)
      have HR := Lib.hid (fun W => Right_any (l i) (HOK.out i HI.out) W)
      unfold St.val at HR
      have c0 := (L0.out.cell (p := ⟨b, o + i * 5, none⟩) HB.out).trans HC5.out.1
      have c1 := (L0.out.cell (p := ⟨b, o + i * 5 + 1, none⟩) HB.out).trans HC5.out.2.1
      have c2 := (L0.out.cell (p := ⟨b, o + i * 5 + 2, none⟩) HB.out).trans HC5.out.2.2.1
      have c3 := (L0.out.cell (p := ⟨b, o + i * 5 + 3, none⟩) HB.out).trans HC5.out.2.2.2.1
      have c4 := (L0.out.cell (p := ⟨b, o + i * 5 + 4, none⟩) HB.out).trans HC5.out.2.2.2.2
      go_wp2_with fail
      refine (HR.out wr).mono ?_; rintro e w1 ⟨rfl, hb1⟩
      have L1 := Lib.hid (bl L0.out hb1)
      clear c0 c1 c2 c3 c4 hb1 HR
      by_cases hm : mayE (l i) = 0
      · have km : rightB (l i) = true := decide_eq_true hm
        have HM := Lib.hid hm
        clear hm
        go_wp2_with fail
        clear km
        have HN2 := Lib.hid (turn_num i n HI.out HN.out)
        go_loopw [6] (fun s6 wr2 => ∃ j : Nat, j ≤ i ∧ s6 = .int .i64 j ∧ (∀ k, k < j → (l k).epoch < (l i).epoch) ∧ Below w.heap.size w wr2) (fun s6 _ => i - (intOf s6).toNat)
        case atStart => exact ⟨0, by omega, rfl, fun _ h => absurd h (by omega), L1.out⟩
        case round =>
          obtain ⟨j, hj, rfl, hjs, hjl⟩ := hrel
          have HJS := Lib.hid hjs
          have L2 := Lib.hid hjl
          clear hjs hjl
          by_cases hjlt : j < i
          · have kd2 : decide ((j : Int) < (i : Int)) = true := decide_eq_true (by omega)
            have kj0 : (0 : Int) ≤ (j : Int) := by omega
            have kj1 : (j : Int) < (n : Int) := by omega
            have HJ := Lib.hid hjlt
            clear hj hjlt
            have d1 := (L2.out.cell (p := ⟨b, o + j * 5 + 4, none⟩) HB.out).trans (HC.out j (by have := HJ.out; have := HI.out; omega)).2.2.2.2
            have d2 := (L2.out.cell (p := ⟨b, o + i * 5 + 4, none⟩) HB.out).trans HC5.out.2.2.2.2
            have HN3 := Lib.hid (turn_num j i HJ.out (by have := HN.out; have := HI.out; omega))
            by_cases hge : (l j).epoch ≥ (l i).epoch
            · have kg : decide ((l j).epoch ≥ (l i).epoch) = true := decide_eq_true hge
              have HGE := Lib.hid hge
              clear hge
              go_wp2_with fail
              go_quiet (fail)
              go_wp2_with fail
              go_ret
              exact ⟨by rw [decide_eq_false (show ¬ SoundF n l from fun hh => by have := hh.lt HJ.out HI.out; have := HGE.out; omega)]; rfl, below_drewN L2.out _⟩
            · have kg : decide ((l j).epoch ≥ (l i).epoch) = false := decide_eq_false hge
              have HGE := Lib.hid hge
              clear hge
              go_wp2_with fail
              go_quiet (fail)
              go_wp2_with fail
              go_roundw
              case rel => exact ⟨j + 1, HJ.out, HN3.out.1, fun k hk => by
                by_cases e : k = j
                · subst e; have := HGE.out; omega
                · exact HJS.out k (by omega), below_drewN L2.out _⟩
              case measure => exact HN3.out.2
          · obtain rfl : j = i := by omega
            have kd2 : decide ((j : Int) < (j : Int)) = false := decide_eq_false (by omega)
            go_wp2_with fail
            go_roundw
            case rel => exact ⟨j + 1, HI.out, HN2.out.1, HS.out.push HM.out HJS.out, L2.out⟩
            case measure => exact HN2.out.2
      · have km : rightB (l i) = false := decide_eq_false hm
        have HM := Lib.hid hm
        clear hm
        go_wp2_with fail
        go_ret
        exact ⟨by rw [decide_eq_false (show ¬ SoundF n l from fun hh => HM.out (hh i HI.out).1)]; rfl, L1.out⟩
    · obtain rfl : i = n := by omega
      have kd : decide ((i : Int) < (i : Int)) = false := decide_eq_false (by omega)
      go_wp2_with fail
      go_ret
      exact ⟨by rw [decide_eq_true HS.out]; rfl, L0.out⟩
end Go.Proofs.Ythhellgaafbokaa.Lg
