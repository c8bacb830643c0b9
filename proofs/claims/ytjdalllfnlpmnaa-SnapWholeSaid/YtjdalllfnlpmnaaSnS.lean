/-
  Law 10: spots in a row that came in, and how snap judges them. Conditions stand at each. By an AI agent.
-/
import Derived.Test.YtjdalllfnlpmnaaWr
import Derived.Lib.SmallJoins
import Derived.Shelf.Abstract
namespace Go.Proofs.Ytjdalllfnlpmnaa.Bank
set_option linter.unusedVariables false
set_option linter.unusedSimpArgs false
open Go Go.RowKit Go.Proofs.Ytjdalllfnlpmnaa.Base Go.Deep Go.ChangeShapes Go.WideShapes

structure Sps (w : World) (v : Value) (n : Nat) (l : Nat → Spot) : Prop where
  form : ∃ A c, v = .slice A n c ∧ n ≤ maxLen ∧ (0 < n → ∃ b o, A = some ⟨b, o, none⟩ ∧ b < w.heap.size ∧ ∀ i : Nat, i < n →
    w.cell? ⟨b, o + i * 5, none⟩ = some (.int .i64 (l i).owners) ∧ w.cell? ⟨b, o + i * 5 + 1, none⟩ = some (.int .i64 (l i).seq) ∧ w.cell? ⟨b, o + i * 5 + 2, none⟩ = some (.int .i64 (l i).first) ∧ w.cell? ⟨b, o + i * 5 + 3, none⟩ = some (.int .i64 (l i).words) ∧ w.cell? ⟨b, o + i * 5 + 4, none⟩ = some (.int .i64 (l i).depth))
theorem Sps.below {w w' : World} {v : Value} {n : Nat} {l : Nat → Spot} (h : Sps w v n l) (hb : Below w.heap.size w w') : Sps w' v n l := by
  obtain ⟨A, c, rfl, hl, hg⟩ := h.form
  refine ⟨⟨A, c, rfl, hl, fun hn => ?_⟩⟩
  obtain ⟨b, o, rfl, hlt, hc⟩ := hg hn
  refine ⟨b, o, rfl, Nat.lt_of_lt_of_le hlt hb.size, fun i hi => ?_⟩
  obtain ⟨c0, c1, c2, c3, c4⟩ := hc i hi
  exact ⟨(hb.cell (p := ⟨b, _, none⟩) hlt).trans c0, (hb.cell (p := ⟨b, _, none⟩) hlt).trans c1, (hb.cell (p := ⟨b, _, none⟩) hlt).trans c2, (hb.cell (p := ⟨b, _, none⟩) hlt).trans c3, (hb.cell (p := ⟨b, _, none⟩) hlt).trans c4⟩
/-- the first so many spots may all be -/
def allR (l : Nat → Spot) : Nat → Bool
  | 0 => true
  | k + 1 => allR l k && decide (l k).Right
theorem allR_iff (l : Nat → Spot) (n : Nat) : allR l n = true ↔ ∀ i, i < n → (l i).Right := by
  induction n with
  | zero => exact ⟨fun _ i h => absurd h (by omega), fun _ => rfl⟩
  | succ k ih =>
    unfold allR
    rw [Bool.and_eq_true, ih, decide_eq_true_iff]
    exact ⟨fun h i hi => by
      by_cases e : i = k
      · subst e; exact h.2
      · exact h.1 i (by omega), fun h => ⟨fun i hi => h i (by omega), h k (by omega)⟩⟩
theorem allR_false {l : Nat → Spot} {n i : Nat} (hi : i < n) (h : ¬ (l i).Right) : allR l n = false := by
  cases e : allR l n with
  | false => rfl
  | true => exact absurd ((allR_iff l n).mp e i hi) h
def wrongE (n : Nat) (l : Nat → Spot) (tries : Int) : Int :=
  if n < 1 ∨ 64 < n then 12 else if allR l n = false ∨ tries < 1 ∨ 16 < tries then 10 else 0
/-- how many words the first so many have together -/
def widthF (l : Nat → Spot) : Nat → Int
  | 0 => 0
  | k + 1 => widthF l k + (l k).words
theorem turn_no (i n : Nat) (h : i < n) (hn : n ≤ maxLen) : Value.int .i64 (wrap64 ((i : Int) + 1)) = Value.int .i64 ((i + 1 : Nat) : Int) ∧ n - (intOf (Value.int .i64 (wrap64 ((i : Int) + 1)))).toNat < n - (intOf (Value.int .i64 (i : Int))).toNat := by
  have e : wrap64 ((i : Int) + 1) = ((i + 1 : Nat) : Int) := by unfold maxLen at hn; unfold wrap64; omega
  rw [e]
  refine ⟨rfl, ?_⟩
  show n - ((i + 1 : Nat) : Int).toNat < n - (i : Int).toNat
  rw [Int.toNat_natCast, Int.toNat_natCast]
  omega
theorem sin_any (n lo hi : Int) (w : World) :
    Calls Try.prog 66 #[.int .i64 n, .int .i64 lo, .int .i64 hi] w fun e w' => e = .returned (.bool (decide (lo ≤ n ∧ n ≤ hi))) ∧ w = w' := by
  by_cases h1 : lo ≤ n
  · by_cases h2 : n ≤ hi
    · have hd : decide (lo ≤ n ∧ n ≤ hi) = true := decide_eq_true ⟨h1, h2⟩
      rw [hd]
      clear hd
      have hd1 : decide (n ≥ lo) = true := decide_eq_true h1
      have hd2 : decide (n ≤ hi) = true := decide_eq_true h2
      go_enter Try.func66, Try.ntmps66
      go_wp2_with fail
      go_ret
      exact ⟨rfl, rfl⟩
    · have hd : decide (lo ≤ n ∧ n ≤ hi) = false := decide_eq_false (fun h => h2 h.2)
      rw [hd]
      clear hd
      have hd1 : decide (n ≥ lo) = true := decide_eq_true h1
      have hd2 : decide (n ≤ hi) = false := decide_eq_false h2
      go_enter Try.func66, Try.ntmps66
      go_wp2_with fail
      go_ret
      exact ⟨rfl, rfl⟩
  · have hd : decide (lo ≤ n ∧ n ≤ hi) = false := decide_eq_false (fun h => h1 h.1)
    rw [hd]
    clear hd
    have hd2 : decide (n ≥ lo) = false := decide_eq_false h1
    go_enter Try.func66, Try.ntmps66
    go_wp2_with fail
    go_ret
    exact ⟨rfl, rfl⟩
set_option maxRecDepth 100000 in
set_option maxHeartbeats 4000000 in
theorem sright_any (s : Spot) (w : World) :
    Calls Try.prog 56 #[s.val] w fun e w' => e = .returned (.bool (decide s.Right)) ∧ Below w.heap.size w w' := by
  obtain ⟨ow, sq, fi, wo, de⟩ := s
  have hm : decide (Spot.Right ⟨ow, sq, fi, wo, de⟩) = (decide (1 ≤ wo ∧ wo ≤ 64) && (decide (2 ≤ de ∧ de ≤ 16) && (decide (0 ≤ ow ∧ ow ≤ 1048576) && (decide (0 ≤ sq ∧ sq ≤ 1048576) && decide (0 ≤ fi ∧ fi ≤ 1048576))))) := by
    apply Bool.eq_iff_iff.mpr
    simp only [decide_eq_true_iff, Bool.and_eq_true, Spot.Right]
    exact ⟨fun h => of_decide_eq_true h, fun h => decide_eq_true h⟩
  rw [hm]
  clear hm
  generalize hk0 : decide (1 ≤ wo ∧ wo ≤ 64) = k0
  generalize hk1 : decide (2 ≤ de ∧ de ≤ 16) = k1
  generalize hk2 : decide (0 ≤ ow ∧ ow ≤ 1048576) = k2
  generalize hk3 : decide (0 ≤ sq ∧ sq ≤ 1048576) = k3
  generalize hk4 : decide (0 ≤ fi ∧ fi ≤ 1048576) = k4
  have K0 := Lib.hid hk0
  have K1 := Lib.hid hk1
  have K2 := Lib.hid hk2
  have K3 := Lib.hid hk3
  have K4 := Lib.hid hk4
  have L0 := Lib.hid ((Below.refl w.heap.size w).alloc (Nat.le_refl _) (.cells #[.int .i64 ow, .int .i64 sq, .int .i64 fi, .int .i64 wo, .int .i64 de] 65))
  clear hk0 hk1 hk2 hk3 hk4
  unfold Spot.val
  simp only
  go_enter Try.func56, Try.ntmps56
  go_wp2_with fail
  refine (sin_any _ _ _ _).mono ?_; rintro e w' ⟨rfl, rfl⟩
  rw [K0.out]
  cases k0
  · go_wp2_with fail
    go_ret
    exact ⟨rfl, L0.out⟩
  go_wp2_with fail
  refine (sin_any _ _ _ _).mono ?_; rintro e w' ⟨rfl, rfl⟩
  rw [K1.out]
  cases k1
  · go_wp2_with fail
    go_ret
    exact ⟨rfl, L0.out⟩
  go_wp2_with fail
  refine (sin_any _ _ _ _).mono ?_; rintro e w' ⟨rfl, rfl⟩
  rw [K2.out]
  cases k2
  · go_wp2_with fail
    go_ret
    exact ⟨rfl, L0.out⟩
  go_wp2_with fail
  refine (sin_any _ _ _ _).mono ?_; rintro e w' ⟨rfl, rfl⟩
  rw [K3.out]
  cases k3
  · go_wp2_with fail
    go_ret
    exact ⟨rfl, L0.out⟩
  go_wp2_with fail
  refine (sin_any _ _ _ _).mono ?_; rintro e w' ⟨rfl, rfl⟩
  rw [K4.out]
  go_wp2_with fail
  go_ret
  exact ⟨rfl, L0.out⟩
theorem swrong1_any (s : Spot) (w : World) :
    Calls Try.prog 55 #[s.val] w fun e w' => e = .returned (.bool (!decide s.Right)) ∧ Below w.heap.size w w' := by
  have HR := Lib.hid (fun W => sright_any s W)
  have HB := Lib.hid ((Below.refl w.heap.size w).alloc (Nat.le_refl _) (.cells #[.int .i64 s.owners, .int .i64 s.seq, .int .i64 s.first, .int .i64 s.words, .int .i64 s.depth] 65))
  unfold Spot.val at *
  generalize hq : decide s.Right = q at HR ⊢
  clear hq
  go_enter Try.func55, Try.ntmps55
  go_wp2_with fail
  refine (HR.out _).mono ?_; rintro e w1 ⟨rfl, hb1⟩
  have L1 := Lib.hid (bl HB.out hb1)
  clear hb1
  go_wp2_with fail
  go_ret
  exact ⟨rfl, L1.out⟩
set_option maxRecDepth 100000 in
set_option maxHeartbeats 4000000 in
theorem IndexFunc_any (v : Value) (n : Nat) (l : Nat → Spot) (w : World) (h : Sps w v n l) :
    Calls Try.prog 65 #[v, .func (.func 55) #[] #[]] w fun e w' => ∃ z : Int, e = .returned (.int .i64 z) ∧ decide (z ≥ 0) = !allR l n ∧ Below w.heap.size w w' := by
  obtain ⟨A, c, rfl, hn, hg⟩ := h.form
  have HG := Lib.hid hg
  have HN := Lib.hid hn
  clear h hn hg
  go_enter Try.func65, Try.ntmps65
  go_wp2_with fail
  go_loopw [5, 8] (fun s5 s8 wr => ∃ i : Nat, i ≤ n ∧ s8 = .int .i64 i ∧ allR l i = true ∧ Below w.heap.size w wr) (fun s5 s8 _ => n - (intOf s8).toNat)
  case atStart => exact ⟨0, by omega, rfl, rfl, Below.refl _ _⟩
  case round =>
    obtain ⟨i, hi, rfl, hs, hl⟩ := hrel
    have HS := Lib.hid hs
    have L0 := Lib.hid hl
    clear hs hl
    by_cases hlt : i < n
    · have kd : decide ((i : Int) < (n : Int)) = true := decide_eq_true (by omega)
      have ki0 : (0 : Int) ≤ (i : Int) := by omega
      have ki1 : (i : Int) < (n : Int) := by omega
      have HI := Lib.hid hlt
      clear hi hlt
      obtain ⟨b, o, rfl, hb, hc⟩ := HG.out (by have := HI.out; omega)
      have HB := Lib.hid hb
      have HC := Lib.hid hc
      clear hb hc
      have HC5 := Lib.hid (HC.out i HI.out)
      have HR := Lib.hid (fun W => swrong1_any (l i) W)
      unfold Spot.val at HR
      have c0 := (L0.out.cell (p := ⟨b, o + i * 5, none⟩) HB.out).trans HC5.out.1
      have c1 := (L0.out.cell (p := ⟨b, o + i * 5 + 1, none⟩) HB.out).trans HC5.out.2.1
      have c2 := (L0.out.cell (p := ⟨b, o + i * 5 + 2, none⟩) HB.out).trans HC5.out.2.2.1
      have c3 := (L0.out.cell (p := ⟨b, o + i * 5 + 3, none⟩) HB.out).trans HC5.out.2.2.2.1
      have c4 := (L0.out.cell (p := ⟨b, o + i * 5 + 4, none⟩) HB.out).trans HC5.out.2.2.2.2
      have HM := Lib.hid (turn_no i n HI.out HN.out)
      by_cases hm : (l i).Right
      · have km : (!decide (l i).Right) = false := by rw [decide_eq_true hm]; rfl
        rw [km] at HR
        have HM2 := Lib.hid hm
        clear hm km
        go_wp2_with fail
        refine (HR.out wr).mono ?_; rintro e w1 ⟨rfl, hb1⟩
        have L1 := Lib.hid (bl L0.out hb1)
        clear c0 c1 c2 c3 c4 hb1 HR
        go_wp2_with fail
        go_roundw
        case rel => exact ⟨i + 1, HI.out, HM.out.1, by unfold allR; rw [HS.out, decide_eq_true HM2.out]; rfl, L1.out⟩
        case measure => exact HM.out.2
      · have km : (!decide (l i).Right) = true := by rw [decide_eq_false hm]; rfl
        rw [km] at HR
        have HM2 := Lib.hid hm
        clear hm km
        go_wp2_with fail
        refine (HR.out wr).mono ?_; rintro e w1 ⟨rfl, hb1⟩
        have L1 := Lib.hid (bl L0.out hb1)
        clear c0 c1 c2 c3 c4 hb1 HR
        go_wp2_with fail
        go_ret
        refine ⟨_, rfl, ?_, L1.out⟩
        rw [allR_false HI.out HM2.out]
        exact decide_eq_true ki0
    · obtain rfl : i = n := by omega
      have kd : decide ((i : Int) < (i : Int)) = false := decide_eq_false (by omega)
      go_wp2_with fail
      go_ret
      refine ⟨_, rfl, ?_, L0.out⟩
      rw [HS.out]
      rfl
theorem ContainsFunc_any (v : Value) (n : Nat) (l : Nat → Spot) (w : World) (h : Sps w v n l) :
    Calls Try.prog 54 #[v, .func (.func 55) #[] #[]] w fun e w' => e = .returned (.bool (!allR l n)) ∧ Below w.heap.size w w' := by
  have H := Lib.hid (IndexFunc_any v n l w h)
  clear h
  go_enter Try.func54, Try.ntmps54
  go_wp2_with fail
  refine H.out.mono ?_; rintro e w1 ⟨z, rfl, hz, hb1⟩
  have L1 := Lib.hid hb1
  have HZ := Lib.hid hz
  clear hb1 hz
  go_wp2_with fail
  go_ret
  exact ⟨by rw [← HZ.out]; rfl, L1.out⟩
end Go.Proofs.Ytjdalllfnlpmnaa.Bank
