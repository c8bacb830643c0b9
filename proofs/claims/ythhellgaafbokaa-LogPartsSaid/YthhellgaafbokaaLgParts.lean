/-
  Law 16: LogParts' walk. Printed by wip/tools/mklgp.py. Conditions stand at each. By an AI agent.
-/
import Derived.Test.YthhellgaafbokaaLgW
namespace Go.Proofs.Ythhellgaafbokaa.Lg
set_option linter.unusedVariables false
set_option linter.unusedSimpArgs false
open Go Go.RowKit Go.Proofs.Ythhellgaafbokaa.Base Go.Proofs.Ythhellgaafbokaa.Reg Go.Deep Go.ChangeShapes Go.WideShapes
/-- a slice of states that came in, with its room -/
structure StsC (w : World) (v : Value) (n : Nat) (l : Nat → St) : Prop where
  sts : Sts w v n l
  room : ∃ A c, v = .slice A n c ∧ n ≤ c ∧ c ≤ maxLen
theorem room_of_wide {W : World} {P : Program} {t e : TypeId} {r : Reach} {b : Nat} {v : Value} (hu : P.underlying t = some (.slice e)) (hv : Value.okWide P W r b t v) : ∃ A n c, v = .slice A n c ∧ n ≤ c ∧ c ≤ maxLen := by
  obtain ⟨a0, len, cap, rfl⟩ := okWide_slice hu hv
  refine ⟨a0, len, cap, rfl, ?_⟩
  unfold Value.okWide at hv
  rw [hu] at hv
  simp only at hv
  unfold Cell.okWide Cell.ok at hv
  rw [hu] at hv
  cases a0 with
  | none =>
    simp only at hv
    split at hv <;> simp_all [maxLen]
  | some a =>
    simp only at hv
    exact ⟨hv.1, by have h9 : IntKind.i64.max = 9223372036854775807 := by decide
                    have := hv.2.1; unfold maxLen; omega⟩
set_option maxRecDepth 100000 in
theorem stsC_of_trod {H : Type} {enc : TypeId × Value → H} {W : World} {r : Reach} {b : Nat} {v : Value} {d : DataW H} {p : List MemPlace}
    (hv : Value.okWide Try.prog W r b 22 v) (h : DataW.Trod enc Try.prog W 0 (fun _ => true) true 22 v d p) : ∃ x : Nat × (Nat → St), StsC W v x.1 x.2 := by
  obtain ⟨x, hx⟩ := sts_of_trod hv h
  obtain ⟨A, n, c, rfl, h1, h2⟩ := room_of_wide Try.underlying22 hv
  obtain ⟨A', c', e, _⟩ := hx.form
  simp only [Value.slice.injEq] at e
  obtain ⟨rfl, rfl, rfl⟩ := e
  exact ⟨x, hx, A, c, rfl, h1, h2⟩
theorem Sts.head {w : World} {A : Option Addr} {n c : Nat} {l : Nat → St} (h : Sts w (.slice A n c) n l) {m : Nat} (hm : m ≤ n) (c2 : Nat) : Sts w (.slice A m c2) m l := by
  obtain ⟨A', c', e, hl, hg⟩ := h.form
  simp only [Value.slice.injEq] at e
  obtain ⟨rfl, _, rfl⟩ := e
  refine ⟨⟨A, c2, rfl, by omega, fun h0 => ?_⟩, fun i hi => h.ok i (by omega)⟩
  obtain ⟨b, o, e, hb, hc⟩ := hg (by omega)
  exact ⟨b, o, e, hb, fun i hi => hc i (by omega)⟩
theorem Sts.tail {w : World} {b o n c : Nat} {l : Nat → St} (h : Sts w (.slice (some ⟨b, o, none⟩) n c) n l) {m : Nat} (hm : m < n) (c2 : Nat) : Sts w (.slice (some ⟨b, o + m * 5, none⟩) (n - m) c2) (n - m) (fun i => l (m + i)) := by
  obtain ⟨A', c', e, hl, hg⟩ := h.form
  simp only [Value.slice.injEq] at e
  obtain ⟨rfl, _, rfl⟩ := e
  refine ⟨⟨_, c2, rfl, by omega, fun h0 => ?_⟩, fun i hi => h.ok (m + i) (by omega)⟩
  obtain ⟨b', o', e, hb, hc⟩ := hg (by omega)
  simp only [Option.some.injEq, Addr.mk.injEq, and_true] at e
  obtain ⟨rfl, rfl⟩ := e
  refine ⟨b, o + m * 5, rfl, hb, fun i hi => ?_⟩
  have := hc (m + i) (by omega)
  rw [show o + (m + i) * 5 = o + m * 5 + i * 5 by omega] at this
  exact this
set_option maxRecDepth 100000 in
set_option maxHeartbeats 8000000 in
theorem Parts_a (v : Value) (n m : Nat) (l : Nat → St) (w : World) (h : StsC w v n l) (h100 : n ≤ 100) (hm : 1 ≤ m ∧ m < n) (hsf : ¬ SoundF n l) (ha : ¬ SoundF m l) : Calls Try.prog 4 #[v, .int .i64 m] w fun e w' => e = .returned (.bool true) ∧ Below w.heap.size w w' := by
  obtain ⟨A, c, rfl, hnc, hc⟩ := h.room
  have hs := h.sts
  obtain ⟨A', c', e, hn, hg⟩ := hs.form
  simp only [Value.slice.injEq] at e
  obtain ⟨rfl, _, rfl⟩ := e
  obtain ⟨b, o, rfl, hb, hcell⟩ := hg (by omega)
  have H := Lib.hid hs
  have kd1 : decide ((n : Int) > 100) = false := decide_eq_false (by omega)
  have kd2 : decide ((m : Int) < 1) = false := decide_eq_false (by omega)
  have kd3 : decide ((m : Int) ≥ (n : Int)) = false := decide_eq_false (by omega)
  have kd4 : decide ((n : Int) ≤ (m : Int)) = false := decide_eq_false (by omega)
  obtain ⟨j, hj⟩ : ∃ j, m = j + 1 := ⟨m - 1, by omega⟩
  have hw : wrap64 ((m : Int) - 1) = (j : Int) := by unfold wrap64; unfold maxLen at hn; omega
  have km0 : (0 : Int) ≤ (m : Int) := by omega
  have kj0 : (0 : Int) ≤ (j : Int) := by omega
  have kj1 : (j : Int) < (n : Int) := by omega
  have km1 : (m : Int) < (n : Int) := by omega
  have km2 : (m : Int) ≤ (n : Int) := by omega
  have km3 : (m : Int) ≤ (c : Int) := by omega
  have km4 : (n : Int) ≤ (c : Int) := by omega
  have CM := Lib.hid (hcell m (by omega)).2.2.2.2
  have CJ := Lib.hid (hcell j (by omega)).2.2.2.2
  have HB := Lib.hid hb
  have HMN := Lib.hid (show 0 < m ∧ m < n ∧ m = j + 1 ∧ n ≤ c ∧ n ≤ 100 by omega)
  clear hcell hb hg hnc hc hs h
  have HS := Lib.hid (fun W (hb : Below w.heap.size w W) => Sound_any _ n l W (H.out.below hb))
  have HSA := Lib.hid (fun c2 W (hb : Below w.heap.size w W) => Sound_any _ m l W ((H.out.below hb).head (Nat.le_of_lt HMN.out.2.1) c2))
  have HSB := Lib.hid (fun c2 W (hb : Below w.heap.size w W) => Sound_any _ (n - m) (fun i => l (m + i)) W ((H.out.below hb).tail HMN.out.2.1 c2))
  have HG := Lib.hid (fun W (hb : Below w.heap.size w W) => Gaps_any _ n l W (H.out.below hb))
  have HGA := Lib.hid (fun c2 W (hb : Below w.heap.size w W) => Gaps_any _ m l W ((H.out.below hb).head (Nat.le_of_lt HMN.out.2.1) c2))
  have HGB := Lib.hid (fun c2 W (hb : Below w.heap.size w W) => Gaps_any _ (n - m) (fun i => l (m + i)) W ((H.out.below hb).tail HMN.out.2.1 c2))
  rw [decide_eq_false hsf] at HS
  rw [gapsF_bad hsf] at HG
  rw [decide_eq_false ha] at HSA
  clear hsf ha
  clear hj h100
  go_enter Try.func4, Try.ntmps4
  go_wp2_with fail
  refine (HS.out w (Below.refl _ _)).mono ?_; rintro e w1 ⟨rfl, hb1⟩
  have L1 := Lib.hid hb1
  clear hb1
  go_upto_region 4 with fail
  have hne : Nonempty (Held (Below w1.heap.size w1)) := ⟨⟨w1, Below.refl _ _⟩⟩
  have pm : ∀ y : Held (Below w1.heap.size w1), y.w.cell? ⟨b, o + m * 5 + 4, none⟩ = some (.int .u64 (l m).epoch) := fun y => ((bl L1.out y.ok).cell (p := ⟨b, o + m * 5 + 4, none⟩) HB.out).trans CM.out
  have pj : ∀ y : Held (Below w1.heap.size w1), y.w.cell? ⟨b, o + j * 5 + 4, none⟩ = some (.int .u64 (l j).epoch) := fun y => ((bl L1.out y.ok).cell (p := ⟨b, o + j * 5 + 4, none⟩) HB.out).trans CJ.out
  refine drawn_bars (S := (Below w1.heap.size w1)) [([0], 1), ([2, 3, 4, 5, 6], 7), ([8, 9, 10, 11, 12], 13), ([14, 15, 16, 17, 18, 19, 20, 21, 22, 23, 24, 25, 26, 27, 28, 29, 30, 31], 32)] [33, 34] (by kernel_rfl) (by kernel_rfl) (by kernel_rfl) rfl (Below.refl _ _).drew ?_
  have E0 := Lib.hid (Below.refl w1.heap.size w1).drew
  refine Phased.go ?_
  simp only [pick, List.map_cons, List.map_nil, List.getElem?_cons_zero, List.getElem?_cons_succ, Option.getD_some]
  repeat (go_big_quiet_step (fail))
  refine wpQuiet_nil ?_
  go_wp2_with fail
  refine (HG.out w1.drew (bl L1.out E0.out)).mono ?_; rintro e w2 ⟨rfl, hb2⟩
  have E1 := Lib.hid (bl E0.out hb2)
  clear hb2
  go_wp2_with fail
  refine behind_normal ⟨_, fun W h => h, E1.out, ?_⟩
  refine Phased.go ?_
  simp only [pick, List.map_cons, List.map_nil, List.getElem?_cons_zero, List.getElem?_cons_succ, Option.getD_some]
  repeat (go_big_quiet_step (fail))
  refine wpQuiet_nil ?_
  go_wp2_with fail
  refine (HSA.out _ w2 (bl L1.out E1.out)).mono ?_; rintro e w3 ⟨rfl, hb2⟩
  have E2 := Lib.hid (bl E1.out hb2)
  clear hb2
  go_wp2_with fail
  refine behind_normal ⟨_, fun W h => h, E2.out, ?_⟩
  refine Phased.go ?_
  simp only [pick, List.map_cons, List.map_nil, List.getElem?_cons_zero, List.getElem?_cons_succ, Option.getD_some]
  repeat (go_big_quiet_step (fail))
  refine wpQuiet_nil ?_
  go_wp2_with fail
  refine behind_normal ⟨_, fun W h => h, E2.out, ?_⟩
  refine Phased.go ?_
  simp only [pick, List.map_cons, List.map_nil, List.getElem?_cons_zero, List.getElem?_cons_succ, Option.getD_some]
  repeat (go_big_quiet_step (fail))
  refine wpQuiet_nil ?_
  go_wp2_with fail
  refine (awake_any w3).mono ?_; rintro e w4 ⟨rfl, hb2⟩
  have E3 := Lib.hid (bl E2.out hb2)
  clear hb2
  go_wp2_with fail
  refine behind_normal ⟨_, fun W h => h, E3.out, ?_⟩
  refine Phased.end_ ?_
  clear hne pm pj
  have hne5 : Nonempty (Held (fun W => W = w4)) := ⟨⟨_, rfl⟩⟩
  simp only [pick, List.map_cons, List.map_nil, List.getElem?_cons_zero, List.getElem?_cons_succ, Option.getD_some]
  repeat (go_big_quiet_step (fail))
  refine wpQuiet_nil ?_
  go_wp2_with fail
  go_ret
  exact ⟨rfl, bl L1.out E3.out⟩
set_option maxRecDepth 100000 in
set_option maxHeartbeats 8000000 in
theorem Parts_b (v : Value) (n m : Nat) (l : Nat → St) (w : World) (h : StsC w v n l) (h100 : n ≤ 100) (hm : 1 ≤ m ∧ m < n) (hsf : ¬ SoundF n l) (ha : SoundF m l) (hb : ¬ SoundF (n - m) (fun i => l (m + i))) : Calls Try.prog 4 #[v, .int .i64 m] w fun e w' => e = .returned (.bool true) ∧ Below w.heap.size w w' := by
  obtain ⟨A, c, rfl, hnc, hc⟩ := h.room
  have hs := h.sts
  obtain ⟨A', c', e, hn, hg⟩ := hs.form
  simp only [Value.slice.injEq] at e
  obtain ⟨rfl, _, rfl⟩ := e
  obtain ⟨b, o, rfl, hb, hcell⟩ := hg (by omega)
  have H := Lib.hid hs
  have kd1 : decide ((n : Int) > 100) = false := decide_eq_false (by omega)
  have kd2 : decide ((m : Int) < 1) = false := decide_eq_false (by omega)
  have kd3 : decide ((m : Int) ≥ (n : Int)) = false := decide_eq_false (by omega)
  have kd4 : decide ((n : Int) ≤ (m : Int)) = false := decide_eq_false (by omega)
  obtain ⟨j, hj⟩ : ∃ j, m = j + 1 := ⟨m - 1, by omega⟩
  have hw : wrap64 ((m : Int) - 1) = (j : Int) := by unfold wrap64; unfold maxLen at hn; omega
  have km0 : (0 : Int) ≤ (m : Int) := by omega
  have kj0 : (0 : Int) ≤ (j : Int) := by omega
  have kj1 : (j : Int) < (n : Int) := by omega
  have km1 : (m : Int) < (n : Int) := by omega
  have km2 : (m : Int) ≤ (n : Int) := by omega
  have km3 : (m : Int) ≤ (c : Int) := by omega
  have km4 : (n : Int) ≤ (c : Int) := by omega
  have CM := Lib.hid (hcell m (by omega)).2.2.2.2
  have CJ := Lib.hid (hcell j (by omega)).2.2.2.2
  have HB := Lib.hid hb
  have HMN := Lib.hid (show 0 < m ∧ m < n ∧ m = j + 1 ∧ n ≤ c ∧ n ≤ 100 by omega)
  clear hcell hb hg hnc hc hs h
  have HS := Lib.hid (fun W (hb : Below w.heap.size w W) => Sound_any _ n l W (H.out.below hb))
  have HSA := Lib.hid (fun c2 W (hb : Below w.heap.size w W) => Sound_any _ m l W ((H.out.below hb).head (Nat.le_of_lt HMN.out.2.1) c2))
  have HSB := Lib.hid (fun c2 W (hb : Below w.heap.size w W) => Sound_any _ (n - m) (fun i => l (m + i)) W ((H.out.below hb).tail HMN.out.2.1 c2))
  have HG := Lib.hid (fun W (hb : Below w.heap.size w W) => Gaps_any _ n l W (H.out.below hb))
  have HGA := Lib.hid (fun c2 W (hb : Below w.heap.size w W) => Gaps_any _ m l W ((H.out.below hb).head (Nat.le_of_lt HMN.out.2.1) c2))
  have HGB := Lib.hid (fun c2 W (hb : Below w.heap.size w W) => Gaps_any _ (n - m) (fun i => l (m + i)) W ((H.out.below hb).tail HMN.out.2.1 c2))
  rw [decide_eq_false hsf] at HS
  rw [gapsF_bad hsf] at HG
  rw [decide_eq_true ha] at HSA
  rw [decide_eq_false hb] at HSB
  clear hsf ha hb
  clear hj h100
  go_enter Try.func4, Try.ntmps4
  go_wp2_with fail
  refine (HS.out w (Below.refl _ _)).mono ?_; rintro e w1 ⟨rfl, hb1⟩
  have L1 := Lib.hid hb1
  clear hb1
  go_upto_region 4 with fail
  have hne : Nonempty (Held (Below w1.heap.size w1)) := ⟨⟨w1, Below.refl _ _⟩⟩
  have pm : ∀ y : Held (Below w1.heap.size w1), y.w.cell? ⟨b, o + m * 5 + 4, none⟩ = some (.int .u64 (l m).epoch) := fun y => ((bl L1.out y.ok).cell (p := ⟨b, o + m * 5 + 4, none⟩) HB.out).trans CM.out
  have pj : ∀ y : Held (Below w1.heap.size w1), y.w.cell? ⟨b, o + j * 5 + 4, none⟩ = some (.int .u64 (l j).epoch) := fun y => ((bl L1.out y.ok).cell (p := ⟨b, o + j * 5 + 4, none⟩) HB.out).trans CJ.out
  refine drawn_bars (S := (Below w1.heap.size w1)) [([0], 1), ([2, 3, 4, 5, 6], 7), ([8, 9, 10, 11, 12], 13), ([14, 15, 16, 17, 18, 19, 20, 21, 22, 23, 24, 25, 26, 27, 28, 29, 30, 31], 32)] [33, 34] (by kernel_rfl) (by kernel_rfl) (by kernel_rfl) rfl (Below.refl _ _).drew ?_
  have E0 := Lib.hid (Below.refl w1.heap.size w1).drew
  refine Phased.go ?_
  simp only [pick, List.map_cons, List.map_nil, List.getElem?_cons_zero, List.getElem?_cons_succ, Option.getD_some]
  repeat (go_big_quiet_step (fail))
  refine wpQuiet_nil ?_
  go_wp2_with fail
  refine (HG.out w1.drew (bl L1.out E0.out)).mono ?_; rintro e w2 ⟨rfl, hb2⟩
  have E1 := Lib.hid (bl E0.out hb2)
  clear hb2
  go_wp2_with fail
  refine behind_normal ⟨_, fun W h => h, E1.out, ?_⟩
  refine Phased.go ?_
  simp only [pick, List.map_cons, List.map_nil, List.getElem?_cons_zero, List.getElem?_cons_succ, Option.getD_some]
  repeat (go_big_quiet_step (fail))
  refine wpQuiet_nil ?_
  go_wp2_with fail
  refine (HSA.out _ w2 (bl L1.out E1.out)).mono ?_; rintro e w3 ⟨rfl, hb2⟩
  have E2 := Lib.hid (bl E1.out hb2)
  clear hb2
  go_wp2_with fail
  refine behind_normal ⟨_, fun W h => h, E2.out, ?_⟩
  refine Phased.go ?_
  simp only [pick, List.map_cons, List.map_nil, List.getElem?_cons_zero, List.getElem?_cons_succ, Option.getD_some]
  repeat (go_big_quiet_step (fail))
  refine wpQuiet_nil ?_
  go_wp2_with fail
  refine (HSB.out _ w3 (bl L1.out E2.out)).mono ?_; rintro e w4 ⟨rfl, hb2⟩
  have E3 := Lib.hid (bl E2.out hb2)
  clear hb2
  go_wp2_with fail
  refine behind_normal ⟨_, fun W h => h, E3.out, ?_⟩
  refine Phased.go ?_
  simp only [pick, List.map_cons, List.map_nil, List.getElem?_cons_zero, List.getElem?_cons_succ, Option.getD_some]
  repeat (go_big_quiet_step (fail))
  refine wpQuiet_nil ?_
  go_wp2_with fail
  refine (awake_any w4).mono ?_; rintro e w5 ⟨rfl, hb2⟩
  have E4 := Lib.hid (bl E3.out hb2)
  clear hb2
  go_wp2_with fail
  refine behind_normal ⟨_, fun W h => h, E4.out, ?_⟩
  refine Phased.end_ ?_
  clear hne pm pj
  have hne5 : Nonempty (Held (fun W => W = w5)) := ⟨⟨_, rfl⟩⟩
  simp only [pick, List.map_cons, List.map_nil, List.getElem?_cons_zero, List.getElem?_cons_succ, Option.getD_some]
  repeat (go_big_quiet_step (fail))
  refine wpQuiet_nil ?_
  go_wp2_with fail
  go_ret
  exact ⟨rfl, bl L1.out E4.out⟩
set_option maxRecDepth 100000 in
set_option maxHeartbeats 8000000 in
theorem Parts_c (v : Value) (n m : Nat) (l : Nat → St) (w : World) (h : StsC w v n l) (h100 : n ≤ 100) (hm : 1 ≤ m ∧ m < n) (hsf : ¬ SoundF n l) (ha : SoundF m l) (hb : SoundF (n - m) (fun i => l (m + i))) (hge : (l (m - 1)).epoch ≥ (l m).epoch) : Calls Try.prog 4 #[v, .int .i64 m] w fun e w' => e = .returned (.bool true) ∧ Below w.heap.size w w' := by
  obtain ⟨A, c, rfl, hnc, hc⟩ := h.room
  have hs := h.sts
  obtain ⟨A', c', e, hn, hg⟩ := hs.form
  simp only [Value.slice.injEq] at e
  obtain ⟨rfl, _, rfl⟩ := e
  obtain ⟨b, o, rfl, hb, hcell⟩ := hg (by omega)
  have H := Lib.hid hs
  have kd1 : decide ((n : Int) > 100) = false := decide_eq_false (by omega)
  have kd2 : decide ((m : Int) < 1) = false := decide_eq_false (by omega)
  have kd3 : decide ((m : Int) ≥ (n : Int)) = false := decide_eq_false (by omega)
  have kd4 : decide ((n : Int) ≤ (m : Int)) = false := decide_eq_false (by omega)
  obtain ⟨j, hj⟩ : ∃ j, m = j + 1 := ⟨m - 1, by omega⟩
  have hw : wrap64 ((m : Int) - 1) = (j : Int) := by unfold wrap64; unfold maxLen at hn; omega
  have km0 : (0 : Int) ≤ (m : Int) := by omega
  have kj0 : (0 : Int) ≤ (j : Int) := by omega
  have kj1 : (j : Int) < (n : Int) := by omega
  have km1 : (m : Int) < (n : Int) := by omega
  have km2 : (m : Int) ≤ (n : Int) := by omega
  have km3 : (m : Int) ≤ (c : Int) := by omega
  have km4 : (n : Int) ≤ (c : Int) := by omega
  have CM := Lib.hid (hcell m (by omega)).2.2.2.2
  have CJ := Lib.hid (hcell j (by omega)).2.2.2.2
  have HB := Lib.hid hb
  have HMN := Lib.hid (show 0 < m ∧ m < n ∧ m = j + 1 ∧ n ≤ c ∧ n ≤ 100 by omega)
  clear hcell hb hg hnc hc hs h
  have HS := Lib.hid (fun W (hb : Below w.heap.size w W) => Sound_any _ n l W (H.out.below hb))
  have HSA := Lib.hid (fun c2 W (hb : Below w.heap.size w W) => Sound_any _ m l W ((H.out.below hb).head (Nat.le_of_lt HMN.out.2.1) c2))
  have HSB := Lib.hid (fun c2 W (hb : Below w.heap.size w W) => Sound_any _ (n - m) (fun i => l (m + i)) W ((H.out.below hb).tail HMN.out.2.1 c2))
  have HG := Lib.hid (fun W (hb : Below w.heap.size w W) => Gaps_any _ n l W (H.out.below hb))
  have HGA := Lib.hid (fun c2 W (hb : Below w.heap.size w W) => Gaps_any _ m l W ((H.out.below hb).head (Nat.le_of_lt HMN.out.2.1) c2))
  have HGB := Lib.hid (fun c2 W (hb : Below w.heap.size w W) => Gaps_any _ (n - m) (fun i => l (m + i)) W ((H.out.below hb).tail HMN.out.2.1 c2))
  rw [decide_eq_false hsf] at HS
  rw [gapsF_bad hsf] at HG
  rw [decide_eq_true ha] at HSA
  rw [decide_eq_true hb] at HSB
  have kge : decide ((l j).epoch ≥ (l m).epoch) = true := decide_eq_true (by rw [show j = m - 1 by omega]; exact hge)
  have kge2 : decide ((l m).epoch ≤ (l j).epoch) = true := kge
  clear hsf ha hb hge
  clear hj h100
  go_enter Try.func4, Try.ntmps4
  go_wp2_with fail
  refine (HS.out w (Below.refl _ _)).mono ?_; rintro e w1 ⟨rfl, hb1⟩
  have L1 := Lib.hid hb1
  clear hb1
  go_upto_region 4 with fail
  have hne : Nonempty (Held (Below w1.heap.size w1)) := ⟨⟨w1, Below.refl _ _⟩⟩
  have pm : ∀ y : Held (Below w1.heap.size w1), y.w.cell? ⟨b, o + m * 5 + 4, none⟩ = some (.int .u64 (l m).epoch) := fun y => ((bl L1.out y.ok).cell (p := ⟨b, o + m * 5 + 4, none⟩) HB.out).trans CM.out
  have pj : ∀ y : Held (Below w1.heap.size w1), y.w.cell? ⟨b, o + j * 5 + 4, none⟩ = some (.int .u64 (l j).epoch) := fun y => ((bl L1.out y.ok).cell (p := ⟨b, o + j * 5 + 4, none⟩) HB.out).trans CJ.out
  refine drawn_bars (S := (Below w1.heap.size w1)) [([0], 1), ([2, 3, 4, 5, 6], 7), ([8, 9, 10, 11, 12], 13), ([14, 15, 16, 17, 18, 19, 20, 21, 22, 23, 24, 25, 26, 27, 28, 29, 30, 31], 32)] [33, 34] (by kernel_rfl) (by kernel_rfl) (by kernel_rfl) rfl (Below.refl _ _).drew ?_
  have E0 := Lib.hid (Below.refl w1.heap.size w1).drew
  refine Phased.go ?_
  simp only [pick, List.map_cons, List.map_nil, List.getElem?_cons_zero, List.getElem?_cons_succ, Option.getD_some]
  repeat (go_big_quiet_step (fail))
  refine wpQuiet_nil ?_
  go_wp2_with fail
  refine (HG.out w1.drew (bl L1.out E0.out)).mono ?_; rintro e w2 ⟨rfl, hb2⟩
  have E1 := Lib.hid (bl E0.out hb2)
  clear hb2
  go_wp2_with fail
  refine behind_normal ⟨_, fun W h => h, E1.out, ?_⟩
  refine Phased.go ?_
  simp only [pick, List.map_cons, List.map_nil, List.getElem?_cons_zero, List.getElem?_cons_succ, Option.getD_some]
  repeat (go_big_quiet_step (fail))
  refine wpQuiet_nil ?_
  go_wp2_with fail
  refine (HSA.out _ w2 (bl L1.out E1.out)).mono ?_; rintro e w3 ⟨rfl, hb2⟩
  have E2 := Lib.hid (bl E1.out hb2)
  clear hb2
  go_wp2_with fail
  refine behind_normal ⟨_, fun W h => h, E2.out, ?_⟩
  refine Phased.go ?_
  simp only [pick, List.map_cons, List.map_nil, List.getElem?_cons_zero, List.getElem?_cons_succ, Option.getD_some]
  repeat (go_big_quiet_step (fail))
  refine wpQuiet_nil ?_
  go_wp2_with fail
  refine (HSB.out _ w3 (bl L1.out E2.out)).mono ?_; rintro e w4 ⟨rfl, hb2⟩
  have E3 := Lib.hid (bl E2.out hb2)
  clear hb2
  go_wp2_with fail
  refine behind_normal ⟨_, fun W h => h, E3.out, ?_⟩
  refine Phased.go ?_
  simp only [pick, List.map_cons, List.map_nil, List.getElem?_cons_zero, List.getElem?_cons_succ, Option.getD_some]
  repeat (go_big_quiet_step (fail))
  refine wpQuiet_nil ?_
  go_wp2_with fail
  refine (awake_any w4).mono ?_; rintro e w5 ⟨rfl, hb2⟩
  have E4 := Lib.hid (bl E3.out hb2)
  clear hb2
  go_wp2_with fail
  refine behind_normal ⟨_, fun W h => h, E4.out, ?_⟩
  refine Phased.end_ ?_
  clear hne pm pj
  have hne5 : Nonempty (Held (fun W => W = w5)) := ⟨⟨_, rfl⟩⟩
  simp only [pick, List.map_cons, List.map_nil, List.getElem?_cons_zero, List.getElem?_cons_succ, Option.getD_some]
  repeat (go_big_quiet_step (fail))
  refine wpQuiet_nil ?_
  go_wp2_with fail
  go_ret
  exact ⟨rfl, bl L1.out E4.out⟩
set_option maxRecDepth 100000 in
set_option maxHeartbeats 8000000 in
theorem Parts_good (v : Value) (n m : Nat) (l : Nat → St) (w : World) (h : StsC w v n l) (h100 : n ≤ 100) (hm : 1 ≤ m ∧ m < n) (hsf : SoundF n l) : Calls Try.prog 4 #[v, .int .i64 m] w fun e w' => e = .returned (.bool true) ∧ Below w.heap.size w w' := by
  obtain ⟨A, c, rfl, hnc, hc⟩ := h.room
  have hs := h.sts
  obtain ⟨A', c', e, hn, hg⟩ := hs.form
  simp only [Value.slice.injEq] at e
  obtain ⟨rfl, _, rfl⟩ := e
  obtain ⟨b, o, rfl, hb, hcell⟩ := hg (by omega)
  have H := Lib.hid hs
  have kd1 : decide ((n : Int) > 100) = false := decide_eq_false (by omega)
  have kd2 : decide ((m : Int) < 1) = false := decide_eq_false (by omega)
  have kd3 : decide ((m : Int) ≥ (n : Int)) = false := decide_eq_false (by omega)
  have kd4 : decide ((n : Int) ≤ (m : Int)) = false := decide_eq_false (by omega)
  obtain ⟨j, hj⟩ : ∃ j, m = j + 1 := ⟨m - 1, by omega⟩
  have hw : wrap64 ((m : Int) - 1) = (j : Int) := by unfold wrap64; unfold maxLen at hn; omega
  have km0 : (0 : Int) ≤ (m : Int) := by omega
  have kj0 : (0 : Int) ≤ (j : Int) := by omega
  have kj1 : (j : Int) < (n : Int) := by omega
  have km1 : (m : Int) < (n : Int) := by omega
  have km2 : (m : Int) ≤ (n : Int) := by omega
  have km3 : (m : Int) ≤ (c : Int) := by omega
  have km4 : (n : Int) ≤ (c : Int) := by omega
  have CM := Lib.hid (hcell m (by omega)).2.2.2.2
  have CJ := Lib.hid (hcell j (by omega)).2.2.2.2
  have HB := Lib.hid hb
  have HMN := Lib.hid (show 0 < m ∧ m < n ∧ m = j + 1 ∧ n ≤ c ∧ n ≤ 100 by omega)
  clear hcell hb hg hnc hc hs h
  have HS := Lib.hid (fun W (hb : Below w.heap.size w W) => Sound_any _ n l W (H.out.below hb))
  have HSA := Lib.hid (fun c2 W (hb : Below w.heap.size w W) => Sound_any _ m l W ((H.out.below hb).head (Nat.le_of_lt HMN.out.2.1) c2))
  have HSB := Lib.hid (fun c2 W (hb : Below w.heap.size w W) => Sound_any _ (n - m) (fun i => l (m + i)) W ((H.out.below hb).tail HMN.out.2.1 c2))
  have HG := Lib.hid (fun W (hb : Below w.heap.size w W) => Gaps_any _ n l W (H.out.below hb))
  have HGA := Lib.hid (fun c2 W (hb : Below w.heap.size w W) => Gaps_any _ m l W ((H.out.below hb).head (Nat.le_of_lt HMN.out.2.1) c2))
  have HGB := Lib.hid (fun c2 W (hb : Below w.heap.size w W) => Gaps_any _ (n - m) (fun i => l (m + i)) W ((H.out.below hb).tail HMN.out.2.1 c2))
  have hok := H.out.ok
  have hpa := gapsF_parts ⟨HMN.out.1, HMN.out.2.1⟩ hsf
  have ha := hsf.head (m := m) (Nat.le_of_lt HMN.out.2.1)
  have hb := hsf.tail (m := m) (Nat.le_of_lt HMN.out.2.1)
  have g0 := (gapsF_ok (by omega) hsf)
  have g1 := (gapsF_ok (by omega) ha)
  have g2 := (gapsF_ok (by omega) hb)
  have oj := (hok j (by omega)).epoch
  have om := (hok m (by omega)).epoch
  have o0 := (hok 0 (by omega)).epoch
  have on := (hok (n - 1) (by omega)).epoch
  have kg : (gapsF n l == IntKind.u64.wrap (IntKind.u64.wrap (gapsF m l + IntKind.u64.wrap (IntKind.u64.wrap ((l m).epoch - (l j).epoch) - 1)) + gapsF (n - m) (fun i => l (m + i)))) = true := by
    rw [show m - 1 = j by omega] at hpa
    have e1 : gapsF n l ≤ 18446744073709551615 := by rw [g0.1]; omega
    rw [Bank.u64_wrap_in (x := (l m).epoch - (l j).epoch) (by omega), Bank.u64_wrap_in (x := (l m).epoch - (l j).epoch - 1) (by omega), Bank.u64_wrap_in (x := gapsF m l + ((l m).epoch - (l j).epoch - 1)) (by omega), Bank.u64_wrap_in (by omega)]
    rw [beq_iff_eq]
    omega
  rw [decide_eq_true hsf] at HS
  rw [decide_eq_true ha] at HSA
  rw [decide_eq_true hb] at HSB
  clear hok hpa g0 g1 g2 oj om o0 on ha hb hsf hj h100
  obtain ⟨gn, hgn⟩ : ∃ x, gapsF n l = x := ⟨_, rfl⟩
  obtain ⟨ga, hga⟩ : ∃ x, gapsF m l = x := ⟨_, rfl⟩
  obtain ⟨gb, hgb⟩ : ∃ x, gapsF (n - m) (fun i => l (m + i)) = x := ⟨_, rfl⟩
  rw [hgn] at HG
  rw [hga] at HGA
  rw [hgb] at HGB
  rw [hgn, hga, hgb] at kg
  clear hgn hga hgb
  go_enter Try.func4, Try.ntmps4
  go_wp2_with fail
  refine (HS.out w (Below.refl _ _)).mono ?_; rintro e w1 ⟨rfl, hb1⟩
  have L1 := Lib.hid hb1
  clear hb1
  have cm := (L1.out.cell (p := ⟨b, o + m * 5 + 4, none⟩) HB.out).trans CM.out
  have cj := (L1.out.cell (p := ⟨b, o + j * 5 + 4, none⟩) HB.out).trans CJ.out
  go_wp2_with fail
  go_quiet (fail)
  have L2 := Lib.hid (below_drewN L1.out nq)
  generalize w1.drewN nq = w2 at *
  clear L1
  have L1 := L2
  clear cm cj L2
  go_upto_region 6 with fail
  refine drawn_bars (S := (Below w2.heap.size w2)) [([0, 1, 2], 3), ([4, 5, 6, 7], 8), ([9, 10, 11, 13, 14, 15, 17, 19, 20, 21], 12), ([], 16), ([18], 22), ([23, 24, 25, 26], 27)] [28, 29] (by kernel_rfl) (by kernel_rfl) (by kernel_rfl) rfl (Below.refl _ _).drew ?_
  have hne : Nonempty (Held (Below w2.heap.size w2)) := ⟨⟨w2, Below.refl _ _⟩⟩
  have E0 := Lib.hid (Below.refl w2.heap.size w2).drew
  refine Phased.go ?_
  simp only [pick, List.map_cons, List.map_nil, List.getElem?_cons_zero, List.getElem?_cons_succ, Option.getD_some]
  repeat (go_big_quiet_step (fail))
  refine wpQuiet_nil ?_
  go_wp2_with fail
  refine (HSA.out _ w2.drew (bl L1.out E0.out)).mono ?_; rintro e w3 ⟨rfl, hb2⟩
  have E1 := Lib.hid (bl E0.out hb2)
  clear hb2
  go_wp2_with fail
  refine behind_normal ⟨_, fun W h => h, E1.out, ?_⟩
  refine Phased.go ?_
  simp only [pick, List.map_cons, List.map_nil, List.getElem?_cons_zero, List.getElem?_cons_succ, Option.getD_some]
  repeat (go_big_quiet_step (fail))
  refine wpQuiet_nil ?_
  go_wp2_with fail
  refine (HSB.out _ w3 (bl L1.out E1.out)).mono ?_; rintro e w4 ⟨rfl, hb2⟩
  have E2 := Lib.hid (bl E1.out hb2)
  clear hb2
  go_wp2_with fail
  refine behind_normal ⟨_, fun W h => h, E2.out, ?_⟩
  refine Phased.go ?_
  simp only [pick, List.map_cons, List.map_nil, List.getElem?_cons_zero, List.getElem?_cons_succ, Option.getD_some]
  repeat (go_big_quiet_step (fail))
  refine wpQuiet_nil ?_
  go_wp2_with fail
  refine (HG.out w4 (bl L1.out E2.out)).mono ?_; rintro e w5 ⟨rfl, hb2⟩
  have E3 := Lib.hid (bl E2.out hb2)
  clear hb2
  go_wp2_with fail
  refine behind_normal ⟨_, fun W h => h, E3.out, ?_⟩
  refine Phased.go ?_
  simp only [pick, List.map_cons, List.map_nil, List.getElem?_cons_zero, List.getElem?_cons_succ, Option.getD_some]
  repeat (go_big_quiet_step (fail))
  refine wpQuiet_nil ?_
  go_wp2_with fail
  refine (HGA.out _ w5 (bl L1.out E3.out)).mono ?_; rintro e w6 ⟨rfl, hb2⟩
  have E4 := Lib.hid (bl E3.out hb2)
  clear hb2
  go_wp2_with fail
  refine behind_normal ⟨_, fun W h => h, E4.out, ?_⟩
  refine Phased.go ?_
  simp only [pick, List.map_cons, List.map_nil, List.getElem?_cons_zero, List.getElem?_cons_succ, Option.getD_some]
  repeat (go_big_quiet_step (fail))
  refine wpQuiet_nil ?_
  go_wp2_with fail
  refine (HGB.out _ w6 (bl L1.out E4.out)).mono ?_; rintro e w7 ⟨rfl, hb2⟩
  have E5 := Lib.hid (bl E4.out hb2)
  clear hb2
  go_wp2_with fail
  refine behind_normal ⟨_, fun W h => h, E5.out, ?_⟩
  refine Phased.go ?_
  simp only [pick, List.map_cons, List.map_nil, List.getElem?_cons_zero, List.getElem?_cons_succ, Option.getD_some]
  repeat (go_big_quiet_step (fail))
  refine wpQuiet_nil ?_
  go_wp2_with fail
  refine (awake_any w7).mono ?_; rintro e w8 ⟨rfl, hb2⟩
  have E6 := Lib.hid (bl E5.out hb2)
  clear hb2
  go_wp2_with fail
  refine behind_normal ⟨_, fun W h => h, E6.out, ?_⟩
  refine Phased.end_ ?_
  clear hne
  have hne5 : Nonempty (Held (fun W => W = w8)) := ⟨⟨_, rfl⟩⟩
  simp only [pick, List.map_cons, List.map_nil, List.getElem?_cons_zero, List.getElem?_cons_succ, Option.getD_some]
  repeat (go_big_quiet_step (fail))
  refine wpQuiet_nil ?_
  go_wp2_with fail
  go_ret
  exact ⟨rfl, bl L1.out E6.out⟩
set_option maxRecDepth 100000 in
theorem Parts_out (v : Value) (n : Nat) (at_ : Int) (l : Nat → St) (w : World) (h : StsC w v n l) (ho : n > 100 ∨ at_ < 1 ∨ at_ ≥ n) : Calls Try.prog 4 #[v, .int .i64 at_] w fun e w' => e = .returned (.bool true) ∧ Below w.heap.size w w' := by
  obtain ⟨A, c, rfl, hn, hg⟩ := h.sts.form
  clear h hg hn
  by_cases h1 : n > 100
  · have kd : decide ((n : Int) > 100) = true := decide_eq_true (by omega)
    clear h1 ho
    go_enter Try.func4, Try.ntmps4
    go_wp2_with fail
    refine (awake_any w).mono ?_; rintro e w1 ⟨rfl, hb⟩
    have L1 := Lib.hid hb
    clear hb
    go_wp2_with fail
    go_ret
    exact ⟨rfl, L1.out⟩
  · have kd : decide ((n : Int) > 100) = false := decide_eq_false (by omega)
    by_cases h2 : at_ < 1
    · have kd2 : decide (at_ < 1) = true := decide_eq_true h2
      clear h1 h2 ho
      go_enter Try.func4, Try.ntmps4
      go_wp2_with fail
      refine (awake_any w).mono ?_; rintro e w1 ⟨rfl, hb⟩
      have L1 := Lib.hid hb
      clear hb
      go_wp2_with fail
      go_ret
      exact ⟨rfl, L1.out⟩
    · have kd2 : decide (at_ < 1) = false := decide_eq_false h2
      have kd3 : decide (at_ ≥ (n : Int)) = true := decide_eq_true (by omega)
      have kd4 : decide ((n : Int) ≤ at_) = true := kd3
      clear h1 h2 ho
      go_enter Try.func4, Try.ntmps4
      go_wp2_with fail
      refine (awake_any w).mono ?_; rintro e w1 ⟨rfl, hb⟩
      have L1 := Lib.hid hb
      clear hb
      go_wp2_with fail
      go_ret
      exact ⟨rfl, L1.out⟩
theorem LogParts_law (v : Value) (x : Nat × (Nat → St)) (at_ : Int) (ha : -9223372036854775808 ≤ at_ ∧ at_ ≤ 9223372036854775807) (w : World) (h : StsC w v x.1 x.2) : Calls Try.prog 4 #[v, .int .i64 at_] w fun e w' => e = .returned (.bool true) ∧ Below w.heap.size w w' := by
  obtain ⟨n, l⟩ := x
  simp only at h
  by_cases ho : n > 100 ∨ at_ < 1 ∨ at_ ≥ n
  · exact Parts_out v n at_ l w h ho
  · obtain ⟨m, rfl⟩ : ∃ m : Nat, at_ = m := ⟨at_.toNat, by omega⟩
    have h100 : n ≤ 100 := by omega
    have hm : 1 ≤ m ∧ m < n := by omega
    by_cases hsf : SoundF n l
    · exact Parts_good v n m l w h h100 hm hsf
    · by_cases h1 : SoundF m l
      · by_cases h2 : SoundF (n - m) (fun i => l (m + i))
        · by_cases h3 : (l (m - 1)).epoch ≥ (l m).epoch
          · exact Parts_c v n m l w h h100 hm hsf h1 h2 h3
          · exact absurd (SoundF.join (by omega) h1 h2 (by omega)) hsf
        · exact Parts_b v n m l w h h100 hm hsf h1 h2
      · exact Parts_a v n m l w h h100 hm hsf h1
end Go.Proofs.Ythhellgaafbokaa.Lg
