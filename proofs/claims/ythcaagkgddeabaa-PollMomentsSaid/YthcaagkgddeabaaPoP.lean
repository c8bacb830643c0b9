/-
  Law 12: whether subscriptions and spots go together. Printed by wip/tools/mkpop.py. Conditions stand at each. By an AI agent.
-/
import Derived.Test.YthcaagkgddeabaaPoO
import Derived.Deep.CutRange
namespace Go.Proofs.Ythcaagkgddeabaa.Bank
set_option linter.unusedVariables false
set_option linter.unusedSimpArgs false
open Go Go.RowKit Go.Proofs.Ythcaagkgddeabaa.Base Go.Deep Go.ChangeShapes Go.WideShapes Go.Proofs.Ythcaagkgddeabaa.Queue
/-- subscriptions, whose capacity is at least as great as their number -/
structure SubsC (w : World) (v : Value) (n : Nat) (l : Nat → Queue.Sub) : Prop where
  subs : Queue.Subs w v n l
  cap : ∃ A c, v = .slice A n c ∧ n ≤ c
theorem SubsC.below {w w' : World} {v : Value} {n : Nat} {l : Nat → Queue.Sub} (h : SubsC w v n l) (hb : Below w.heap.size w w') : SubsC w' v n l := ⟨subs_below h.subs hb, h.cap⟩
/-- two subscriptions of one topic lie at one spot, two of others at others -/
def PairOk (l : Nat → Queue.Sub) (s : Nat → Spot) (i k : Nat) : Prop := ((l i).topic = (l k).topic → s i = s k) ∧ ((l i).topic ≠ (l k).topic → (s i).seq ≠ (s k).seq)
def OneOk (l : Nat → Queue.Sub) (s : Nat → Spot) (i : Nat) : Prop := (s i).AtOk ∧ (l i).cur.cap ≤ (s i).depth - 1 ∧ (l i).cur.Right ∧ ∀ k, k < i → PairOk l s i k
def Fits (n m : Nat) (l : Nat → Queue.Sub) (s : Nat → Spot) : Prop := n ≠ 0 ∧ n = m ∧ ∀ i, i < n → OneOk l s i
theorem at0 {s : Spot} (h : s.AtOk) : atF s 0 = s.first := by
  rw [atF_ok h]
  simp
set_option maxRecDepth 100000 in
set_option maxHeartbeats 16000000 in
theorem fits_any (v1 v2 : Value) (n m : Nat) (l : Nat → Queue.Sub) (s : Nat → Spot) (w : World) (hl : SubsC w v1 n l) (hs : Sps w v2 m s) :
    Calls Try.prog 43 #[v1, v2] w fun e w' => ∃ qb : Bool, e = .returned (.bool qb) ∧ (qb = true ↔ Fits n m l s) ∧ Below w.heap.size w w' := by
  obtain ⟨A1, c1, hv1, hcap⟩ := hl.cap
  obtain ⟨A1', c1', hv1', hn, hg⟩ := hl.subs.form
  rw [hv1] at hv1'
  simp only [Value.slice.injEq, true_and] at hv1'
  obtain ⟨rfl, rfl⟩ := hv1'
  subst hv1
  obtain ⟨A2, c2, rfl, hm, hg2⟩ := hs.form
  have HG := Lib.hid hg
  have HG2 := Lib.hid hg2
  have HOK := Lib.hid hl.subs.ok
  have HN := Lib.hid (show n ≤ maxLen from hn)
  have HCAP := Lib.hid hcap
  by_cases h0 : n = 0
  · subst h0
    have hf : ¬ Fits 0 m l s := fun h => h.1 rfl
    have HF := Lib.hid hf
    have kz : (((0 : Nat) : Int) == 0) = true := rfl
    clear hl hs hcap hn hg hm hg2 hf
    go_enter Try.func43, Try.ntmps43
    go_wp2_with fail
    go_ret
    exact ⟨false, rfl, ⟨fun h => (by cases h), fun h => absurd h HF.out⟩, Below.refl _ _⟩
  have kz : ((n : Int) == 0) = false := by simpa using h0
  by_cases hnm : n = m
  rotate_left
  · have HF := Lib.hid (show ¬ Fits n m l s from fun h => hnm h.2.1)
    have ky : ((n : Int) != (m : Int)) = true := bne_iff_ne.2 (by omega)
    clear hl hs hcap hn hg hm hg2 h0 hnm
    go_enter Try.func43, Try.ntmps43
    go_wp2_with fail
    go_ret
    exact ⟨false, rfl, ⟨fun h => (by cases h), fun h => absurd h HF.out⟩, Below.refl _ _⟩
  subst hnm
  have ky : ((n : Int) != (n : Int)) = false := by simp
  have HF := Lib.hid (show (∀ i, i < n → OneOk l s i) → Fits n n l s from fun h => ⟨h0, rfl, h⟩)
  have HNF := Lib.hid (show ∀ i, i < n → ¬ OneOk l s i → ¬ Fits n n l s from fun i hi h hf => h (hf.2.2 i hi))
  have HPOS := Lib.hid (show 0 < n by omega)
  clear hl hs hcap hn hg hm hg2 h0
  obtain ⟨b, off, rfl, hb, hc⟩ := HG.out HPOS.out
  obtain ⟨b2, off2, rfl, hb2, hc2⟩ := HG2.out HPOS.out
  have HB := Lib.hid (And.intro hb hb2)
  have HC := Lib.hid hc
  have HC2 := Lib.hid hc2
  clear hb hb2 hc hc2 HG HG2
  go_enter Try.func43, Try.ntmps43
  go_wp2_with fail
  clear kz ky
  go_loopw [5, 6, 7, 8, 9, 10, 23] (fun s5 s6 s7 s8 s9 s10 s23 wr => ∃ i : Nat, i ≤ n ∧ s23 = .int .i64 i ∧ (∀ j, j < i → OneOk l s j) ∧ Below w.heap.size w wr) (fun s5 s6 s7 s8 s9 s10 s23 _ => n - (intOf s23).toNat)
  case atStart => exact ⟨0, by omega, rfl, fun j hj => absurd hj (by omega), Below.refl _ _⟩
  case round =>
    obtain ⟨i, hi, rfl, hs, hl⟩ := hrel
    have HS := Lib.hid hs
    have L0 := Lib.hid hl
    clear hs hl
    by_cases hlt : i < n
    rotate_left
    · obtain rfl : i = n := by omega
      have kd : decide ((i : Int) < (i : Int)) = false := decide_eq_false (by omega)
      go_wp2_with fail
      go_ret
      exact ⟨true, rfl, ⟨fun _ => HF.out HS.out, fun _ => rfl⟩, L0.out⟩
    have kd : decide ((i : Int) < (n : Int)) = true := decide_eq_true (by omega)
    have ki0 : (0 : Int) ≤ (i : Int) := by omega
    have ki1 : (i : Int) < (n : Int) := by omega
    have HI := Lib.hid hlt
    have HM := Lib.hid (turn_no i n hlt HN.out)
    clear hi hlt
    have HX := Lib.hid (HC.out i HI.out)
    have HY := Lib.hid (HC2.out i HI.out)
    have x0 := (L0.out.cell (p := ⟨b, off + i * 6, none⟩) HB.out.1).trans HX.out.1
    have x1 := (L0.out.cell (p := ⟨b, off + i * 6 + 1, none⟩) HB.out.1).trans HX.out.2.1
    have x2 := (L0.out.cell (p := ⟨b, off + i * 6 + 2, none⟩) HB.out.1).trans HX.out.2.2.1
    have x3 := (L0.out.cell (p := ⟨b, off + i * 6 + 3, none⟩) HB.out.1).trans HX.out.2.2.2.1
    have x4 := (L0.out.cell (p := ⟨b, off + i * 6 + 4, none⟩) HB.out.1).trans HX.out.2.2.2.2.1
    have x5 := (L0.out.cell (p := ⟨b, off + i * 6 + 5, none⟩) HB.out.1).trans HX.out.2.2.2.2.2
    go_upto_region 6 with fail
    clear x0 x1 x2 x3 x4 x5
    have hn := Blk.new wr 46 #[.int .i64 (l i).topic, .int .i64 (l i).rank, .int .u64 (l i).cur.next, .int .i64 (l i).cur.cap, .int .u64 (l i).cur.got, .int .u64 (l i).cur.lost]
    have hb := (Below.refl wr.heap.size wr).alloc (Nat.le_refl _) (.cells #[.int .i64 (l i).topic, .int .i64 (l i).rank, .int .u64 (l i).cur.next, .int .i64 (l i).cur.cap, .int .u64 (l i).cur.got, .int .u64 (l i).cur.lost] 46)
    obtain ⟨xb, hxb⟩ : ∃ xb, wr.heap.size = xb := ⟨_, rfl⟩
    simp only [hxb] at hn ⊢
    generalize wr.alloc (.cells #[.int .i64 (l i).topic, .int .i64 (l i).rank, .int .u64 (l i).cur.next, .int .i64 (l i).cur.cap, .int .u64 (l i).cur.got, .int .u64 (l i).cur.lost] 46) = w1 at *
    have XB := Lib.hid hn
    have L1 := Lib.hid (bl L0.out hb)
    clear hn hb hxb
    have hne : Nonempty (Held (Below w1.heap.size w1)) := ⟨⟨w1, Below.refl _ _⟩⟩
    have p3 : ∀ y : Held (Below w1.heap.size w1), y.w.cell? ⟨xb, 3, none⟩ = some (.int .i64 (l i).cur.cap) := fun y => (XB.out.bl y.ok).cell 3
    have q0 : ∀ y : Held (Below w1.heap.size w1), y.w.cell? ⟨b2, off2 + i * 5, none⟩ = some (.int .i64 (s i).owners) := fun y => ((L1.out.trans (y.ok.mono L1.out.size)).cell (p := ⟨b2, off2 + i * 5, none⟩) HB.out.2).trans HY.out.1
    have q1 : ∀ y : Held (Below w1.heap.size w1), y.w.cell? ⟨b2, off2 + i * 5 + 1, none⟩ = some (.int .i64 (s i).seq) := fun y => ((L1.out.trans (y.ok.mono L1.out.size)).cell (p := ⟨b2, off2 + i * 5 + 1, none⟩) HB.out.2).trans HY.out.2.1
    have q2 : ∀ y : Held (Below w1.heap.size w1), y.w.cell? ⟨b2, off2 + i * 5 + 2, none⟩ = some (.int .i64 (s i).first) := fun y => ((L1.out.trans (y.ok.mono L1.out.size)).cell (p := ⟨b2, off2 + i * 5 + 2, none⟩) HB.out.2).trans HY.out.2.2.1
    have q3 : ∀ y : Held (Below w1.heap.size w1), y.w.cell? ⟨b2, off2 + i * 5 + 3, none⟩ = some (.int .i64 (s i).words) := fun y => ((L1.out.trans (y.ok.mono L1.out.size)).cell (p := ⟨b2, off2 + i * 5 + 3, none⟩) HB.out.2).trans HY.out.2.2.2.1
    have q4 : ∀ y : Held (Below w1.heap.size w1), y.w.cell? ⟨b2, off2 + i * 5 + 4, none⟩ = some (.int .i64 (s i).depth) := fun y => ((L1.out.trans (y.ok.mono L1.out.size)).cell (p := ⟨b2, off2 + i * 5 + 4, none⟩) HB.out.2).trans HY.out.2.2.2.2
    by_cases hat : (s i).AtOk
    rotate_left
    · have HBAD := Lib.hid (show ¬ OneOk l s i from fun h => hat h.1)
      have HAT := Lib.hid (fun W => At_out (s i) 0 W hat)
      unfold Spot.val at HAT
      clear hat
      have k1 : decide ((-1 : Int) < 0) = true := rfl
      refine drawn_bars (S := (Below w1.heap.size w1)) [([0, 1, 2, 3], 4)] [5, 6, 7, 8, 9, 10, 11, 12, 13, 14, 15, 16, 17] (by kernel_rfl) (by kernel_rfl) (by kernel_rfl) rfl (Below.refl _ _).drew ?_
      refine Phased.go ?_
      simp only [pick, List.map_cons, List.map_nil, List.getElem?_cons_zero, List.getElem?_cons_succ, Option.getD_some]
      repeat (go_big_quiet_step (fail))
      refine wpQuiet_nil ?_
      have hbd : Below w1.heap.size w1 w1.drew := (Below.refl _ _).drew
      go_wp2_with fail
      refine (HAT.out _).mono ?_; rintro e w2 ⟨rfl, hb3⟩
      have hb4 := bl hbd hb3
      clear hb3 hbd
      go_wp2_with fail
      refine behind_normal ⟨(Below w1.heap.size w1), fun W h => h, hb4, ?_⟩
      refine Phased.end_ ?_
      have hne4 : Nonempty (Held (fun W => W = w2)) := ⟨⟨_, rfl⟩⟩
      have p3' : ∀ y : Held (fun W => W = w2), y.w.cell? ⟨xb, 3, none⟩ = some (.int .i64 (l i).cur.cap) := fun y => by rw [y.ok]; exact p3 ⟨w2, hb4⟩
      have q0' : ∀ y : Held (fun W => W = w2), y.w.cell? ⟨b2, off2 + i * 5, none⟩ = some (.int .i64 (s i).owners) := fun y => by rw [y.ok]; exact q0 ⟨w2, hb4⟩
      have q1' : ∀ y : Held (fun W => W = w2), y.w.cell? ⟨b2, off2 + i * 5 + 1, none⟩ = some (.int .i64 (s i).seq) := fun y => by rw [y.ok]; exact q1 ⟨w2, hb4⟩
      have q2' : ∀ y : Held (fun W => W = w2), y.w.cell? ⟨b2, off2 + i * 5 + 2, none⟩ = some (.int .i64 (s i).first) := fun y => by rw [y.ok]; exact q2 ⟨w2, hb4⟩
      have q3' : ∀ y : Held (fun W => W = w2), y.w.cell? ⟨b2, off2 + i * 5 + 3, none⟩ = some (.int .i64 (s i).words) := fun y => by rw [y.ok]; exact q3 ⟨w2, hb4⟩
      have q4' : ∀ y : Held (fun W => W = w2), y.w.cell? ⟨b2, off2 + i * 5 + 4, none⟩ = some (.int .i64 (s i).depth) := fun y => by rw [y.ok]; exact q4 ⟨w2, hb4⟩
      simp only [pick, List.map_cons, List.map_nil, List.getElem?_cons_zero, List.getElem?_cons_succ, Option.getD_some]
      repeat (go_big_quiet_step (fail))
      refine wpQuiet_nil ?_
      have L2 := Lib.hid (bl L1.out hb4)
      have XB2 := Lib.hid (XB.out.bl hb4)
      clear hne hne4 p3 q0 q1 q2 q3 q4 p3' q0' q1' q2' q3' q4' hb4
      go_wp2_with fail
      go_ret
      exact ⟨false, rfl, ⟨fun h => (by cases h), fun h => absurd h (HNF.out i HI.out HBAD.out)⟩, L2.out⟩
    have HAOK := Lib.hid hat
    have HAT := Lib.hid (fun W => At_any (s i) 0 W ⟨by decide, by decide⟩ hat)
    rw [at0 hat] at HAT
    unfold Spot.val at HAT
    have k1 : decide ((s i).first < 0) = false := decide_eq_false (by have := hat.2.2; omega)
    have kw : wrap64 ((s i).depth - 1) = (s i).depth - 1 := wrap64_in _ (by have := hat.2.1; omega)
    clear hat
    by_cases hcp : (l i).cur.cap ≤ (s i).depth - 1
    rotate_left
    · have HBAD := Lib.hid (show ¬ OneOk l s i from fun h => hcp h.2.1)
      have k2 : decide ((l i).cur.cap > (s i).depth - 1) = true := decide_eq_true (by omega)
      clear hcp
      refine drawn_bars (S := (Below w1.heap.size w1)) [([0, 1, 2, 3], 4)] [5, 6, 7, 8, 9, 10, 11, 12, 13, 14, 15, 16, 17] (by kernel_rfl) (by kernel_rfl) (by kernel_rfl) rfl (Below.refl _ _).drew ?_
      refine Phased.go ?_
      simp only [pick, List.map_cons, List.map_nil, List.getElem?_cons_zero, List.getElem?_cons_succ, Option.getD_some]
      repeat (go_big_quiet_step (fail))
      refine wpQuiet_nil ?_
      have hbd : Below w1.heap.size w1 w1.drew := (Below.refl _ _).drew
      go_wp2_with fail
      refine (HAT.out _).mono ?_; rintro e w2 ⟨rfl, hb3⟩
      have hb4 := bl hbd hb3
      clear hb3 hbd
      go_wp2_with fail
      refine behind_normal ⟨(Below w1.heap.size w1), fun W h => h, hb4, ?_⟩
      refine Phased.end_ ?_
      have hne4 : Nonempty (Held (fun W => W = w2)) := ⟨⟨_, rfl⟩⟩
      have p3' : ∀ y : Held (fun W => W = w2), y.w.cell? ⟨xb, 3, none⟩ = some (.int .i64 (l i).cur.cap) := fun y => by rw [y.ok]; exact p3 ⟨w2, hb4⟩
      have q0' : ∀ y : Held (fun W => W = w2), y.w.cell? ⟨b2, off2 + i * 5, none⟩ = some (.int .i64 (s i).owners) := fun y => by rw [y.ok]; exact q0 ⟨w2, hb4⟩
      have q1' : ∀ y : Held (fun W => W = w2), y.w.cell? ⟨b2, off2 + i * 5 + 1, none⟩ = some (.int .i64 (s i).seq) := fun y => by rw [y.ok]; exact q1 ⟨w2, hb4⟩
      have q2' : ∀ y : Held (fun W => W = w2), y.w.cell? ⟨b2, off2 + i * 5 + 2, none⟩ = some (.int .i64 (s i).first) := fun y => by rw [y.ok]; exact q2 ⟨w2, hb4⟩
      have q3' : ∀ y : Held (fun W => W = w2), y.w.cell? ⟨b2, off2 + i * 5 + 3, none⟩ = some (.int .i64 (s i).words) := fun y => by rw [y.ok]; exact q3 ⟨w2, hb4⟩
      have q4' : ∀ y : Held (fun W => W = w2), y.w.cell? ⟨b2, off2 + i * 5 + 4, none⟩ = some (.int .i64 (s i).depth) := fun y => by rw [y.ok]; exact q4 ⟨w2, hb4⟩
      simp only [pick, List.map_cons, List.map_nil, List.getElem?_cons_zero, List.getElem?_cons_succ, Option.getD_some]
      repeat (go_big_quiet_step (fail))
      refine wpQuiet_nil ?_
      have L2 := Lib.hid (bl L1.out hb4)
      have XB2 := Lib.hid (XB.out.bl hb4)
      clear hne hne4 p3 q0 q1 q2 q3 q4 p3' q0' q1' q2' q3' q4' hb4
      go_wp2_with fail
      go_ret
      exact ⟨false, rfl, ⟨fun h => (by cases h), fun h => absurd h (HNF.out i HI.out HBAD.out)⟩, L2.out⟩
    have HCP := Lib.hid hcp
    have k2 : decide ((l i).cur.cap > (s i).depth - 1) = false := decide_eq_false (by omega)
    clear hcp
    refine drawn_bars (S := (Below w1.heap.size w1)) [([0, 1, 2, 3], 4)] [5, 6, 7, 8, 9, 10, 11, 12, 13, 14, 15, 16, 17] (by kernel_rfl) (by kernel_rfl) (by kernel_rfl) rfl (Below.refl _ _).drew ?_
    refine Phased.go ?_
    simp only [pick, List.map_cons, List.map_nil, List.getElem?_cons_zero, List.getElem?_cons_succ, Option.getD_some]
    repeat (go_big_quiet_step (fail))
    refine wpQuiet_nil ?_
    have hbd : Below w1.heap.size w1 w1.drew := (Below.refl _ _).drew
    go_wp2_with fail
    refine (HAT.out _).mono ?_; rintro e w2 ⟨rfl, hb3⟩
    have hb4 := bl hbd hb3
    clear hb3 hbd
    go_wp2_with fail
    refine behind_normal ⟨(Below w1.heap.size w1), fun W h => h, hb4, ?_⟩
    refine Phased.end_ ?_
    have hne4 : Nonempty (Held (fun W => W = w2)) := ⟨⟨_, rfl⟩⟩
    have p3' : ∀ y : Held (fun W => W = w2), y.w.cell? ⟨xb, 3, none⟩ = some (.int .i64 (l i).cur.cap) := fun y => by rw [y.ok]; exact p3 ⟨w2, hb4⟩
    have q0' : ∀ y : Held (fun W => W = w2), y.w.cell? ⟨b2, off2 + i * 5, none⟩ = some (.int .i64 (s i).owners) := fun y => by rw [y.ok]; exact q0 ⟨w2, hb4⟩
    have q1' : ∀ y : Held (fun W => W = w2), y.w.cell? ⟨b2, off2 + i * 5 + 1, none⟩ = some (.int .i64 (s i).seq) := fun y => by rw [y.ok]; exact q1 ⟨w2, hb4⟩
    have q2' : ∀ y : Held (fun W => W = w2), y.w.cell? ⟨b2, off2 + i * 5 + 2, none⟩ = some (.int .i64 (s i).first) := fun y => by rw [y.ok]; exact q2 ⟨w2, hb4⟩
    have q3' : ∀ y : Held (fun W => W = w2), y.w.cell? ⟨b2, off2 + i * 5 + 3, none⟩ = some (.int .i64 (s i).words) := fun y => by rw [y.ok]; exact q3 ⟨w2, hb4⟩
    have q4' : ∀ y : Held (fun W => W = w2), y.w.cell? ⟨b2, off2 + i * 5 + 4, none⟩ = some (.int .i64 (s i).depth) := fun y => by rw [y.ok]; exact q4 ⟨w2, hb4⟩
    simp only [pick, List.map_cons, List.map_nil, List.getElem?_cons_zero, List.getElem?_cons_succ, Option.getD_some]
    repeat (go_big_quiet_step (fail))
    refine wpQuiet_nil ?_
    have L2 := Lib.hid (bl L1.out hb4)
    have XB2 := Lib.hid (XB.out.bl hb4)
    clear hne hne4 p3 q0 q1 q2 q3 q4 p3' q0' q1' q2' q3' q4' hb4
    clear k1 k2 kw
    have HSE := Lib.hid (fun W => See_any (l i).cur 0 (HOK.out i HI.out).cur ⟨by decide, by decide⟩ W)
    unfold Cur.val at HSE
    have c2 := XB2.out.cell 2
    have c3 := XB2.out.cell 3
    have c4 := XB2.out.cell 4
    have c5 := XB2.out.cell 5
    simp only [List.getElem?_toArray, List.getElem?_cons_zero, List.getElem?_cons_succ] at c2 c3 c4 c5
    go_wp2_with fail
    refine (HSE.out _).mono ?_; rintro e w3 ⟨rfl, hb5⟩
    have L3 := Lib.hid (bl L2.out hb5)
    have XB3 := Lib.hid (XB2.out.bl hb5)
    clear hb5 HSE c2 c3 c4 c5
    by_cases hr : (l i).cur.Right
    rotate_left
    · have HBAD := Lib.hid (show ¬ OneOk l s i from fun h => hr h.2.2.1)
      have he : mayE (l i).cur 0 = 1 := by unfold mayE; rw [if_neg hr]
      rw [he]
      clear he hr
      have k3 : ((1 : Int) != 0) = true := rfl
      obtain ⟨d, hd⟩ : ∃ d, seeC (l i).cur 0 = d := ⟨_, rfl⟩
      rw [hd]
      clear hd
      have L4 := Lib.hid (L3.out.alloc L3.out.size (.cells #[.int .u64 d.next, .int .i64 d.cap, .int .u64 d.got, .int .u64 d.lost] 44))
      go_wp2_with fail
      go_ret
      exact ⟨false, rfl, ⟨fun h => (by cases h), fun h => absurd h (HNF.out i HI.out HBAD.out)⟩, L4.out⟩
    have HR := Lib.hid hr
    have he : mayE (l i).cur 0 = 0 := by unfold mayE; rw [if_pos hr, if_pos (by decide)]
    rw [he]
    clear he hr
    have k3 : ((0 : Int) != 0) = false := rfl
    obtain ⟨d, hd⟩ : ∃ d, seeC (l i).cur 0 = d := ⟨_, rfl⟩
    rw [hd]
    clear hd
    have k4 : (i : Int) ≤ (c1 : Int) := by have := HCAP.out; have := HI.out; omega
    have k5 : i ≤ c1 := by omega
    have hb6 := (Below.refl w3.heap.size w3).alloc (Nat.le_refl _) (.cells #[.int .u64 d.next, .int .i64 d.cap, .int .u64 d.got, .int .u64 d.lost] 44)
    have L4 := Lib.hid (bl L3.out hb6)
    have XB4 := Lib.hid (XB3.out.bl hb6)
    clear hb6
    go_wp2_with fail
    generalize w3.alloc (.cells #[.int .u64 d.next, .int .i64 d.cap, .int .u64 d.got, .int .u64 d.lost] 44) = w4 at *
    go_loopw [9, 10, 58] (fun s9 s10 s58 wq => ∃ k : Nat, k ≤ i ∧ s58 = .int .i64 k ∧ (∀ j, j < k → PairOk l s i j) ∧ Below w4.heap.size w4 wq) (fun s9 s10 s58 _ => i - (intOf s58).toNat)
    case atStart => exact ⟨0, by omega, rfl, fun j hj => absurd hj (by omega), Below.refl _ _⟩
    case round =>
      obtain ⟨k, hk, rfl, hps, hl5⟩ := hrel
      have HPS := Lib.hid hps
      have M0 := Lib.hid hl5
      clear hps hl5
      by_cases hlt2 : k < i
      rotate_left
      · obtain rfl : k = i := by omega
        have kd2 : decide ((k : Int) < (k : Int)) = false := decide_eq_false (by omega)
        have HONE := Lib.hid (show OneOk l s k from ⟨HAOK.out, HCP.out, HR.out, HPS.out⟩)
        have L9 := Lib.hid (bl L4.out M0.out)
        clear k3 k4 k5
        go_wp2_with fail
        go_roundw
        case rel => exact ⟨k + 1, HI.out, HM.out.1, fun j hj => by
          by_cases e : j = k
          · rw [e]; exact HONE.out
          · exact HS.out j (by omega), L9.out⟩
        case measure => exact HM.out.2
      have kd2 : decide ((k : Int) < (i : Int)) = true := decide_eq_true (by omega)
      have kk0 : (0 : Int) ≤ (k : Int) := by omega
      have kk1 : (k : Int) < (i : Int) := by omega
      have kk2 : (k : Int) < (n : Int) := by omega
      have HK := Lib.hid hlt2
      have HKN := Lib.hid (show k < n by have := HI.out; omega)
      have HM2 := Lib.hid (turn_no k i hlt2 (by have := HN.out; have := HI.out; omega))
      clear hk hlt2
      have HX2 := Lib.hid (HC.out k HKN.out)
      have HY2 := Lib.hid (HC2.out k HKN.out)
      have M1 := Lib.hid (bl L4.out M0.out)
      have x0 := (M1.out.cell (p := ⟨b, off + k * 6, none⟩) HB.out.1).trans HX2.out.1
      have x1 := (M1.out.cell (p := ⟨b, off + k * 6 + 1, none⟩) HB.out.1).trans HX2.out.2.1
      have x2 := (M1.out.cell (p := ⟨b, off + k * 6 + 2, none⟩) HB.out.1).trans HX2.out.2.2.1
      have x3 := (M1.out.cell (p := ⟨b, off + k * 6 + 3, none⟩) HB.out.1).trans HX2.out.2.2.2.1
      have x4 := (M1.out.cell (p := ⟨b, off + k * 6 + 4, none⟩) HB.out.1).trans HX2.out.2.2.2.2.1
      have x5 := (M1.out.cell (p := ⟨b, off + k * 6 + 5, none⟩) HB.out.1).trans HX2.out.2.2.2.2.2
      clear k3 k4 k5
      go_upto_region 14 with fail
      clear x0 x1 x2 x3 x4 x5
      have hn := Blk.new wr 46 #[.int .i64 (l k).topic, .int .i64 (l k).rank, .int .u64 (l k).cur.next, .int .i64 (l k).cur.cap, .int .u64 (l k).cur.got, .int .u64 (l k).cur.lost]
      have hb := (Below.refl wr.heap.size wr).alloc (Nat.le_refl _) (.cells #[.int .i64 (l k).topic, .int .i64 (l k).rank, .int .u64 (l k).cur.next, .int .i64 (l k).cur.cap, .int .u64 (l k).cur.got, .int .u64 (l k).cur.lost] 46)
      obtain ⟨yb, hyb⟩ : ∃ yb, wr.heap.size = yb := ⟨_, rfl⟩
      simp only [hyb] at hn ⊢
      have M2 := Lib.hid (bl M1.out hb)
      have M3 := Lib.hid (bl M0.out hb)
      have XB5 := Lib.hid (XB4.out.bl M3.out)
      generalize wr.alloc (.cells #[.int .i64 (l k).topic, .int .i64 (l k).rank, .int .u64 (l k).cur.next, .int .i64 (l k).cur.cap, .int .u64 (l k).cur.got, .int .u64 (l k).cur.lost] 46) = w5 at *
      have YB := Lib.hid hn
      clear hn hb hyb
      have hne : Nonempty (Held (fun W => W = w5.drew)) := ⟨⟨_, rfl⟩⟩
      have px : ∀ y : Held (fun W => W = w5.drew), y.w.cell? ⟨xb, 0, none⟩ = some (.int .i64 (l i).topic) := fun y => by rw [y.ok]; exact XB5.out.cell 0
      have py : ∀ y : Held (fun W => W = w5.drew), y.w.cell? ⟨yb, 0, none⟩ = some (.int .i64 (l k).topic) := fun y => by rw [y.ok]; exact YB.out.cell 0
      have qi0 : ∀ y : Held (fun W => W = w5.drew), y.w.cell? ⟨b2, off2 + i * 5, none⟩ = some (.int .i64 (s i).owners) := fun y => by rw [y.ok]; exact (M2.out.cell (p := ⟨b2, off2 + i * 5, none⟩) HB.out.2).trans HY.out.1
      have qi1 : ∀ y : Held (fun W => W = w5.drew), y.w.cell? ⟨b2, off2 + i * 5 + 1, none⟩ = some (.int .i64 (s i).seq) := fun y => by rw [y.ok]; exact (M2.out.cell (p := ⟨b2, off2 + i * 5 + 1, none⟩) HB.out.2).trans HY.out.2.1
      have qi2 : ∀ y : Held (fun W => W = w5.drew), y.w.cell? ⟨b2, off2 + i * 5 + 2, none⟩ = some (.int .i64 (s i).first) := fun y => by rw [y.ok]; exact (M2.out.cell (p := ⟨b2, off2 + i * 5 + 2, none⟩) HB.out.2).trans HY.out.2.2.1
      have qi3 : ∀ y : Held (fun W => W = w5.drew), y.w.cell? ⟨b2, off2 + i * 5 + 3, none⟩ = some (.int .i64 (s i).words) := fun y => by rw [y.ok]; exact (M2.out.cell (p := ⟨b2, off2 + i * 5 + 3, none⟩) HB.out.2).trans HY.out.2.2.2.1
      have qi4 : ∀ y : Held (fun W => W = w5.drew), y.w.cell? ⟨b2, off2 + i * 5 + 4, none⟩ = some (.int .i64 (s i).depth) := fun y => by rw [y.ok]; exact (M2.out.cell (p := ⟨b2, off2 + i * 5 + 4, none⟩) HB.out.2).trans HY.out.2.2.2.2
      have qk0 : ∀ y : Held (fun W => W = w5.drew), y.w.cell? ⟨b2, off2 + k * 5, none⟩ = some (.int .i64 (s k).owners) := fun y => by rw [y.ok]; exact (M2.out.cell (p := ⟨b2, off2 + k * 5, none⟩) HB.out.2).trans HY2.out.1
      have qk1 : ∀ y : Held (fun W => W = w5.drew), y.w.cell? ⟨b2, off2 + k * 5 + 1, none⟩ = some (.int .i64 (s k).seq) := fun y => by rw [y.ok]; exact (M2.out.cell (p := ⟨b2, off2 + k * 5 + 1, none⟩) HB.out.2).trans HY2.out.2.1
      have qk2 : ∀ y : Held (fun W => W = w5.drew), y.w.cell? ⟨b2, off2 + k * 5 + 2, none⟩ = some (.int .i64 (s k).first) := fun y => by rw [y.ok]; exact (M2.out.cell (p := ⟨b2, off2 + k * 5 + 2, none⟩) HB.out.2).trans HY2.out.2.2.1
      have qk3 : ∀ y : Held (fun W => W = w5.drew), y.w.cell? ⟨b2, off2 + k * 5 + 3, none⟩ = some (.int .i64 (s k).words) := fun y => by rw [y.ok]; exact (M2.out.cell (p := ⟨b2, off2 + k * 5 + 3, none⟩) HB.out.2).trans HY2.out.2.2.2.1
      have qk4 : ∀ y : Held (fun W => W = w5.drew), y.w.cell? ⟨b2, off2 + k * 5 + 4, none⟩ = some (.int .i64 (s k).depth) := fun y => by rw [y.ok]; exact (M2.out.cell (p := ⟨b2, off2 + k * 5 + 4, none⟩) HB.out.2).trans HY2.out.2.2.2.2
      have hsn := fun w => spot_neq (s i) (s k) w
      unfold Spot.val at hsn
      by_cases ht : (l i).topic = (l k).topic
      · have kt : ((l i).topic == (l k).topic) = true := beq_iff_eq.2 ht
        have ku : ((l i).topic != (l k).topic) = false := by rw [ht]; exact bne_self_eq_false _
        by_cases hss : s i = s k
        · have HGOOD := Lib.hid (show PairOk l s i k from ⟨fun _ => hss, fun h => absurd ht h⟩)
          have kq : decide (s i = s k) = true := decide_eq_true hss
          rw [kq] at hsn
          clear ht hss kq
          refine drawn_bars (S := fun _ => True) [] [0, 1, 2, 3, 4, 5, 6, 7, 8, 9, 10, 11, 12, 13, 14, 15, 16, 17, 18, 19, 20, 21, 22, 23, 24, 25, 26, 27, 28, 29, 30, 31, 32, 33, 34, 35] (by kernel_rfl) (by kernel_rfl) (by kernel_rfl) rfl trivial ?_
          refine Phased.end_ ?_
          simp only [pick, List.map_cons, List.map_nil, List.getElem?_cons_zero, List.getElem?_cons_succ, Option.getD_some]
          repeat (go_big_quiet_step (fail))
          refine wpQuiet_nil ?_
          clear hne px py qi0 qi1 qi2 qi3 qi4 qk0 qk1 qk2 qk3 qk4
          have M4 := Lib.hid M3.out.drew
          go_wp2_with fail
          go_roundw
          case rel => exact ⟨k + 1, HK.out, HM2.out.1, fun j hj => by
            by_cases e : j = k
            · rw [e]; exact HGOOD.out
            · exact HPS.out j (by omega), M4.out⟩
          case measure => exact HM2.out.2
        · have HBAD := Lib.hid (show ¬ OneOk l s i from fun h => hss ((h.2.2.2 k HK.out).1 ht))
          have kq : decide (s i = s k) = false := decide_eq_false hss
          rw [kq] at hsn
          clear ht hss kq
          refine drawn_bars (S := fun _ => True) [] [0, 1, 2, 3, 4, 5, 6, 7, 8, 9, 10, 11, 12, 13, 14, 15, 16, 17, 18, 19, 20, 21, 22, 23, 24, 25, 26, 27, 28, 29, 30, 31, 32, 33, 34, 35] (by kernel_rfl) (by kernel_rfl) (by kernel_rfl) rfl trivial ?_
          refine Phased.end_ ?_
          simp only [pick, List.map_cons, List.map_nil, List.getElem?_cons_zero, List.getElem?_cons_succ, Option.getD_some]
          repeat (go_big_quiet_step (fail))
          refine wpQuiet_nil ?_
          clear hne px py qi0 qi1 qi2 qi3 qi4 qk0 qk1 qk2 qk3 qk4
          have M4 := Lib.hid M2.out.drew
          go_wp2_with fail
          go_ret
          exact ⟨false, rfl, ⟨fun h => (by cases h), fun h => absurd h (HNF.out i HI.out HBAD.out)⟩, M4.out⟩
      · have kt : ((l i).topic == (l k).topic) = false := beq_eq_false_iff_ne.2 ht
        have ku : ((l i).topic != (l k).topic) = true := bne_iff_ne.2 ht
        clear hsn
        by_cases hss : (s i).seq = (s k).seq
        · have HBAD := Lib.hid (show ¬ OneOk l s i from fun h => (h.2.2.2 k HK.out).2 ht hss)
          have kq : ((s i).seq == (s k).seq) = true := beq_iff_eq.2 hss
          clear ht hss
          refine drawn_bars (S := fun _ => True) [] [0, 1, 2, 3, 4, 5, 6, 7, 8, 9, 10, 11, 12, 13, 14, 15, 16, 17, 18, 19, 20, 21, 22, 23, 24, 25, 26, 27, 28, 29, 30, 31, 32, 33, 34, 35] (by kernel_rfl) (by kernel_rfl) (by kernel_rfl) rfl trivial ?_
          refine Phased.end_ ?_
          simp only [pick, List.map_cons, List.map_nil, List.getElem?_cons_zero, List.getElem?_cons_succ, Option.getD_some]
          repeat (go_big_quiet_step (fail))
          refine wpQuiet_nil ?_
          clear hne px py qi0 qi1 qi2 qi3 qi4 qk0 qk1 qk2 qk3 qk4
          have M4 := Lib.hid M2.out.drew
          go_wp2_with fail
          go_ret
          exact ⟨false, rfl, ⟨fun h => (by cases h), fun h => absurd h (HNF.out i HI.out HBAD.out)⟩, M4.out⟩
        · have HGOOD := Lib.hid (show PairOk l s i k from ⟨fun h => absurd h ht, fun _ => hss⟩)
          have kq : ((s i).seq == (s k).seq) = false := beq_eq_false_iff_ne.2 hss
          clear ht hss
          refine drawn_bars (S := fun _ => True) [] [0, 1, 2, 3, 4, 5, 6, 7, 8, 9, 10, 11, 12, 13, 14, 15, 16, 17, 18, 19, 20, 21, 22, 23, 24, 25, 26, 27, 28, 29, 30, 31, 32, 33, 34, 35] (by kernel_rfl) (by kernel_rfl) (by kernel_rfl) rfl trivial ?_
          refine Phased.end_ ?_
          simp only [pick, List.map_cons, List.map_nil, List.getElem?_cons_zero, List.getElem?_cons_succ, Option.getD_some]
          repeat (go_big_quiet_step (fail))
          refine wpQuiet_nil ?_
          clear hne px py qi0 qi1 qi2 qi3 qi4 qk0 qk1 qk2 qk3 qk4
          have M4 := Lib.hid M3.out.drew
          go_wp2_with fail
          go_roundw
          case rel => exact ⟨k + 1, HK.out, HM2.out.1, fun j hj => by
            by_cases e : j = k
            · rw [e]; exact HGOOD.out
            · exact HPS.out j (by omega), M4.out⟩
          case measure => exact HM2.out.2
end Go.Proofs.Ythcaagkgddeabaa.Bank
