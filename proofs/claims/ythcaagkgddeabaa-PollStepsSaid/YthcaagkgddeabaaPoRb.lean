/-
  Law 12, the document's answer: Right, May. Printed by wip/tools/mkpora.py. Conditions stand at each. By an AI agent.
  Law 12, the document's answer: Most. Printed by wip/tools/mkporb.py. Conditions stand at each. By an AI agent.
-/
import Derived.Test.YthcaagkgddeabaaPoRp
import Derived.Test.YthcaagkgddeabaaPoP
import Derived.Test.YthcaagkgddeabaaPoX
import Derived.Test.YthcaagkgddeabaaPoAl
namespace Go.Proofs.Ythcaagkgddeabaa.Bank
set_option linter.unusedVariables false
set_option linter.unusedSimpArgs false
open Go Go.RowKit Go.Proofs.Ythcaagkgddeabaa.Base Go.Deep Go.ChangeShapes Go.WideShapes Go.Proofs.Ythcaagkgddeabaa.Queue
theorem rspot_fields : (Try.prog.fieldsOf 128).toList.map (fun f => (f.name == "_", f.type, f.offset)) = [(false, 3, 0), (false, 3, 1), (false, 3, 2), (false, 3, 3), (false, 3, 4)] := by
  kernel_rfl
theorem rspot_under : Try.prog.underlying 128 = some (.struct (Try.prog.fieldsOf 128)) := by kernel_rfl
theorem rspot_held : Try.prog.stoodInHeld 128 = false := by kernel_rfl
theorem rspot_neq (a b : Spot) (w : World) : (Go.binOp .neq 128 a.val b.val).run Try.prog w = .ok (.bool (!decide (a = b))) w := by
  obtain ⟨a1, a2, a3, a4, a5⟩ := a
  obtain ⟨b1, b2, b3, b4, b5⟩ := b
  unfold Spot.val
  rw [run_neq_struct, run_equalIn_struct w 9999 _ _ _ rspot_under rspot_held]
  have hf := rspot_fields
  generalize (Try.prog.fieldsOf 128).toList = L at hf
  rcases L with _ | ⟨f1, _ | ⟨f2, _ | ⟨f3, _ | ⟨f4, _ | ⟨f5, _ | ⟨f6, L⟩⟩⟩⟩⟩⟩ <;> simp only [List.map_nil, List.map_cons, List.cons.injEq, Prod.mk.injEq, reduceCtorEq, and_false, and_true] at hf
  obtain ⟨⟨n1, t1, o1⟩, ⟨n2, t2, o2⟩, ⟨n3, t3, o3⟩, ⟨n4, t4, o4⟩, n5, t5, o5⟩ := hf
  have e : ∀ x y : Int, ∀ w, (Op.equalIn 9999 3 (.int .i64 x) (.int .i64 y)).run Try.prog w = .ok (x == y) w := fun x y w => run_equalIn_int w 9998 _ _ _ x y Try.underlying3
  have q : ∀ f : Field, (f.name == "_") = false → f.name ≠ "_" := fun f h e => by rw [e] at h; simp at h
  simp only [Op.eqFields, q _ n1, q _ n2, q _ n3, q _ n4, q _ n5, t1, t2, t3, t4, t5, o1, o2, o3, o4, o5, ne_eq, not_false_eq_true, if_true, Sem.run_bind]
  have A0 := fun w => part_spot #[.int .i64 a1, .int .i64 a2, .int .i64 a3, .int .i64 a4, .int .i64 a5] 0 a1 w rfl
  have A1 := fun w => part_spot #[.int .i64 a1, .int .i64 a2, .int .i64 a3, .int .i64 a4, .int .i64 a5] 1 a2 w rfl
  have A2 := fun w => part_spot #[.int .i64 a1, .int .i64 a2, .int .i64 a3, .int .i64 a4, .int .i64 a5] 2 a3 w rfl
  have A3 := fun w => part_spot #[.int .i64 a1, .int .i64 a2, .int .i64 a3, .int .i64 a4, .int .i64 a5] 3 a4 w rfl
  have A4 := fun w => part_spot #[.int .i64 a1, .int .i64 a2, .int .i64 a3, .int .i64 a4, .int .i64 a5] 4 a5 w rfl
  have B0 := fun w => part_spot #[.int .i64 b1, .int .i64 b2, .int .i64 b3, .int .i64 b4, .int .i64 b5] 0 b1 w rfl
  have B1 := fun w => part_spot #[.int .i64 b1, .int .i64 b2, .int .i64 b3, .int .i64 b4, .int .i64 b5] 1 b2 w rfl
  have B2 := fun w => part_spot #[.int .i64 b1, .int .i64 b2, .int .i64 b3, .int .i64 b4, .int .i64 b5] 2 b3 w rfl
  have B3 := fun w => part_spot #[.int .i64 b1, .int .i64 b2, .int .i64 b3, .int .i64 b4, .int .i64 b5] 3 b4 w rfl
  have B4 := fun w => part_spot #[.int .i64 b1, .int .i64 b2, .int .i64 b3, .int .i64 b4, .int .i64 b5] 4 b5 w rfl
  simp only [A0, A1, A2, A3, A4, B0, B1, B2, B3, B4, e, Result.andThen_ok, Sem.run_ite, Sem.run_pure, Sem.run_bind]
  have hd : decide ((⟨a1, a2, a3, a4, a5⟩ : Spot) = ⟨b1, b2, b3, b4, b5⟩) = (a1 == b1 && (a2 == b2 && (a3 == b3 && (a4 == b4 && a5 == b5)))) := by
    apply Bool.eq_iff_iff.mpr
    simp only [decide_eq_true_iff, Bool.and_eq_true, beq_iff_eq, Spot.mk.injEq]
  rw [hd]
  cases a1 == b1 <;> cases a2 == b2 <;> cases a3 == b3 <;> cases a4 == b4 <;> cases a5 == b5 <;> simp [Result.andThen_ok, A0, A1, A2, A3, A4, B0, B1, B2, B3, B4, e]
theorem rRight_any (s : Spot) (w : World) : Calls Try.prog 58 #[s.val] w fun e w' => e = .returned (.bool (decide s.AtOk)) ∧ Below w.heap.size w w' := by
  obtain ⟨ow, sq, fi, wo, de⟩ := s
  unfold Spot.val
  simp only
  have L0 := Lib.hid ((Below.refl w.heap.size w).alloc (Nat.le_refl _) (.cells #[.int .i64 ow, .int .i64 sq, .int .i64 fi, .int .i64 wo, .int .i64 de] 128))
  by_cases t0 : 1 ≤ wo
  rotate_left
  · have u0 : decide (wo ≥ 1) = false := decide_eq_false t0
    have v0 : decide (1 ≤ wo) = false := decide_eq_false t0
    rw [decide_eq_false (show ¬ Spot.AtOk ⟨ow, sq, fi, wo, de⟩ from fun h => t0 h.1.1)]
    clear t0
    go_enter Try.func58, Try.ntmps58
    go_wp2_with fail
    go_ret
    exact ⟨rfl, L0.out⟩
  have u0 : decide (wo ≥ 1) = true := decide_eq_true t0
  have v0 : decide (1 ≤ wo) = true := decide_eq_true t0
  by_cases t1 : wo ≤ 64
  rotate_left
  · have u1 : decide (wo ≤ 64) = false := decide_eq_false t1
    have v1 : decide (wo ≤ 64) = false := decide_eq_false t1
    rw [decide_eq_false (show ¬ Spot.AtOk ⟨ow, sq, fi, wo, de⟩ from fun h => t1 h.1.2)]
    clear t0 t1
    go_enter Try.func58, Try.ntmps58
    go_wp2_with fail
    go_ret
    exact ⟨rfl, L0.out⟩
  have u1 : decide (wo ≤ 64) = true := decide_eq_true t1
  have v1 : decide (wo ≤ 64) = true := decide_eq_true t1
  by_cases t2 : 1 ≤ de
  rotate_left
  · have u2 : decide (de ≥ 1) = false := decide_eq_false t2
    have v2 : decide (1 ≤ de) = false := decide_eq_false t2
    rw [decide_eq_false (show ¬ Spot.AtOk ⟨ow, sq, fi, wo, de⟩ from fun h => t2 h.2.1.1)]
    clear t0 t1 t2
    go_enter Try.func58, Try.ntmps58
    go_wp2_with fail
    go_ret
    exact ⟨rfl, L0.out⟩
  have u2 : decide (de ≥ 1) = true := decide_eq_true t2
  have v2 : decide (1 ≤ de) = true := decide_eq_true t2
  by_cases t3 : de ≤ 16
  rotate_left
  · have u3 : decide (de ≤ 16) = false := decide_eq_false t3
    have v3 : decide (de ≤ 16) = false := decide_eq_false t3
    rw [decide_eq_false (show ¬ Spot.AtOk ⟨ow, sq, fi, wo, de⟩ from fun h => t3 h.2.1.2)]
    clear t0 t1 t2 t3
    go_enter Try.func58, Try.ntmps58
    go_wp2_with fail
    go_ret
    exact ⟨rfl, L0.out⟩
  have u3 : decide (de ≤ 16) = true := decide_eq_true t3
  have v3 : decide (de ≤ 16) = true := decide_eq_true t3
  by_cases t4 : 0 ≤ fi
  rotate_left
  · have u4 : decide (fi ≥ 0) = false := decide_eq_false t4
    have v4 : decide (0 ≤ fi) = false := decide_eq_false t4
    rw [decide_eq_false (show ¬ Spot.AtOk ⟨ow, sq, fi, wo, de⟩ from fun h => t4 h.2.2.1)]
    clear t0 t1 t2 t3 t4
    go_enter Try.func58, Try.ntmps58
    go_wp2_with fail
    go_ret
    exact ⟨rfl, L0.out⟩
  have u4 : decide (fi ≥ 0) = true := decide_eq_true t4
  have v4 : decide (0 ≤ fi) = true := decide_eq_true t4
  by_cases t5 : fi ≤ 1048576
  rotate_left
  · have u5 : decide (fi ≤ 1048576) = false := decide_eq_false t5
    have v5 : decide (fi ≤ 1048576) = false := decide_eq_false t5
    rw [decide_eq_false (show ¬ Spot.AtOk ⟨ow, sq, fi, wo, de⟩ from fun h => t5 h.2.2.2)]
    clear t0 t1 t2 t3 t4 t5
    go_enter Try.func58, Try.ntmps58
    go_wp2_with fail
    go_ret
    exact ⟨rfl, L0.out⟩
  have u5 : decide (fi ≤ 1048576) = true := decide_eq_true t5
  have v5 : decide (fi ≤ 1048576) = true := decide_eq_true t5
  rw [decide_eq_true (show Spot.AtOk ⟨ow, sq, fi, wo, de⟩ from ⟨⟨t0, t1⟩, ⟨t2, t3⟩, t4, t5⟩)]
  clear t0 t1 t2 t3 t4 t5
  go_enter Try.func58, Try.ntmps58
  go_wp2_with fail
  go_ret
  exact ⟨rfl, L0.out⟩
open Classical in
/-- the document's answer to a poll: may it be? -/
noncomputable def mayF (n m : Nat) (l : Nat → Queue.Sub) (s : Nat → Spot) (tries : Int) : Int := if Fits n m l s then (if 1 ≤ tries ∧ tries ≤ 16 then 0 else 10) else 1
set_option maxRecDepth 100000 in
set_option maxHeartbeats 16000000 in
theorem RMay_any (v1 v2 : Value) (n m : Nat) (l : Nat → Queue.Sub) (s : Nat → Spot) (tries : Int) (w : World) (hl : Queue.Subs w v1 n l) (hs : Sps w v2 m s) :
    Calls Try.prog 28 #[v1, v2, .int .i64 tries] w fun e w' => e = .returned (.int .i64 (mayF n m l s tries)) ∧ Below w.heap.size w w' := by
  obtain ⟨A1, c1, rfl, hn, hg⟩ := hl.form
  obtain ⟨A2, c2, rfl, hm, hg2⟩ := hs.form
  have HG := Lib.hid hg
  have HG2 := Lib.hid hg2
  have HN := Lib.hid (show n ≤ maxLen from hn)
  by_cases h0 : n = 0
  · subst h0
    have HF := Lib.hid (show mayF 0 m l s tries = 1 from if_neg (fun h => h.1 rfl))
    have kz : (((0 : Nat) : Int) == 0) = true := rfl
    clear hl hs hn hg hm hg2
    go_enter Try.func28, Try.ntmps28
    go_wp2_with fail
    go_ret
    exact ⟨by rw [HF.out] <;> rfl, Below.refl _ _⟩
  have kz : ((n : Int) == 0) = false := by simpa using h0
  by_cases hnm : n = m
  rotate_left
  · have HF := Lib.hid (show mayF n m l s tries = 1 from if_neg (fun h => hnm h.2.1))
    have ky : ((n : Int) != (m : Int)) = true := bne_iff_ne.2 (by omega)
    clear hl hs hn hg hm hg2 h0 hnm
    go_enter Try.func28, Try.ntmps28
    go_wp2_with fail
    go_ret
    exact ⟨by rw [HF.out] <;> rfl, Below.refl _ _⟩
  subst hnm
  have ky : ((n : Int) != (n : Int)) = false := by simp
  have HF := Lib.hid (show (∀ i, i < n → OneOk l s i) → mayF n n l s tries = (if 1 ≤ tries ∧ tries ≤ 16 then 0 else 10) from fun h => if_pos ⟨h0, rfl, h⟩)
  have HNF := Lib.hid (show ∀ i, i < n → ¬ OneOk l s i → mayF n n l s tries = 1 from fun i hi h => if_neg (fun hf => h (hf.2.2 i hi)))
  have HPOS := Lib.hid (show 0 < n by omega)
  clear hl hs hn hg hm hg2 h0
  obtain ⟨b, off, rfl, hb, hc⟩ := HG.out HPOS.out
  obtain ⟨b2, off2, rfl, hb2, hc2⟩ := HG2.out HPOS.out
  have HB := Lib.hid (And.intro hb hb2)
  have HC := Lib.hid hc
  have HC2 := Lib.hid hc2
  clear hb hb2 hc hc2 HG HG2
  go_enter Try.func28, Try.ntmps28
  go_wp2_with fail
  clear kz ky
  go_loopw [7, 8] (fun s7 s8 wr => ∃ i : Nat, i ≤ n ∧ s7 = .int .i64 i ∧ (∀ j, j < i → OneOk l s j) ∧ Below w.heap.size w wr) (fun s7 s8 _ => n - (intOf s7).toNat)
  case atStart => exact ⟨0, by omega, rfl, fun j hj => absurd hj (by omega), Below.refl _ _⟩
  case round =>
    obtain ⟨i, hi, rfl, hs, hl⟩ := hrel
    have HS := Lib.hid hs
    have L0 := Lib.hid hl
    clear hs hl
    by_cases hlt : i < n
    rotate_left
    · obtain rfl : i = n := by omega
      have kd : decide ((i : Int) < (i : Int)) = false := decide_eq_false (by omega)
      have HV := Lib.hid (HF.out HS.out)
      clear hi hlt
      by_cases g1 : 1 ≤ tries
      rotate_left
      · have e1 : decide (tries < 1) = true := decide_eq_true (by omega)
        have HW := Lib.hid (HV.out.trans (if_neg (fun h => g1 h.1)))
        clear g1
        go_wp2_with fail
        go_ret
        exact ⟨by rw [HW.out] <;> rfl, L0.out⟩
      have e1 : decide (tries < 1) = false := decide_eq_false (by omega)
      by_cases g2 : tries ≤ 16
      rotate_left
      · have e2 : decide (tries > 16) = true := decide_eq_true (by omega)
        have HW := Lib.hid (HV.out.trans (if_neg (fun h => g2 h.2)))
        clear g1 g2
        go_wp2_with fail
        go_ret
        exact ⟨by rw [HW.out] <;> rfl, L0.out⟩
      have e2 : decide (tries > 16) = false := decide_eq_false (by omega)
      have HW := Lib.hid (HV.out.trans (if_pos ⟨g1, g2⟩))
      clear g1 g2
      go_wp2_with fail
      go_ret
      exact ⟨by rw [HW.out] <;> rfl, L0.out⟩
    have kd : decide ((i : Int) < (n : Int)) = true := decide_eq_true (by omega)
    have ki0 : (0 : Int) ≤ (i : Int) := by omega
    have ki1 : (i : Int) < (n : Int) := by omega
    have HI := Lib.hid hlt
    have HM := Lib.hid (turn_no i n hlt HN.out)
    clear hi hlt
    have HX := Lib.hid (HC.out i HI.out)
    have HY := Lib.hid (HC2.out i HI.out)
    go_upto_region 6 with fail
    have hne : Nonempty (Held (Below wr.heap.size wr)) := ⟨⟨wr, Below.refl _ _⟩⟩
    have px0 : ∀ y : Held (Below wr.heap.size wr), y.w.cell? ⟨b, off + i * 6, none⟩ = some (.int .i64 (l i).topic) := fun y => ((L0.out.trans (y.ok.mono L0.out.size)).cell (p := ⟨b, off + i * 6, none⟩) HB.out.1).trans HX.out.1
    have px1 : ∀ y : Held (Below wr.heap.size wr), y.w.cell? ⟨b, off + i * 6 + 1, none⟩ = some (.int .i64 (l i).rank) := fun y => ((L0.out.trans (y.ok.mono L0.out.size)).cell (p := ⟨b, off + i * 6 + 1, none⟩) HB.out.1).trans HX.out.2.1
    have px2 : ∀ y : Held (Below wr.heap.size wr), y.w.cell? ⟨b, off + i * 6 + 2, none⟩ = some (.int .u64 (l i).cur.next) := fun y => ((L0.out.trans (y.ok.mono L0.out.size)).cell (p := ⟨b, off + i * 6 + 2, none⟩) HB.out.1).trans HX.out.2.2.1
    have px3 : ∀ y : Held (Below wr.heap.size wr), y.w.cell? ⟨b, off + i * 6 + 3, none⟩ = some (.int .i64 (l i).cur.cap) := fun y => ((L0.out.trans (y.ok.mono L0.out.size)).cell (p := ⟨b, off + i * 6 + 3, none⟩) HB.out.1).trans HX.out.2.2.2.1
    have px4 : ∀ y : Held (Below wr.heap.size wr), y.w.cell? ⟨b, off + i * 6 + 4, none⟩ = some (.int .u64 (l i).cur.got) := fun y => ((L0.out.trans (y.ok.mono L0.out.size)).cell (p := ⟨b, off + i * 6 + 4, none⟩) HB.out.1).trans HX.out.2.2.2.2.1
    have px5 : ∀ y : Held (Below wr.heap.size wr), y.w.cell? ⟨b, off + i * 6 + 5, none⟩ = some (.int .u64 (l i).cur.lost) := fun y => ((L0.out.trans (y.ok.mono L0.out.size)).cell (p := ⟨b, off + i * 6 + 5, none⟩) HB.out.1).trans HX.out.2.2.2.2.2
    have py0 : ∀ y : Held (Below wr.heap.size wr), y.w.cell? ⟨b2, off2 + i * 5, none⟩ = some (.int .i64 (s i).owners) := fun y => ((L0.out.trans (y.ok.mono L0.out.size)).cell (p := ⟨b2, off2 + i * 5, none⟩) HB.out.2).trans HY.out.1
    have py1 : ∀ y : Held (Below wr.heap.size wr), y.w.cell? ⟨b2, off2 + i * 5 + 1, none⟩ = some (.int .i64 (s i).seq) := fun y => ((L0.out.trans (y.ok.mono L0.out.size)).cell (p := ⟨b2, off2 + i * 5 + 1, none⟩) HB.out.2).trans HY.out.2.1
    have py2 : ∀ y : Held (Below wr.heap.size wr), y.w.cell? ⟨b2, off2 + i * 5 + 2, none⟩ = some (.int .i64 (s i).first) := fun y => ((L0.out.trans (y.ok.mono L0.out.size)).cell (p := ⟨b2, off2 + i * 5 + 2, none⟩) HB.out.2).trans HY.out.2.2.1
    have py3 : ∀ y : Held (Below wr.heap.size wr), y.w.cell? ⟨b2, off2 + i * 5 + 3, none⟩ = some (.int .i64 (s i).words) := fun y => ((L0.out.trans (y.ok.mono L0.out.size)).cell (p := ⟨b2, off2 + i * 5 + 3, none⟩) HB.out.2).trans HY.out.2.2.2.1
    have py4 : ∀ y : Held (Below wr.heap.size wr), y.w.cell? ⟨b2, off2 + i * 5 + 4, none⟩ = some (.int .i64 (s i).depth) := fun y => ((L0.out.trans (y.ok.mono L0.out.size)).cell (p := ⟨b2, off2 + i * 5 + 4, none⟩) HB.out.2).trans HY.out.2.2.2.2
    have HAT := Lib.hid (fun W => rRight_any (s i) W)
    have HRT := Lib.hid (fun W => refRight_any (l i).cur W)
    unfold Spot.val at HAT
    unfold Cur.val at HRT
    by_cases hat : (s i).AtOk
    rotate_left
    · have HBAD := Lib.hid (show ¬ OneOk l s i from fun h => hat h.1)
      have HATB := Lib.hid (decide_eq_false hat)
      clear hat
      refine drawn_bars (S := (Below wr.heap.size wr)) [([0, 1, 2, 3], 4), ([5, 6, 7, 8, 9, 10, 11], 12)] [13, 14, 15, 16, 17, 18, 19, 20, 21, 22, 23, 24, 25, 26, 27, 28, 29] (by kernel_rfl) (by kernel_rfl) (by kernel_rfl) rfl (Below.refl _ _).drew ?_
      refine Phased.go ?_
      simp only [pick, List.map_cons, List.map_nil, List.getElem?_cons_zero, List.getElem?_cons_succ, Option.getD_some]
      repeat (go_big_quiet_step (fail))
      refine wpQuiet_nil ?_
      have hbd : Below wr.heap.size wr wr.drew := (Below.refl _ _).drew
      go_wp2_with fail
      refine (HAT.out _).mono ?_; rintro e w2 ⟨rfl, hb3⟩
      rw [HATB.out]
      have hb4 := bl hbd hb3
      clear hb3 hbd
      go_wp2_with fail
      refine behind_normal ⟨(Below wr.heap.size wr), fun W h => h, hb4, ?_⟩
      refine Phased.go ?_
      simp only [pick, List.map_cons, List.map_nil, List.getElem?_cons_zero, List.getElem?_cons_succ, Option.getD_some]
      repeat (go_big_quiet_step (fail))
      refine wpQuiet_nil ?_
      go_wp2_with fail
      refine behind_normal ⟨(Below wr.heap.size wr), fun W h => h, hb4, ?_⟩
      refine Phased.end_ ?_
      have hne4 : Nonempty (Held (fun W => W = w2)) := ⟨⟨_, rfl⟩⟩
      have px0_ : ∀ y : Held (fun W => W = w2), y.w.cell? ⟨b, off + i * 6, none⟩ = some (.int .i64 (l i).topic) := fun y => by rw [y.ok]; exact px0 ⟨w2, hb4⟩
      have px1_ : ∀ y : Held (fun W => W = w2), y.w.cell? ⟨b, off + i * 6 + 1, none⟩ = some (.int .i64 (l i).rank) := fun y => by rw [y.ok]; exact px1 ⟨w2, hb4⟩
      have px2_ : ∀ y : Held (fun W => W = w2), y.w.cell? ⟨b, off + i * 6 + 2, none⟩ = some (.int .u64 (l i).cur.next) := fun y => by rw [y.ok]; exact px2 ⟨w2, hb4⟩
      have px3_ : ∀ y : Held (fun W => W = w2), y.w.cell? ⟨b, off + i * 6 + 3, none⟩ = some (.int .i64 (l i).cur.cap) := fun y => by rw [y.ok]; exact px3 ⟨w2, hb4⟩
      have px4_ : ∀ y : Held (fun W => W = w2), y.w.cell? ⟨b, off + i * 6 + 4, none⟩ = some (.int .u64 (l i).cur.got) := fun y => by rw [y.ok]; exact px4 ⟨w2, hb4⟩
      have px5_ : ∀ y : Held (fun W => W = w2), y.w.cell? ⟨b, off + i * 6 + 5, none⟩ = some (.int .u64 (l i).cur.lost) := fun y => by rw [y.ok]; exact px5 ⟨w2, hb4⟩
      have py0_ : ∀ y : Held (fun W => W = w2), y.w.cell? ⟨b2, off2 + i * 5, none⟩ = some (.int .i64 (s i).owners) := fun y => by rw [y.ok]; exact py0 ⟨w2, hb4⟩
      have py1_ : ∀ y : Held (fun W => W = w2), y.w.cell? ⟨b2, off2 + i * 5 + 1, none⟩ = some (.int .i64 (s i).seq) := fun y => by rw [y.ok]; exact py1 ⟨w2, hb4⟩
      have py2_ : ∀ y : Held (fun W => W = w2), y.w.cell? ⟨b2, off2 + i * 5 + 2, none⟩ = some (.int .i64 (s i).first) := fun y => by rw [y.ok]; exact py2 ⟨w2, hb4⟩
      have py3_ : ∀ y : Held (fun W => W = w2), y.w.cell? ⟨b2, off2 + i * 5 + 3, none⟩ = some (.int .i64 (s i).words) := fun y => by rw [y.ok]; exact py3 ⟨w2, hb4⟩
      have py4_ : ∀ y : Held (fun W => W = w2), y.w.cell? ⟨b2, off2 + i * 5 + 4, none⟩ = some (.int .i64 (s i).depth) := fun y => by rw [y.ok]; exact py4 ⟨w2, hb4⟩
      simp only [pick, List.map_cons, List.map_nil, List.getElem?_cons_zero, List.getElem?_cons_succ, Option.getD_some]
      repeat (go_big_quiet_step (fail))
      refine wpQuiet_nil ?_
      have L4 := Lib.hid (bl L0.out hb4)
      clear hne hne4 px0 px1 px2 px3 px4 px5 py0 py1 py2 py3 py4 px0_ px1_ px2_ px3_ px4_ px5_ py0_ py1_ py2_ py3_ py4_ hb4
      go_wp2_with fail
      go_ret
      exact ⟨by rw [HNF.out i HI.out HBAD.out] <;> rfl, L4.out⟩
    have HATB := Lib.hid (decide_eq_true hat)
    have kw : wrap64 ((s i).depth - 1) = (s i).depth - 1 := wrap64_in _ (by have := hat.2.1; omega)
    by_cases hrt : (l i).cur.Right
    rotate_left
    · have HBAD := Lib.hid (show ¬ OneOk l s i from fun h => hrt h.2.2.1)
      have HRTB := Lib.hid (decide_eq_false hrt)
      clear hat hrt
      refine drawn_bars (S := (Below wr.heap.size wr)) [([0, 1, 2, 3], 4), ([5, 6, 7, 8, 9, 10, 11], 12)] [13, 14, 15, 16, 17, 18, 19, 20, 21, 22, 23, 24, 25, 26, 27, 28, 29] (by kernel_rfl) (by kernel_rfl) (by kernel_rfl) rfl (Below.refl _ _).drew ?_
      refine Phased.go ?_
      simp only [pick, List.map_cons, List.map_nil, List.getElem?_cons_zero, List.getElem?_cons_succ, Option.getD_some]
      repeat (go_big_quiet_step (fail))
      refine wpQuiet_nil ?_
      have hbd : Below wr.heap.size wr wr.drew := (Below.refl _ _).drew
      go_wp2_with fail
      refine (HAT.out _).mono ?_; rintro e w2 ⟨rfl, hb3⟩
      rw [HATB.out]
      have hb4 := bl hbd hb3
      clear hb3 hbd
      go_wp2_with fail
      refine behind_normal ⟨(Below wr.heap.size wr), fun W h => h, hb4, ?_⟩
      refine Phased.go ?_
      simp only [pick, List.map_cons, List.map_nil, List.getElem?_cons_zero, List.getElem?_cons_succ, Option.getD_some]
      repeat (go_big_quiet_step (fail))
      refine wpQuiet_nil ?_
      go_wp2_with fail
      refine (HRT.out _).mono ?_; rintro e w3 ⟨rfl, hb3⟩
      rw [HRTB.out]
      have hb5 := bl hb4 hb3
      clear hb3 hb4
      go_wp2_with fail
      refine behind_normal ⟨(Below wr.heap.size wr), fun W h => h, hb5, ?_⟩
      refine Phased.end_ ?_
      have hne4 : Nonempty (Held (fun W => W = w3)) := ⟨⟨_, rfl⟩⟩
      have px0_ : ∀ y : Held (fun W => W = w3), y.w.cell? ⟨b, off + i * 6, none⟩ = some (.int .i64 (l i).topic) := fun y => by rw [y.ok]; exact px0 ⟨w3, hb5⟩
      have px1_ : ∀ y : Held (fun W => W = w3), y.w.cell? ⟨b, off + i * 6 + 1, none⟩ = some (.int .i64 (l i).rank) := fun y => by rw [y.ok]; exact px1 ⟨w3, hb5⟩
      have px2_ : ∀ y : Held (fun W => W = w3), y.w.cell? ⟨b, off + i * 6 + 2, none⟩ = some (.int .u64 (l i).cur.next) := fun y => by rw [y.ok]; exact px2 ⟨w3, hb5⟩
      have px3_ : ∀ y : Held (fun W => W = w3), y.w.cell? ⟨b, off + i * 6 + 3, none⟩ = some (.int .i64 (l i).cur.cap) := fun y => by rw [y.ok]; exact px3 ⟨w3, hb5⟩
      have px4_ : ∀ y : Held (fun W => W = w3), y.w.cell? ⟨b, off + i * 6 + 4, none⟩ = some (.int .u64 (l i).cur.got) := fun y => by rw [y.ok]; exact px4 ⟨w3, hb5⟩
      have px5_ : ∀ y : Held (fun W => W = w3), y.w.cell? ⟨b, off + i * 6 + 5, none⟩ = some (.int .u64 (l i).cur.lost) := fun y => by rw [y.ok]; exact px5 ⟨w3, hb5⟩
      have py0_ : ∀ y : Held (fun W => W = w3), y.w.cell? ⟨b2, off2 + i * 5, none⟩ = some (.int .i64 (s i).owners) := fun y => by rw [y.ok]; exact py0 ⟨w3, hb5⟩
      have py1_ : ∀ y : Held (fun W => W = w3), y.w.cell? ⟨b2, off2 + i * 5 + 1, none⟩ = some (.int .i64 (s i).seq) := fun y => by rw [y.ok]; exact py1 ⟨w3, hb5⟩
      have py2_ : ∀ y : Held (fun W => W = w3), y.w.cell? ⟨b2, off2 + i * 5 + 2, none⟩ = some (.int .i64 (s i).first) := fun y => by rw [y.ok]; exact py2 ⟨w3, hb5⟩
      have py3_ : ∀ y : Held (fun W => W = w3), y.w.cell? ⟨b2, off2 + i * 5 + 3, none⟩ = some (.int .i64 (s i).words) := fun y => by rw [y.ok]; exact py3 ⟨w3, hb5⟩
      have py4_ : ∀ y : Held (fun W => W = w3), y.w.cell? ⟨b2, off2 + i * 5 + 4, none⟩ = some (.int .i64 (s i).depth) := fun y => by rw [y.ok]; exact py4 ⟨w3, hb5⟩
      simp only [pick, List.map_cons, List.map_nil, List.getElem?_cons_zero, List.getElem?_cons_succ, Option.getD_some]
      repeat (go_big_quiet_step (fail))
      refine wpQuiet_nil ?_
      have L4 := Lib.hid (bl L0.out hb5)
      clear hne hne4 px0 px1 px2 px3 px4 px5 py0 py1 py2 py3 py4 px0_ px1_ px2_ px3_ px4_ px5_ py0_ py1_ py2_ py3_ py4_ hb5
      go_wp2_with fail
      go_ret
      exact ⟨by rw [HNF.out i HI.out HBAD.out] <;> rfl, L4.out⟩
    have HRTB := Lib.hid (decide_eq_true hrt)
    by_cases hcp : (l i).cur.cap ≤ (s i).depth - 1
    rotate_left
    · have HBAD := Lib.hid (show ¬ OneOk l s i from fun h => hcp h.2.1)
      have k2 : decide ((l i).cur.cap > (s i).depth - 1) = true := decide_eq_true (by omega)
      clear hat hrt hcp
      refine drawn_bars (S := (Below wr.heap.size wr)) [([0, 1, 2, 3], 4), ([5, 6, 7, 8, 9, 10, 11], 12)] [13, 14, 15, 16, 17, 18, 19, 20, 21, 22, 23, 24, 25, 26, 27, 28, 29] (by kernel_rfl) (by kernel_rfl) (by kernel_rfl) rfl (Below.refl _ _).drew ?_
      refine Phased.go ?_
      simp only [pick, List.map_cons, List.map_nil, List.getElem?_cons_zero, List.getElem?_cons_succ, Option.getD_some]
      repeat (go_big_quiet_step (fail))
      refine wpQuiet_nil ?_
      have hbd : Below wr.heap.size wr wr.drew := (Below.refl _ _).drew
      go_wp2_with fail
      refine (HAT.out _).mono ?_; rintro e w2 ⟨rfl, hb3⟩
      rw [HATB.out]
      have hb4 := bl hbd hb3
      clear hb3 hbd
      go_wp2_with fail
      refine behind_normal ⟨(Below wr.heap.size wr), fun W h => h, hb4, ?_⟩
      refine Phased.go ?_
      simp only [pick, List.map_cons, List.map_nil, List.getElem?_cons_zero, List.getElem?_cons_succ, Option.getD_some]
      repeat (go_big_quiet_step (fail))
      refine wpQuiet_nil ?_
      go_wp2_with fail
      refine (HRT.out _).mono ?_; rintro e w3 ⟨rfl, hb3⟩
      rw [HRTB.out]
      have hb5 := bl hb4 hb3
      clear hb3 hb4
      go_wp2_with fail
      refine behind_normal ⟨(Below wr.heap.size wr), fun W h => h, hb5, ?_⟩
      refine Phased.end_ ?_
      have hne4 : Nonempty (Held (fun W => W = w3)) := ⟨⟨_, rfl⟩⟩
      have px0_ : ∀ y : Held (fun W => W = w3), y.w.cell? ⟨b, off + i * 6, none⟩ = some (.int .i64 (l i).topic) := fun y => by rw [y.ok]; exact px0 ⟨w3, hb5⟩
      have px1_ : ∀ y : Held (fun W => W = w3), y.w.cell? ⟨b, off + i * 6 + 1, none⟩ = some (.int .i64 (l i).rank) := fun y => by rw [y.ok]; exact px1 ⟨w3, hb5⟩
      have px2_ : ∀ y : Held (fun W => W = w3), y.w.cell? ⟨b, off + i * 6 + 2, none⟩ = some (.int .u64 (l i).cur.next) := fun y => by rw [y.ok]; exact px2 ⟨w3, hb5⟩
      have px3_ : ∀ y : Held (fun W => W = w3), y.w.cell? ⟨b, off + i * 6 + 3, none⟩ = some (.int .i64 (l i).cur.cap) := fun y => by rw [y.ok]; exact px3 ⟨w3, hb5⟩
      have px4_ : ∀ y : Held (fun W => W = w3), y.w.cell? ⟨b, off + i * 6 + 4, none⟩ = some (.int .u64 (l i).cur.got) := fun y => by rw [y.ok]; exact px4 ⟨w3, hb5⟩
      have px5_ : ∀ y : Held (fun W => W = w3), y.w.cell? ⟨b, off + i * 6 + 5, none⟩ = some (.int .u64 (l i).cur.lost) := fun y => by rw [y.ok]; exact px5 ⟨w3, hb5⟩
      have py0_ : ∀ y : Held (fun W => W = w3), y.w.cell? ⟨b2, off2 + i * 5, none⟩ = some (.int .i64 (s i).owners) := fun y => by rw [y.ok]; exact py0 ⟨w3, hb5⟩
      have py1_ : ∀ y : Held (fun W => W = w3), y.w.cell? ⟨b2, off2 + i * 5 + 1, none⟩ = some (.int .i64 (s i).seq) := fun y => by rw [y.ok]; exact py1 ⟨w3, hb5⟩
      have py2_ : ∀ y : Held (fun W => W = w3), y.w.cell? ⟨b2, off2 + i * 5 + 2, none⟩ = some (.int .i64 (s i).first) := fun y => by rw [y.ok]; exact py2 ⟨w3, hb5⟩
      have py3_ : ∀ y : Held (fun W => W = w3), y.w.cell? ⟨b2, off2 + i * 5 + 3, none⟩ = some (.int .i64 (s i).words) := fun y => by rw [y.ok]; exact py3 ⟨w3, hb5⟩
      have py4_ : ∀ y : Held (fun W => W = w3), y.w.cell? ⟨b2, off2 + i * 5 + 4, none⟩ = some (.int .i64 (s i).depth) := fun y => by rw [y.ok]; exact py4 ⟨w3, hb5⟩
      simp only [pick, List.map_cons, List.map_nil, List.getElem?_cons_zero, List.getElem?_cons_succ, Option.getD_some]
      repeat (go_big_quiet_step (fail))
      refine wpQuiet_nil ?_
      have L4 := Lib.hid (bl L0.out hb5)
      clear hne hne4 px0 px1 px2 px3 px4 px5 py0 py1 py2 py3 py4 px0_ px1_ px2_ px3_ px4_ px5_ py0_ py1_ py2_ py3_ py4_ hb5
      go_wp2_with fail
      go_ret
      exact ⟨by rw [HNF.out i HI.out HBAD.out] <;> rfl, L4.out⟩
    have HONE := Lib.hid (show (∀ k, k < i → PairOk l s i k) → OneOk l s i from fun h => ⟨hat, hcp, hrt, h⟩)
    have k2 : decide ((l i).cur.cap > (s i).depth - 1) = false := decide_eq_false (by omega)
    clear hat hrt hcp
    refine drawn_bars (S := (Below wr.heap.size wr)) [([0, 1, 2, 3], 4), ([5, 6, 7, 8, 9, 10, 11], 12)] [13, 14, 15, 16, 17, 18, 19, 20, 21, 22, 23, 24, 25, 26, 27, 28, 29] (by kernel_rfl) (by kernel_rfl) (by kernel_rfl) rfl (Below.refl _ _).drew ?_
    refine Phased.go ?_
    simp only [pick, List.map_cons, List.map_nil, List.getElem?_cons_zero, List.getElem?_cons_succ, Option.getD_some]
    repeat (go_big_quiet_step (fail))
    refine wpQuiet_nil ?_
    have hbd : Below wr.heap.size wr wr.drew := (Below.refl _ _).drew
    go_wp2_with fail
    refine (HAT.out _).mono ?_; rintro e w2 ⟨rfl, hb3⟩
    rw [HATB.out]
    have hb4 := bl hbd hb3
    clear hb3 hbd
    go_wp2_with fail
    refine behind_normal ⟨(Below wr.heap.size wr), fun W h => h, hb4, ?_⟩
    refine Phased.go ?_
    simp only [pick, List.map_cons, List.map_nil, List.getElem?_cons_zero, List.getElem?_cons_succ, Option.getD_some]
    repeat (go_big_quiet_step (fail))
    refine wpQuiet_nil ?_
    go_wp2_with fail
    refine (HRT.out _).mono ?_; rintro e w3 ⟨rfl, hb3⟩
    rw [HRTB.out]
    have hb5 := bl hb4 hb3
    clear hb3 hb4
    go_wp2_with fail
    refine behind_normal ⟨(Below wr.heap.size wr), fun W h => h, hb5, ?_⟩
    refine Phased.end_ ?_
    have hne4 : Nonempty (Held (fun W => W = w3)) := ⟨⟨_, rfl⟩⟩
    have px0_ : ∀ y : Held (fun W => W = w3), y.w.cell? ⟨b, off + i * 6, none⟩ = some (.int .i64 (l i).topic) := fun y => by rw [y.ok]; exact px0 ⟨w3, hb5⟩
    have px1_ : ∀ y : Held (fun W => W = w3), y.w.cell? ⟨b, off + i * 6 + 1, none⟩ = some (.int .i64 (l i).rank) := fun y => by rw [y.ok]; exact px1 ⟨w3, hb5⟩
    have px2_ : ∀ y : Held (fun W => W = w3), y.w.cell? ⟨b, off + i * 6 + 2, none⟩ = some (.int .u64 (l i).cur.next) := fun y => by rw [y.ok]; exact px2 ⟨w3, hb5⟩
    have px3_ : ∀ y : Held (fun W => W = w3), y.w.cell? ⟨b, off + i * 6 + 3, none⟩ = some (.int .i64 (l i).cur.cap) := fun y => by rw [y.ok]; exact px3 ⟨w3, hb5⟩
    have px4_ : ∀ y : Held (fun W => W = w3), y.w.cell? ⟨b, off + i * 6 + 4, none⟩ = some (.int .u64 (l i).cur.got) := fun y => by rw [y.ok]; exact px4 ⟨w3, hb5⟩
    have px5_ : ∀ y : Held (fun W => W = w3), y.w.cell? ⟨b, off + i * 6 + 5, none⟩ = some (.int .u64 (l i).cur.lost) := fun y => by rw [y.ok]; exact px5 ⟨w3, hb5⟩
    have py0_ : ∀ y : Held (fun W => W = w3), y.w.cell? ⟨b2, off2 + i * 5, none⟩ = some (.int .i64 (s i).owners) := fun y => by rw [y.ok]; exact py0 ⟨w3, hb5⟩
    have py1_ : ∀ y : Held (fun W => W = w3), y.w.cell? ⟨b2, off2 + i * 5 + 1, none⟩ = some (.int .i64 (s i).seq) := fun y => by rw [y.ok]; exact py1 ⟨w3, hb5⟩
    have py2_ : ∀ y : Held (fun W => W = w3), y.w.cell? ⟨b2, off2 + i * 5 + 2, none⟩ = some (.int .i64 (s i).first) := fun y => by rw [y.ok]; exact py2 ⟨w3, hb5⟩
    have py3_ : ∀ y : Held (fun W => W = w3), y.w.cell? ⟨b2, off2 + i * 5 + 3, none⟩ = some (.int .i64 (s i).words) := fun y => by rw [y.ok]; exact py3 ⟨w3, hb5⟩
    have py4_ : ∀ y : Held (fun W => W = w3), y.w.cell? ⟨b2, off2 + i * 5 + 4, none⟩ = some (.int .i64 (s i).depth) := fun y => by rw [y.ok]; exact py4 ⟨w3, hb5⟩
    simp only [pick, List.map_cons, List.map_nil, List.getElem?_cons_zero, List.getElem?_cons_succ, Option.getD_some]
    repeat (go_big_quiet_step (fail))
    refine wpQuiet_nil ?_
    have L4 := Lib.hid (bl L0.out hb5)
    clear hne hne4 px0 px1 px2 px3 px4 px5 py0 py1 py2 py3 py4 px0_ px1_ px2_ px3_ px4_ px5_ py0_ py1_ py2_ py3_ py4_ hb5
    go_wp2_with fail
    clear kd kw k2
    have W4 := Lib.hid (Below.refl w3.heap.size w3)
    go_loopw [8] (fun s8 wr => ∃ k : Nat, k ≤ i ∧ s8 = .int .i64 k ∧ (∀ j, j < k → PairOk l s i j) ∧ Below w3.heap.size w3 wr) (fun s8 _ => i - (intOf s8).toNat)
    case atStart => exact ⟨0, by omega, rfl, fun j hj => absurd hj (by omega), W4.out⟩
    case round =>
      obtain ⟨k, hk, rfl, hs, hl⟩ := hrel
      have HPS := Lib.hid hs
      have M0 := Lib.hid hl
      clear hs hl W4
      obtain ⟨wq, rfl⟩ : ∃ W : World, W = wr := ⟨_, rfl⟩
      by_cases hlt : k < i
      rotate_left
      · obtain rfl : k = i := by omega
        have kd : decide ((k : Int) < (k : Int)) = false := decide_eq_false (by omega)
        clear hk hlt
        have L9 := Lib.hid (bl L4.out M0.out)
        go_wp2_with fail
        go_roundw
        case rel => exact ⟨k + 1, HI.out, HM.out.1, fun j hj => by
          by_cases e : j = k
          · rw [e]; exact HONE.out HPS.out
          · exact HS.out j (by omega), L9.out⟩
        case measure => exact HM.out.2
      have kd : decide ((k : Int) < (i : Int)) = true := decide_eq_true (by omega)
      have kk0 : (0 : Int) ≤ (k : Int) := by omega
      have kk1 : (k : Int) < (n : Int) := by have := HI.out; omega
      have HK := Lib.hid hlt
      have HM2 := Lib.hid (turn_no k i hlt (by have := HN.out; have := HI.out; omega))
      clear hk hlt
      have HX2 := Lib.hid (HC.out k (by have := HI.out; have := HK.out; omega))
      have HY2 := Lib.hid (HC2.out k (by have := HI.out; have := HK.out; omega))
      have M1 := Lib.hid (bl L4.out M0.out).drew
      go_upto_region 11 with fail
      have hne : Nonempty (Held (fun W => W = wq.drew)) := ⟨⟨_, rfl⟩⟩
      have ix0 : ∀ y : Held (fun W => W = wq.drew), y.w.cell? ⟨b, off + i * 6, none⟩ = some (.int .i64 (l i).topic) := fun y => ((show Below w.heap.size w y.w by rw [y.ok]; exact M1.out).cell (p := ⟨b, off + i * 6, none⟩) HB.out.1).trans HX.out.1
      have ix1 : ∀ y : Held (fun W => W = wq.drew), y.w.cell? ⟨b, off + i * 6 + 1, none⟩ = some (.int .i64 (l i).rank) := fun y => ((show Below w.heap.size w y.w by rw [y.ok]; exact M1.out).cell (p := ⟨b, off + i * 6 + 1, none⟩) HB.out.1).trans HX.out.2.1
      have ix2 : ∀ y : Held (fun W => W = wq.drew), y.w.cell? ⟨b, off + i * 6 + 2, none⟩ = some (.int .u64 (l i).cur.next) := fun y => ((show Below w.heap.size w y.w by rw [y.ok]; exact M1.out).cell (p := ⟨b, off + i * 6 + 2, none⟩) HB.out.1).trans HX.out.2.2.1
      have ix3 : ∀ y : Held (fun W => W = wq.drew), y.w.cell? ⟨b, off + i * 6 + 3, none⟩ = some (.int .i64 (l i).cur.cap) := fun y => ((show Below w.heap.size w y.w by rw [y.ok]; exact M1.out).cell (p := ⟨b, off + i * 6 + 3, none⟩) HB.out.1).trans HX.out.2.2.2.1
      have ix4 : ∀ y : Held (fun W => W = wq.drew), y.w.cell? ⟨b, off + i * 6 + 4, none⟩ = some (.int .u64 (l i).cur.got) := fun y => ((show Below w.heap.size w y.w by rw [y.ok]; exact M1.out).cell (p := ⟨b, off + i * 6 + 4, none⟩) HB.out.1).trans HX.out.2.2.2.2.1
      have ix5 : ∀ y : Held (fun W => W = wq.drew), y.w.cell? ⟨b, off + i * 6 + 5, none⟩ = some (.int .u64 (l i).cur.lost) := fun y => ((show Below w.heap.size w y.w by rw [y.ok]; exact M1.out).cell (p := ⟨b, off + i * 6 + 5, none⟩) HB.out.1).trans HX.out.2.2.2.2.2
      have iy0 : ∀ y : Held (fun W => W = wq.drew), y.w.cell? ⟨b2, off2 + i * 5, none⟩ = some (.int .i64 (s i).owners) := fun y => ((show Below w.heap.size w y.w by rw [y.ok]; exact M1.out).cell (p := ⟨b2, off2 + i * 5, none⟩) HB.out.2).trans HY.out.1
      have iy1 : ∀ y : Held (fun W => W = wq.drew), y.w.cell? ⟨b2, off2 + i * 5 + 1, none⟩ = some (.int .i64 (s i).seq) := fun y => ((show Below w.heap.size w y.w by rw [y.ok]; exact M1.out).cell (p := ⟨b2, off2 + i * 5 + 1, none⟩) HB.out.2).trans HY.out.2.1
      have iy2 : ∀ y : Held (fun W => W = wq.drew), y.w.cell? ⟨b2, off2 + i * 5 + 2, none⟩ = some (.int .i64 (s i).first) := fun y => ((show Below w.heap.size w y.w by rw [y.ok]; exact M1.out).cell (p := ⟨b2, off2 + i * 5 + 2, none⟩) HB.out.2).trans HY.out.2.2.1
      have iy3 : ∀ y : Held (fun W => W = wq.drew), y.w.cell? ⟨b2, off2 + i * 5 + 3, none⟩ = some (.int .i64 (s i).words) := fun y => ((show Below w.heap.size w y.w by rw [y.ok]; exact M1.out).cell (p := ⟨b2, off2 + i * 5 + 3, none⟩) HB.out.2).trans HY.out.2.2.2.1
      have iy4 : ∀ y : Held (fun W => W = wq.drew), y.w.cell? ⟨b2, off2 + i * 5 + 4, none⟩ = some (.int .i64 (s i).depth) := fun y => ((show Below w.heap.size w y.w by rw [y.ok]; exact M1.out).cell (p := ⟨b2, off2 + i * 5 + 4, none⟩) HB.out.2).trans HY.out.2.2.2.2
      have kx0 : ∀ y : Held (fun W => W = wq.drew), y.w.cell? ⟨b, off + k * 6, none⟩ = some (.int .i64 (l k).topic) := fun y => ((show Below w.heap.size w y.w by rw [y.ok]; exact M1.out).cell (p := ⟨b, off + k * 6, none⟩) HB.out.1).trans HX2.out.1
      have kx1 : ∀ y : Held (fun W => W = wq.drew), y.w.cell? ⟨b, off + k * 6 + 1, none⟩ = some (.int .i64 (l k).rank) := fun y => ((show Below w.heap.size w y.w by rw [y.ok]; exact M1.out).cell (p := ⟨b, off + k * 6 + 1, none⟩) HB.out.1).trans HX2.out.2.1
      have kx2 : ∀ y : Held (fun W => W = wq.drew), y.w.cell? ⟨b, off + k * 6 + 2, none⟩ = some (.int .u64 (l k).cur.next) := fun y => ((show Below w.heap.size w y.w by rw [y.ok]; exact M1.out).cell (p := ⟨b, off + k * 6 + 2, none⟩) HB.out.1).trans HX2.out.2.2.1
      have kx3 : ∀ y : Held (fun W => W = wq.drew), y.w.cell? ⟨b, off + k * 6 + 3, none⟩ = some (.int .i64 (l k).cur.cap) := fun y => ((show Below w.heap.size w y.w by rw [y.ok]; exact M1.out).cell (p := ⟨b, off + k * 6 + 3, none⟩) HB.out.1).trans HX2.out.2.2.2.1
      have kx4 : ∀ y : Held (fun W => W = wq.drew), y.w.cell? ⟨b, off + k * 6 + 4, none⟩ = some (.int .u64 (l k).cur.got) := fun y => ((show Below w.heap.size w y.w by rw [y.ok]; exact M1.out).cell (p := ⟨b, off + k * 6 + 4, none⟩) HB.out.1).trans HX2.out.2.2.2.2.1
      have kx5 : ∀ y : Held (fun W => W = wq.drew), y.w.cell? ⟨b, off + k * 6 + 5, none⟩ = some (.int .u64 (l k).cur.lost) := fun y => ((show Below w.heap.size w y.w by rw [y.ok]; exact M1.out).cell (p := ⟨b, off + k * 6 + 5, none⟩) HB.out.1).trans HX2.out.2.2.2.2.2
      have ky0 : ∀ y : Held (fun W => W = wq.drew), y.w.cell? ⟨b2, off2 + k * 5, none⟩ = some (.int .i64 (s k).owners) := fun y => ((show Below w.heap.size w y.w by rw [y.ok]; exact M1.out).cell (p := ⟨b2, off2 + k * 5, none⟩) HB.out.2).trans HY2.out.1
      have ky1 : ∀ y : Held (fun W => W = wq.drew), y.w.cell? ⟨b2, off2 + k * 5 + 1, none⟩ = some (.int .i64 (s k).seq) := fun y => ((show Below w.heap.size w y.w by rw [y.ok]; exact M1.out).cell (p := ⟨b2, off2 + k * 5 + 1, none⟩) HB.out.2).trans HY2.out.2.1
      have ky2 : ∀ y : Held (fun W => W = wq.drew), y.w.cell? ⟨b2, off2 + k * 5 + 2, none⟩ = some (.int .i64 (s k).first) := fun y => ((show Below w.heap.size w y.w by rw [y.ok]; exact M1.out).cell (p := ⟨b2, off2 + k * 5 + 2, none⟩) HB.out.2).trans HY2.out.2.2.1
      have ky3 : ∀ y : Held (fun W => W = wq.drew), y.w.cell? ⟨b2, off2 + k * 5 + 3, none⟩ = some (.int .i64 (s k).words) := fun y => ((show Below w.heap.size w y.w by rw [y.ok]; exact M1.out).cell (p := ⟨b2, off2 + k * 5 + 3, none⟩) HB.out.2).trans HY2.out.2.2.2.1
      have ky4 : ∀ y : Held (fun W => W = wq.drew), y.w.cell? ⟨b2, off2 + k * 5 + 4, none⟩ = some (.int .i64 (s k).depth) := fun y => ((show Below w.heap.size w y.w by rw [y.ok]; exact M1.out).cell (p := ⟨b2, off2 + k * 5 + 4, none⟩) HB.out.2).trans HY2.out.2.2.2.2
      have hsn := fun w => rspot_neq (s i) (s k) w
      unfold Spot.val at hsn
      by_cases ht : (l i).topic = (l k).topic
      · have kt : ((l i).topic == (l k).topic) = true := beq_iff_eq.2 ht
        have ku : ((l i).topic != (l k).topic) = false := by rw [ht]; exact bne_self_eq_false _
        by_cases hss : s i = s k
        · have HGOOD := Lib.hid (show PairOk l s i k from ⟨fun _ => hss, fun h => absurd ht h⟩)
          have kq : decide (s i = s k) = true := decide_eq_true hss
          rw [kq] at hsn
          clear ht hss kq
          refine drawn_bars (S := fun _ => True) [] [0, 1, 2, 3, 4, 5, 6, 7, 8, 9, 10, 11, 12, 13, 14, 15, 16, 17, 18, 19, 20, 21, 22, 23, 24, 25, 26, 27, 28, 29, 30, 31, 32, 33, 34, 35, 36, 37, 38, 39, 40, 41, 42, 43, 44, 45, 46, 47] (by kernel_rfl) (by kernel_rfl) (by kernel_rfl) rfl trivial ?_
          refine Phased.end_ ?_
          simp only [pick, List.map_cons, List.map_nil, List.getElem?_cons_zero, List.getElem?_cons_succ, Option.getD_some]
          repeat (go_big_quiet_step (fail))
          refine wpQuiet_nil ?_
          clear hne ix0 ix1 ix2 ix3 ix4 ix5 iy0 iy1 iy2 iy3 iy4 kx0 kx1 kx2 kx3 kx4 kx5 ky0 ky1 ky2 ky3 ky4
          have M4 := Lib.hid M0.out.drew
          generalize wq.drew = wz at *
          go_wp2_with fail
          go_roundw
          case rel => exact ⟨k + 1, HK.out, HM2.out.1, fun j hj => by
            by_cases e : j = k
            · rw [e]; exact HGOOD.out
            · exact HPS.out j (by omega), M4.out⟩
          case measure => exact HM2.out.2
        · have HBAD := Lib.hid (show ¬ OneOk l s i from fun h => hss ((h.2.2.2 k HK.out).1 ht))
          have kq : decide (s i = s k) = false := decide_eq_false hss
          rw [kq] at hsn
          clear ht hss kq
          refine drawn_bars (S := fun _ => True) [] [0, 1, 2, 3, 4, 5, 6, 7, 8, 9, 10, 11, 12, 13, 14, 15, 16, 17, 18, 19, 20, 21, 22, 23, 24, 25, 26, 27, 28, 29, 30, 31, 32, 33, 34, 35, 36, 37, 38, 39, 40, 41, 42, 43, 44, 45, 46, 47] (by kernel_rfl) (by kernel_rfl) (by kernel_rfl) rfl trivial ?_
          refine Phased.end_ ?_
          simp only [pick, List.map_cons, List.map_nil, List.getElem?_cons_zero, List.getElem?_cons_succ, Option.getD_some]
          repeat (go_big_quiet_step (fail))
          refine wpQuiet_nil ?_
          clear hne ix0 ix1 ix2 ix3 ix4 ix5 iy0 iy1 iy2 iy3 iy4 kx0 kx1 kx2 kx3 kx4 kx5 ky0 ky1 ky2 ky3 ky4
          have M4 := Lib.hid M0.out.drew
          generalize wq.drew = wz at *
          go_wp2_with fail
          go_ret
          exact ⟨by rw [HNF.out i HI.out HBAD.out] <;> rfl, (bl L4.out M4.out)⟩
      · have kt : ((l i).topic == (l k).topic) = false := beq_eq_false_iff_ne.2 ht
        have ku : ((l i).topic != (l k).topic) = true := bne_iff_ne.2 ht
        clear hsn
        by_cases hss : (s i).seq = (s k).seq
        · have HBAD := Lib.hid (show ¬ OneOk l s i from fun h => (h.2.2.2 k HK.out).2 ht hss)
          have kq : ((s i).seq == (s k).seq) = true := beq_iff_eq.2 hss
          clear ht hss
          refine drawn_bars (S := fun _ => True) [] [0, 1, 2, 3, 4, 5, 6, 7, 8, 9, 10, 11, 12, 13, 14, 15, 16, 17, 18, 19, 20, 21, 22, 23, 24, 25, 26, 27, 28, 29, 30, 31, 32, 33, 34, 35, 36, 37, 38, 39, 40, 41, 42, 43, 44, 45, 46, 47] (by kernel_rfl) (by kernel_rfl) (by kernel_rfl) rfl trivial ?_
          refine Phased.end_ ?_
          simp only [pick, List.map_cons, List.map_nil, List.getElem?_cons_zero, List.getElem?_cons_succ, Option.getD_some]
          repeat (go_big_quiet_step (fail))
          refine wpQuiet_nil ?_
          clear hne ix0 ix1 ix2 ix3 ix4 ix5 iy0 iy1 iy2 iy3 iy4 kx0 kx1 kx2 kx3 kx4 kx5 ky0 ky1 ky2 ky3 ky4
          have M4 := Lib.hid M0.out.drew
          generalize wq.drew = wz at *
          go_wp2_with fail
          go_ret
          exact ⟨by rw [HNF.out i HI.out HBAD.out] <;> rfl, (bl L4.out M4.out)⟩
        · have HGOOD := Lib.hid (show PairOk l s i k from ⟨fun h => absurd h ht, fun _ => hss⟩)
          have kq : ((s i).seq == (s k).seq) = false := beq_eq_false_iff_ne.2 hss
          clear ht hss
          refine drawn_bars (S := fun _ => True) [] [0, 1, 2, 3, 4, 5, 6, 7, 8, 9, 10, 11, 12, 13, 14, 15, 16, 17, 18, 19, 20, 21, 22, 23, 24, 25, 26, 27, 28, 29, 30, 31, 32, 33, 34, 35, 36, 37, 38, 39, 40, 41, 42, 43, 44, 45, 46, 47] (by kernel_rfl) (by kernel_rfl) (by kernel_rfl) rfl trivial ?_
          refine Phased.end_ ?_
          simp only [pick, List.map_cons, List.map_nil, List.getElem?_cons_zero, List.getElem?_cons_succ, Option.getD_some]
          repeat (go_big_quiet_step (fail))
          refine wpQuiet_nil ?_
          clear hne ix0 ix1 ix2 ix3 ix4 ix5 iy0 iy1 iy2 iy3 iy4 kx0 kx1 kx2 kx3 kx4 kx5 ky0 ky1 ky2 ky3 ky4
          have M4 := Lib.hid M0.out.drew
          generalize wq.drew = wz at *
          go_wp2_with fail
          go_roundw
          case rel => exact ⟨k + 1, HK.out, HM2.out.1, fun j hj => by
            by_cases e : j = k
            · rw [e]; exact HGOOD.out
            · exact HPS.out j (by omega), M4.out⟩
          case measure => exact HM2.out.2
end Go.Proofs.Ythcaagkgddeabaa.Bank
namespace Go.Proofs.Ythcaagkgddeabaa.Bank
set_option linter.unusedVariables false
set_option linter.unusedSimpArgs false
open Go Go.RowKit Go.Proofs.Ythcaagkgddeabaa.Base Go.Deep Go.ChangeShapes Go.WideShapes Go.Proofs.Ythcaagkgddeabaa.Queue
/-- none of the first k spots has the i-th one's seq -/
def firstQ (s : Nat → Spot) (i : Nat) : Nat → Bool
  | 0 => true
  | k + 1 => firstQ s i k && ((s k).seq != (s i).seq)
theorem firstQ_iff (s : Nat → Spot) (i k : Nat) : firstQ s i k = true ↔ ∀ j, j < k → (s j).seq ≠ (s i).seq := by
  induction k with
  | zero => exact ⟨fun _ j hj => absurd hj (by omega), fun _ => rfl⟩
  | succ k ih =>
    unfold firstQ
    rw [Bool.and_eq_true, ih, bne_iff_ne]
    exact ⟨fun h j hj => by
      by_cases e : j = k
      · rw [e]; exact h.2
      · exact h.1 j (by omega), fun h => ⟨fun j hj => h j (by omega), h k (by omega)⟩⟩
theorem firstQ_seqs (s : Nat → Spot) (i : Nat) : (seqsL s (i + 1)).length = (seqsL s i).length + (if firstQ s i i then 1 else 0) := by
  rw [seqsL_succ]
  by_cases h : (s i).seq ∈ seqsL s i
  · rw [if_pos h, if_neg]
    · rfl
    · intro hf
      obtain ⟨j, hj, e⟩ := (seqsL_mem s i _).1 h
      exact (firstQ_iff s i i).1 hf j hj e
  · rw [if_neg h, if_pos]
    · simp
    · rw [firstQ_iff]
      intro j hj e
      exact h ((seqsL_mem s i _).2 ⟨j, hj, e⟩)
set_option maxRecDepth 100000 in
set_option maxHeartbeats 16000000 in
theorem RMost_any (v : Value) (m : Nat) (s : Nat → Spot) (tries : Int) (w : World) (hs : Sps w v m s) (hm : m ≤ 64) :
    Calls Try.prog 29 #[v, .int .i64 tries] w fun e w' => e = .returned (.int .i64 (mostF m s tries)) ∧ Below w.heap.size w w' := by
  obtain ⟨A, c, rfl, _, hg⟩ := hs.form
  have HG := Lib.hid hg
  have HM0 := Lib.hid hm
  clear hs hg hm
  by_cases h0 : m = 0
  · subst h0
    have HF := Lib.hid (show mostF 0 s tries = 0 from if_neg (fun h => h.1 rfl))
    have kz : (((0 : Nat) : Int) == 0) = true := rfl
    clear HG
    go_enter Try.func29, Try.ntmps29
    go_wp2_with fail
    go_ret
    exact ⟨by rw [HF.out] <;> rfl, Below.refl _ _⟩
  have HZ := Lib.hid h0
  have kz : ((m : Int) == 0) = false := by simpa using h0
  by_cases g1 : 1 ≤ tries
  rotate_left
  · have e1 : decide (tries < 1) = true := decide_eq_true (by omega)
    have HF := Lib.hid (show mostF m s tries = 0 from if_neg (fun h => g1 h.2.1.1))
    clear g1 h0
    go_enter Try.func29, Try.ntmps29
    go_wp2_with fail
    go_ret
    exact ⟨by rw [HF.out] <;> rfl, Below.refl _ _⟩
  have e1 : decide (tries < 1) = false := decide_eq_false (by omega)
  by_cases g2 : tries ≤ 16
  rotate_left
  · have e2 : decide (tries > 16) = true := decide_eq_true (by omega)
    have HF := Lib.hid (show mostF m s tries = 0 from if_neg (fun h => g2 h.2.1.2))
    clear g1 g2 h0
    go_enter Try.func29, Try.ntmps29
    go_wp2_with fail
    go_ret
    exact ⟨by rw [HF.out] <;> rfl, Below.refl _ _⟩
  have e2 : decide (tries > 16) = false := decide_eq_false (by omega)
  have HTR := Lib.hid (And.intro g1 g2)
  obtain ⟨b, off, rfl, hb, hc⟩ := HG.out (by omega)
  have HB := Lib.hid hb
  have HC := Lib.hid hc
  clear g1 g2 h0 hb hc HG
  go_enter Try.func29, Try.ntmps29
  go_wp2_with fail
  clear kz e1 e2
  go_loopw [5, 6, 7, 8, 9] (fun s5 s6 s7 s8 s9 wr => ∃ i : Nat, i ≤ m ∧ s7 = .int .i64 i ∧ s5 = .int .i64 (2 * ((seqsL s i).length : Int)) ∧ s6 = .int .i64 (maxW s i) ∧ (∀ j, j < i → (s j).AtOk) ∧ Below w.heap.size w wr) (fun s5 s6 s7 s8 s9 _ => m - (intOf s7).toNat)
  case atStart => exact ⟨0, by omega, rfl, rfl, rfl, fun j hj => absurd hj (by omega), Below.refl _ _⟩
  case round =>
    obtain ⟨i, hi, rfl, rfl, rfl, hok, hl⟩ := hrel
    have HOK := Lib.hid hok
    have L0 := Lib.hid hl
    have HSL := Lib.hid (show (seqsL s i).length ≤ 64 from Nat.le_trans (seqsL_len s i) (by have h1 := HM0.out; omega))
    obtain ⟨mw, hmw⟩ : ∃ mw, maxW s i = mw := ⟨_, rfl⟩
    have HMW := Lib.hid hmw
    have HMR := Lib.hid (show 0 ≤ mw ∧ mw ≤ 64 from hmw ▸ maxW_range s i hok)
    obtain ⟨sl, hsl⟩ : ∃ sl, (seqsL s i).length = sl := ⟨_, rfl⟩
    have HSE := Lib.hid hsl
    rw [hmw, hsl]
    rw [hsl] at HSL
    clear hok hl hmw hsl
    by_cases hlt : i < m
    rotate_left
    · obtain rfl : i = m := by omega
      have kd : decide ((i : Int) < (i : Int)) = false := decide_eq_false (by omega)
      have HR := Lib.hid (show mostF i s tries = tries * (2 * (sl : Int) + mw) from by rw [← HMW.out, ← HSE.out]; exact if_pos ⟨HZ.out, HTR.out, HOK.out⟩)
      have hn2 : wrap64 (2 * (sl : Int) + mw) = 2 * (sl : Int) + mw := wrap64_in _ (by have h1 := HSL.out; have h2 := HMR.out; omega)
      have hn3 : wrap64 (tries * (2 * (sl : Int) + mw)) = tries * (2 * (sl : Int) + mw) := wrap64_in _ (by
        have h1 := HSL.out
        have h2 := HTR.out
        have h5 := HMR.out
        have h3 : 0 ≤ tries * (2 * (sl : Int) + mw) := Int.mul_nonneg (by omega) (by omega)
        have h4 : tries * (2 * (sl : Int) + mw) ≤ 16 * (2 * (sl : Int) + mw) := Int.mul_le_mul_of_nonneg_right h2.2 (by omega)
        omega)
      have HN23 := Lib.hid (And.intro hn2 hn3)
      clear hn2 hn3 hi hlt
      go_wp2_with fail
      go_ret
      refine ⟨?_, L0.out⟩
      show Ending.returned (Value.int .i64 (wrap64 (tries * wrap64 (2 * (sl : Int) + mw)))) = _
      rw [HN23.out.1, HN23.out.2, HR.out]
    have kd : decide ((i : Int) < (m : Int)) = true := decide_eq_true (by omega)
    have ki0 : (0 : Int) ≤ (i : Int) := by omega
    have ki1 : (i : Int) < (m : Int) := by omega
    have HI := Lib.hid hlt
    have HM := Lib.hid (turn_no i m hlt (by have h1 := HM0.out; unfold maxLen; omega))
    clear hi hlt
    have HX := Lib.hid (HC.out i HI.out)
    have x0 := (L0.out.cell (p := ⟨b, off + i * 5, none⟩) HB.out).trans HX.out.1
    have x1 := (L0.out.cell (p := ⟨b, off + i * 5 + 1, none⟩) HB.out).trans HX.out.2.1
    have x2 := (L0.out.cell (p := ⟨b, off + i * 5 + 2, none⟩) HB.out).trans HX.out.2.2.1
    have x3 := (L0.out.cell (p := ⟨b, off + i * 5 + 3, none⟩) HB.out).trans HX.out.2.2.2.1
    have x4 := (L0.out.cell (p := ⟨b, off + i * 5 + 4, none⟩) HB.out).trans HX.out.2.2.2.2
    have HAT := Lib.hid (fun W => rRight_any (s i) W)
    unfold Spot.val at HAT
    by_cases hat : (s i).AtOk
    rotate_left
    · have HR := Lib.hid (show mostF m s tries = 0 from if_neg (fun h => hat (h.2.2 i HI.out)))
      have HATB := Lib.hid (decide_eq_false hat)
      clear hat
      go_wp2_with fail
      refine (HAT.out _).mono ?_; rintro e w2 ⟨rfl, hb3⟩
      rw [HATB.out]
      have L2 := Lib.hid (bl L0.out hb3)
      clear hb3 x0 x1 x2 x3 x4
      go_wp2_with fail
      go_ret
      exact ⟨by rw [HR.out] <;> rfl, L2.out⟩
    have HAOK := Lib.hid hat
    have HATB := Lib.hid (decide_eq_true hat)
    clear hat
    go_wp2_with fail
    refine (HAT.out _).mono ?_; rintro e w2 ⟨rfl, hb3⟩
    rw [HATB.out]
    have L2 := Lib.hid (bl L0.out hb3)
    clear hb3 x0 x1 x2 x3 x4 L0
    go_wp2_with fail
    clear kd
    have HMX := Lib.hid (show maxW s (i + 1) = max mw (s i).words from by rw [← HMW.out]; rfl)
    have W4 := Lib.hid (Below.refl w2.heap.size w2)
    go_loopw [8, 9] (fun s8 s9 wr => ∃ k : Nat, k ≤ i ∧ s9 = .int .i64 k ∧ s8 = .bool (firstQ s i k) ∧ Below w2.heap.size w2 wr) (fun s8 s9 _ => i - (intOf s9).toNat)
    case atStart => exact ⟨0, by omega, rfl, rfl, W4.out⟩
    case round =>
      obtain ⟨k, hk, rfl, rfl, hl⟩ := hrel
      have M0 := Lib.hid hl
      have L3 := Lib.hid (bl L2.out hl)
      clear hl W4
      obtain ⟨wq, rfl⟩ : ∃ W : World, W = wr := ⟨_, rfl⟩
      by_cases hlt : k < i
      rotate_left
      · obtain rfl : k = i := by omega
        have kd : decide ((k : Int) < (k : Int)) = false := decide_eq_false (by omega)
        clear hk hlt
        have HFQ := Lib.hid (firstQ_seqs s k)
        have x3 := (L3.out.cell (p := ⟨b, off + k * 5 + 3, none⟩) HB.out).trans HX.out.2.2.2.1
        obtain ⟨fb, hfb⟩ : ∃ fb, firstQ s k k = fb := ⟨_, rfl⟩
        rw [hfb] at HFQ ⊢
        clear hfb
        have hnw : wrap64 (2 * (sl : Int) + 2) = 2 * (sl : Int) + 2 := wrap64_in _ (by have h1 := HSL.out; omega)
        have HNW := Lib.hid hnw
        clear hnw
        by_cases hgt : (s k).words > mw
        · have kg : decide ((s k).words > mw) = true := decide_eq_true hgt
          have HMA := Lib.hid (show maxW s (k + 1) = (s k).words from by rw [HMX.out]; omega)
          clear hgt
          cases fb
          · go_wp2_with fail
            go_roundw
            case rel => exact ⟨k + 1, HI.out, HM.out.1, by rw [HFQ.out, HSE.out]; rfl, by rw [HMA.out], fun j hj => by
              by_cases e : j = k
              · rw [e]; exact HAOK.out
              · exact HOK.out j (by omega), L3.out⟩
            case measure => exact HM.out.2
          · go_wp2_with fail
            go_roundw
            case rel => exact ⟨k + 1, HI.out, HM.out.1, by rw [HFQ.out, HSE.out]; exact congrArg (Value.int .i64) (HNW.out.trans (by simp; omega)), by rw [HMA.out], fun j hj => by
              by_cases e : j = k
              · rw [e]; exact HAOK.out
              · exact HOK.out j (by omega), L3.out⟩
            case measure => exact HM.out.2
        · have kg : decide ((s k).words > mw) = false := decide_eq_false hgt
          have HMA := Lib.hid (show maxW s (k + 1) = mw from by rw [HMX.out]; omega)
          clear hgt
          cases fb
          · go_wp2_with fail
            go_roundw
            case rel => exact ⟨k + 1, HI.out, HM.out.1, by rw [HFQ.out, HSE.out]; rfl, by rw [HMA.out], fun j hj => by
              by_cases e : j = k
              · rw [e]; exact HAOK.out
              · exact HOK.out j (by omega), L3.out⟩
            case measure => exact HM.out.2
          · go_wp2_with fail
            go_roundw
            case rel => exact ⟨k + 1, HI.out, HM.out.1, by rw [HFQ.out, HSE.out]; exact congrArg (Value.int .i64) (HNW.out.trans (by simp; omega)), by rw [HMA.out], fun j hj => by
              by_cases e : j = k
              · rw [e]; exact HAOK.out
              · exact HOK.out j (by omega), L3.out⟩
            case measure => exact HM.out.2
      have kd : decide ((k : Int) < (i : Int)) = true := decide_eq_true (by omega)
      have kk0 : (0 : Int) ≤ (k : Int) := by omega
      have kk1 : (k : Int) < (m : Int) := by have := HI.out; omega
      have HK := Lib.hid hlt
      have HM2 := Lib.hid (turn_no k i hlt (by have := HM0.out; have := HI.out; unfold maxLen; omega))
      clear hk hlt
      have HX2 := Lib.hid (HC.out k (by have := HI.out; have := HK.out; omega))
      go_upto_region 14 with fail
      have hne : Nonempty (Held (fun W => W = wq.drew)) := ⟨⟨_, rfl⟩⟩
      have LD := Lib.hid L3.out.drew
      have p1 : ∀ y : Held (fun W => W = wq.drew), y.w.cell? ⟨b, off + k * 5 + 1, none⟩ = some (.int .i64 (s k).seq) := fun y => by rw [y.ok]; exact (LD.out.cell (p := ⟨b, off + k * 5 + 1, none⟩) HB.out).trans HX2.out.2.1
      have p2 : ∀ y : Held (fun W => W = wq.drew), y.w.cell? ⟨b, off + i * 5 + 1, none⟩ = some (.int .i64 (s i).seq) := fun y => by rw [y.ok]; exact (LD.out.cell (p := ⟨b, off + i * 5 + 1, none⟩) HB.out).trans HX.out.2.1
      obtain ⟨tb, htb⟩ : ∃ tb, ((s k).seq != (s i).seq) = tb := ⟨_, rfl⟩
      have HFB := Lib.hid (show firstQ s i (k + 1) = (firstQ s i k && tb) from by rw [← htb]; rfl)
      obtain ⟨fb, hfb⟩ : ∃ fb, firstQ s i k = fb := ⟨_, rfl⟩
      rw [hfb] at HFB ⊢
      clear hfb
      cases fb
      · refine drawn_bars (S := fun _ => True) [] [0, 1, 2, 3, 4, 5, 6, 7, 8, 9, 10, 11, 12, 13, 14] (by kernel_rfl) (by kernel_rfl) (by kernel_rfl) rfl trivial ?_
        refine Phased.end_ ?_
        simp only [pick, List.map_cons, List.map_nil, List.getElem?_cons_zero, List.getElem?_cons_succ, Option.getD_some]
        repeat (go_big_quiet_step (fail))
        refine wpQuiet_nil ?_
        clear hne p1 p2
        have M4 := Lib.hid M0.out.drew
        generalize wq.drew = wz at *
        go_wp2_with fail
        go_roundw
        case rel => exact ⟨k + 1, HK.out, HM2.out.1, by rw [HFB.out]; try rfl, M4.out⟩
        case measure => exact HM2.out.2
      · refine drawn_bars (S := fun _ => True) [] [0, 1, 2, 3, 4, 5, 6, 7, 8, 9, 10, 11, 12, 13, 14] (by kernel_rfl) (by kernel_rfl) (by kernel_rfl) rfl trivial ?_
        refine Phased.end_ ?_
        simp only [pick, List.map_cons, List.map_nil, List.getElem?_cons_zero, List.getElem?_cons_succ, Option.getD_some]
        repeat (go_big_quiet_step (fail))
        refine wpQuiet_nil ?_
        clear hne p1 p2
        have M4 := Lib.hid M0.out.drew
        generalize wq.drew = wz at *
        go_wp2_with fail
        go_roundw
        case rel => exact ⟨k + 1, HK.out, HM2.out.1, by rw [HFB.out]; try rfl, M4.out⟩
        case measure => exact HM2.out.2
end Go.Proofs.Ythcaagkgddeabaa.Bank
