/-
  Law 6: the things that lie in a plan, and where each ends: the iterator's contract. Conditions stand at each. By an AI agent.
-/
import Derived.RangeFuncNested
import Derived.RangeFuncBound
import Derived.RangeFuncCalls
import Derived.RangeFuncLeaves
import Derived.RangeFuncFrom
import Derived.Shelf.Abstract
import Derived.Shelf.RegionOpen
import Derived.WalkKit
import Derived.OwnWalkIn
import Derived.TacticsInMore
import Derived.LoopNIn
import Derived.LoopIn
import Derived.Test.YtgdfhgoenemanaaDoorPlN
namespace Go.Proofs.YtgdfhgoenemanaaDoor.Plan
set_option linter.unusedVariables false
set_option linter.unusedSimpArgs false
open Go Go.RowKit Go.Shelf Go.Proofs Go.Proofs.YtgdfhgoenemanaaDoor.Base
attribute [local go_sem] Oper.semAt_some
abbrev encs (x : Int × Int) : Array Value := #[.int .i64 x.1, .int .i64 x.2]
def spanX (c : Cf) (j : Nat) : Int × Int := if j = 0 then (-1, 1) else if j = 1 then (-2, 1 + c.log) else (((j - 2 : Nat) : Int), offP c (j - 1))
def upto (c : Cf) (k : Nat) : List (Int × Int) := (List.range k).map (spanX c)
theorem upto_succ (c : Cf) (k : Nat) : upto c (k + 1) = upto c k ++ [spanX c k] := by unfold upto; rw [List.range_succ, List.map_append]; rfl
theorem upto_len (c : Cf) (k : Nat) : (upto c k).length = k := by simp [upto]
set_option maxRecDepth 100000 in
set_option maxHeartbeats 8000000 in
theorem spans1_in (F : Fence) (n : Nat) (h31 : F.fn 31) (hro : F.round = none) (hn : 1 ≤ n) (l bx sb cp n₀ m0 : Nat) (c : Cf) (OK : OkC c) (sz : Int) (J Jx : List (Int × Int) → World → Prop) (hJ : AbidesFrom m0 J) (hJx : AbidesFrom m0 Jx)
    (hY : ∀ pre x W1, J pre W1 → pre.length < c.n + 2 → YieldAt F (n - 1) Tryd.prog l (encs x) W1 fun e W' =>
      (e = .returned (.bool true) ∧ J (pre ++ [x]) W' ∧ Below n₀ W1 W') ∨ (e = .returned (.bool false) ∧ Jx (pre ++ [x]) W'))
    (W : World) (hB : Blk W bx 29 #[.int .i64 0, .int .i64 1, .int .i64 c.log, .slice (some ⟨sb, 0, none⟩) c.n cp, .int .i64 sz]) (hbx : bx < n₀) (hs : SpAt W sb c) (hsb : sb < n₀) (hn0 : n₀ ≤ W.heap.size) (h0 : J [] W) :
    CallsIn F n Tryd.prog 31 #[.func (.yield l) #[] #[], .pointer (some ⟨bx, 0, none⟩)] W fun e W' => (∃ v, e = .returned v) ∧
      ((∃ ys, ys = upto c (c.n + 2) ∧ J ys W') ∨ (∃ pre, (∃ k, 1 ≤ k ∧ k ≤ c.n + 2 ∧ pre = upto c k) ∧ Jx pre W')) := by
  have HL := OK.log
  have HN := OK.n
  have hlg0 : 1 ≤ c.log := HL.1
  have hlg1 : c.log ≤ 64 := HL.2
  have b0 := hB.cell 0
  simp only [List.getElem?_toArray, List.getElem?_cons_succ, List.getElem?_cons_zero] at b0
  refine callsIn_of_wp Tryd.func31 rfl h31 ?_ hro
  simp only [Tryd.ntmps31, List.size_toArray, List.length_cons, List.length_nil, Nat.reduceAdd, Nat.reduceSub, Array.replicate_succ, Array.replicate_zero, List.push_toArray, List.append_toArray, List.nil_append, List.cons_append]
  obtain ⟨f1, tm1, as1, bd1, hy1, hR1⟩ := hY [] (-1, 1) W h0 (by simp)
  dsimp only [encs] at hy1
  gi_wp2
  refine hR1.mono ?_
  rintro e W1 (⟨rfl, hJ1, hk1⟩ | ⟨rfl, hx1⟩)
  case inr =>
    gi_wp2
    refine ⟨fun _ h => (by cases h), ?_⟩
    gi_wp2
    refine bodyPost_ret (results_none rfl _ _ _) rfl ?_
    exact ⟨⟨_, rfl⟩, .inr ⟨_, ⟨1, by omega, by omega, rfl⟩, hx1⟩⟩
  case inl =>
    have hB1 := hB.below hk1 hbx
    have d0 := hB1.cell 0
    have d1 := hB1.cell 1
    have d2 := hB1.cell 2
    simp only [List.getElem?_toArray, List.getElem?_cons_succ, List.getElem?_cons_zero] at d0 d1 d2
    obtain ⟨f2, tm2, as2, bd2, hy2, hR2⟩ := hY _ (-2, 1 + c.log) W1 hJ1 (by simp)
    dsimp only [encs] at hy2
    gi_wp2
    refine hR2.mono ?_
    rintro e W2 (⟨rfl, hJ2, hk2⟩ | ⟨rfl, hx2⟩)
    case inr =>
      gi_wp2
      refine bodyPost_ret (results_none rfl _ _ _) rfl ?_
      exact ⟨⟨_, rfl⟩, .inr ⟨_, ⟨2, by omega, by omega, rfl⟩, hx2⟩⟩
    case inl =>
      have hk := hk1.trans hk2
      have hB2 := hB.below hk hbx
      have e3 := hB2.cell 3
      simp only [List.getElem?_toArray, List.getElem?_cons_succ, List.getElem?_cons_zero] at e3
      clear d0 d1 d2 b0
      have HB := Lib.hid hB
      have HSP := Lib.hid hs
      have HK := Lib.hid hk
      have HOK := Lib.hid OK
      have HY := Lib.hid hY
      have HJ := Lib.hid hJ
      have HN0 := Lib.hid hn0
      clear hB hs hk hk1 hk2 hB1 hB2 OK HL HN hY hJ hJx hR1 hR2 hy1 hy2 hlg0 hlg1 hJ1
      have HJ2 := Lib.hid hJ2
      clear hJ2
      gi_wp2
      clear e3
      gi_loopw [3, 4, 24] (fun s3 s4 s24 wr => ∃ k : Nat, k ≤ c.n ∧ s24 = .int .i64 k ∧ J (upto c (k + 2)) wr ∧ Below n₀ W wr) (fun s3 s4 s24 _ => c.n - (intOf s24).toNat)
      case atStart => exact ⟨0, Nat.zero_le _, rfl, HJ2.out, HK.out⟩
      case round =>
        obtain ⟨k, hk, rfl, hJs, hnx⟩ := hrel
        have HJS := Lib.hid hJs
        have HX := Lib.hid hnx
        clear hJs hnx
        by_cases hlt : k < c.n
        · have kd : decide ((k : Int) < (c.n : Int)) = true := decide_eq_true (by omega)
          have kdn : decide (k < c.n) = true := decide_eq_true hlt
          have ki0 : (0 : Int) ≤ (k : Int) := by omega
          have ki1 : (k : Int) < (c.n : Int) := by omega
          have ki5 : (k : Int) ≤ 1000 := by have := HOK.out.n; omega
          obtain ⟨c0, c1, c2, c3, c4⟩ := HSP.out.five hlt
          have hb := prod_bounds (HOK.out.l k hlt)
          have hof := offP_bounds HOK.out k (by omega)
          have hlog := HOK.out.log
          have hsx : spanX c (k + 2) = ((k : Int), offP c (k + 1)) := by unfold spanX; rw [if_neg (by omega), if_neg (by omega)]; rfl
          have hon : offP c (k + 1) = offP c k + 2 + (c.l k).words * (c.l k).depth := rfl
          simp only [spF] at c0 c1 c2 c3 c4
          generalize (c.l k).words = wo at *
          generalize (c.l k).depth = de at *
          obtain ⟨m, hm⟩ : ∃ m, wo * de = m := ⟨_, rfl⟩
          obtain ⟨ow, how⟩ : ∃ z, offP c k = z := ⟨_, rfl⟩
          obtain ⟨sq, hsq⟩ : ∃ z, ow + 1 = z := ⟨_, rfl⟩
          obtain ⟨fi, hfi⟩ : ∃ z, ow + 2 = z := ⟨_, rfl⟩
          rw [hm] at hb hon
          rw [how] at hof hon c0 c1 c2
          rw [hsq] at c1
          rw [hfi] at c2 hon
          have hkm : wrap64 (wo * de) = m := by rw [hm]; unfold wrap64; omega
          have kow : (ow == 0) = false := beq_eq_false_iff_ne.2 (by omega)
          have kown : (ow != 0) = true := by simp; omega
          have f0 : 0 ≤ fi := by omega
          have f1 : fi ≤ 100000 := by have := HOK.out.n; omega
          have m0' : 0 ≤ m := by omega
          have m1' : m ≤ 1024 := by omega
          have w0 := (HX.out.cell (p := ⟨sb, k * 5, none⟩) hsb).trans c0
          have w1 := (HX.out.cell (p := ⟨sb, k * 5 + 1, none⟩) hsb).trans c1
          have w2 := (HX.out.cell (p := ⟨sb, k * 5 + 2, none⟩) hsb).trans c2
          have w3 := (HX.out.cell (p := ⟨sb, k * 5 + 3, none⟩) hsb).trans c3
          have w4 := (HX.out.cell (p := ⟨sb, k * 5 + 4, none⟩) hsb).trans c4
          have hJa : J (upto c (k + 2)) (wr.alloc (.cells #[.int .i64 ow, .int .i64 sq, .int .i64 fi, .int .i64 wo, .int .i64 de] 43)) := HJ.out _ _ _ none HJS.out (World.grownBy_alloc wr _ none) (fun r e => by cases e)
          obtain ⟨fn, tmps, assign, body, hy, hR⟩ := HY.out _ ((k : Int), fi + m) _ hJa (by rw [upto_len]; omega)
          dsimp only [encs] at hy
          have HON := Lib.hid (show spanX c (k + 2) = ((k : Int), fi + m) by rw [hsx, hon])
          have HR := Lib.hid hR
          have HXA := Lib.hid (HX.out.alloc (Nat.le_trans HN0.out HX.out.size) (.cells #[.int .i64 ow, .int .i64 sq, .int .i64 fi, .int .i64 wo, .int .i64 de] 43))
          have HI := Lib.hid hlt
          clear hb hof hlog hsx hon hm how hsq hfi hR hJa c0 c1 c2 c3 c4 hlt hk
          gi_wp2
          refine HR.out.mono ?_
          rintro e W3 (⟨rfl, hJ3, hk3⟩ | ⟨rfl, hJx3⟩)
          · have HJ3 := Lib.hid (show J (upto c (k + 1 + 2)) W3 by rw [show k + 1 + 2 = (k + 2) + 1 by omega, upto_succ, HON.out]; exact hJ3)
            have HK3 := Lib.hid (HXA.out.trans hk3)
            clear hJ3 hk3 w0 w1 w2 w3 w4 hy
            gi_wp2
            go_roundw
            case rel => exact ⟨k + 1, HI.out, by simp, HJ3.out, HK3.out⟩
            case measure => have := HI.out; simp [intOf]; omega
          · have HJ3 := Lib.hid (show Jx (upto c (k + 3)) W3 by rw [show k + 3 = (k + 2) + 1 by omega, upto_succ, HON.out]; exact hJx3)
            clear hJx3
            gi_wp2
            refine bodyPost_ret (results_none rfl _ _ _) rfl ?_
            exact ⟨⟨_, rfl⟩, .inr ⟨_, ⟨k + 3, by omega, by have := HI.out; omega, rfl⟩, HJ3.out⟩⟩
        · have he : k = c.n := by omega
          have kd : decide ((k : Int) < (c.n : Int)) = false := decide_eq_false (by omega)
          have kdn : decide (k < c.n) = false := decide_eq_false hlt
          have HE := Lib.hid he
          clear he hlt hk
          gi_wp2
          go_end0
          exact ⟨⟨_, rfl⟩, .inl ⟨_, rfl, by rw [← HE.out]; exact HJS.out⟩⟩
end Go.Proofs.YtgdfhgoenemanaaDoor.Plan
