/-
  Package queue's Pick on any subscriptions. Conditions stand at each. By an AI agent.
-/
import Derived.Test.YthcaagkgddeabaaTake
import Derived.WalkMore
import Derived.Deep.RegionWith
import Derived.Deep.CutRange
namespace Go.Proofs.Ythcaagkgddeabaa.Queue
set_option linter.unusedVariables false
set_option linter.unusedSimpArgs false
open Go Go.RowKit Go.Proofs.Ythcaagkgddeabaa.Base

structure Sub where
  topic : Int
  rank : Int
  cur : Cur
structure Sub.Ok (s : Sub) : Prop where
  rank : -9223372036854775808 ≤ s.rank ∧ s.rank ≤ 9223372036854775807
  cur : s.cur.Ok
structure Subs (w : World) (v : Value) (n : Nat) (l : Nat → Sub) : Prop where
  form : ∃ A c, v = .slice A n c ∧ n ≤ maxLen ∧ (0 < n → ∃ b o, A = some ⟨b, o, none⟩ ∧ b < w.heap.size ∧ ∀ i : Nat, i < n →
    w.cell? ⟨b, o + i * 6, none⟩ = some (.int .i64 (l i).topic) ∧ w.cell? ⟨b, o + i * 6 + 1, none⟩ = some (.int .i64 (l i).rank) ∧ w.cell? ⟨b, o + i * 6 + 2, none⟩ = some (.int .u64 (l i).cur.next) ∧
    w.cell? ⟨b, o + i * 6 + 3, none⟩ = some (.int .i64 (l i).cur.cap) ∧ w.cell? ⟨b, o + i * 6 + 4, none⟩ = some (.int .u64 (l i).cur.got) ∧ w.cell? ⟨b, o + i * 6 + 5, none⟩ = some (.int .u64 (l i).cur.lost))
  ok : ∀ i : Nat, i < n → (l i).Ok

/-- the first one of the first k by rank that has something queued -/
def best (l : Nat → Sub) (gs : List Int) : Nat → Int
  | 0 => -1
  | k + 1 => if nth gs k < (seen (l k).cur (nth gs k)).next then best l gs k else if 0 ≤ best l gs k ∧ (l k).rank ≤ (l (best l gs k).toNat).rank then best l gs k else (k : Int)
theorem best_succ (l : Nat → Sub) (gs : List Int) (k : Nat) : best l gs (k + 1) = if nth gs k < (seen (l k).cur (nth gs k)).next then best l gs k else if 0 ≤ best l gs k ∧ (l k).rank ≤ (l (best l gs k).toNat).rank then best l gs k else (k : Int) := rfl
theorem best_lt (l : Nat → Sub) (gs : List Int) (k : Nat) : -1 ≤ best l gs k ∧ best l gs k < k := by
  induction k with
  | zero => unfold best; omega
  | succ k ih =>
    unfold best
    split
    · omega
    · split <;> omega
/-- what Pick tells -/
def PickIs (n : Nat) (l : Nat → Sub) (gs : List Int) (x e : Int) : Prop :=
  (n ≠ gs.length ∧ x = 0 ∧ e = 1) ∨ (n = gs.length ∧ (∃ i, i < n ∧ ¬ (l i).cur.Right) ∧ x = 0 ∧ e = 1) ∨
  (n = gs.length ∧ (∀ i, i < n → (l i).cur.Right) ∧ (∃ i, i < n ∧ ¬ Is (nth gs i)) ∧ x = 0 ∧ e = 10) ∨
  (n = gs.length ∧ (∀ i, i < n → (l i).cur.Right) ∧ (∀ i, i < n → Is (nth gs i)) ∧ x = best l gs n ∧ e = 0)
theorem PickIs.unique {n : Nat} {l : Nat → Sub} {gs : List Int} {x e x' e' : Int} (h : PickIs n l gs x e) (h' : PickIs n l gs x' e') : x = x' ∧ e = e' := by
  unfold PickIs at h h'
  rcases h with ⟨a, b, c⟩ | ⟨a, ⟨i, hi, hr⟩, b, c⟩ | ⟨a, hr, ⟨i, hi, hg⟩, b, c⟩ | ⟨a, hr, hg, b, c⟩ <;> rcases h' with ⟨a', b', c'⟩ | ⟨a', ⟨i', hi', hr'⟩, b', c'⟩ | ⟨a', hr', ⟨i', hi', hg'⟩, b', c'⟩ | ⟨a', hr', hg', b', c'⟩ <;>
    first
      | exact ⟨by omega, by omega⟩
      | exact absurd (hr' i hi) hr
      | exact absurd (hr i' hi') hr'
      | exact absurd (hg' i hi) hg
      | exact absurd (hg i' hi') hg'
      | exact ⟨by rw [b, b'], by omega⟩

section
variable {w : World} {g k : Nat} {t u : TypeId} {a b c d x0 x1 x2 x3 : Value} {cs : Array Value}
theorem blk_set4 (h : Blk w g t #[a, b, c, d]) : Blk ((((w.setCell ⟨g, 0, none⟩ x0).setCell ⟨g, 1, none⟩ x1).setCell ⟨g, 2, none⟩ x2).setCell ⟨g, 3, none⟩ x3) g t #[x0, x1, x2, x3] := by
  have := (((h.set_ 0 x0).set_ 1 x1).set_ 2 x2).set_ 3 x3
  simpa using this
theorem far_set4 (h : Blk w k u cs) (hne : k ≠ g) : Blk ((((w.setCell ⟨g, 0, none⟩ x0).setCell ⟨g, 1, none⟩ x1).setCell ⟨g, 2, none⟩ x2).setCell ⟨g, 3, none⟩ x3) k u cs :=
  (((h.far (p := ⟨g, 0, none⟩) hne _).far (p := ⟨g, 1, none⟩) hne _).far (p := ⟨g, 2, none⟩) hne _).far (p := ⟨g, 3, none⟩) hne _
theorem below_set4 {B : Nat} {w0 : World} (h : Below B w0 w) (hg : B ≤ g) : Below B w0 ((((w.setCell ⟨g, 0, none⟩ x0).setCell ⟨g, 1, none⟩ x1).setCell ⟨g, 2, none⟩ x2).setCell ⟨g, 3, none⟩ x3) :=
  (((h.setCell (p := ⟨g, 0, none⟩) hg _).setCell (p := ⟨g, 1, none⟩) hg _).setCell (p := ⟨g, 2, none⟩) hg _).setCell (p := ⟨g, 3, none⟩) hg _
end

set_option maxRecDepth 100000 in
set_option maxHeartbeats 8000000 in
theorem Pick_any (v : Value) (n : Nat) (l : Nat → Sub) (u : Value) (gs : List Int) (w : World) (hs : Subs w v n l) (hi : Ints w .u64 u gs) (hg : ∀ x ∈ gs, 0 ≤ x ∧ x ≤ 18446744073709551615) :
    Calls Try.prog 63 #[v, u] w fun e w' => ∃ x er : Int, e = .returned (.tuple #[.int .i64 x, .int .i64 er]) ∧ PickIs n l gs x er ∧ Below w.heap.size w w' := by
  obtain ⟨A, c, rfl, hl, hf⟩ := hs.form
  obtain ⟨A2, c2, rfl, hl2, hf2⟩ := hi.form
  have HOK := Lib.hid hs.ok
  have HF := Lib.hid hf
  have HF2 := Lib.hid hf2
  have HG := Lib.hid (show ∀ i, i < gs.length → 0 ≤ nth gs i ∧ nth gs i ≤ 18446744073709551615 from fun i h => hg _ (nth_mem h))
  unfold maxLen at hl hl2
  clear hf hf2 hs hi hg
  obtain ⟨m, hm⟩ : ∃ m, m = gs.length := ⟨_, rfl⟩
  by_cases hnm : n = m
  · have HM := Lib.hid hm
    rw [← hm] at HF2 HG hl2
    simp only [← hm]
    clear hm
    subst hnm
    have e1 : ((n : Int) != (n : Int)) = false := by simp
    go_enter Try.func63, Try.ntmps63
    go_wp2_with fail
    go_step3
    go_wp2_with fail
    go_loopw [20] (fun i wr => ∃ k : Nat, k ≤ n ∧ i = .int .i64 k ∧ (∀ j, j < k → (l j).cur.Right) ∧ Below w.heap.size w wr) (fun i _ => n - (intOf i).toNat)
    case atStart => exact ⟨0, by omega, rfl, fun j hj => absurd hj (by omega), Below.refl _ _⟩
    case round =>
      obtain ⟨k, hk, rfl, hrt, hbl⟩ := hrel
      have HRT := Lib.hid hrt
      have L1 := Lib.hid hbl
      clear hrt hbl
      by_cases hlt : k < n
      · obtain ⟨b, o, rfl, hb, hc⟩ := HF.out (by omega)
        have hkk := HOK.out k hlt
        obtain ⟨c0, c1, c2', c3, c4, c5⟩ := hc k hlt
        clear hc
        have c0' := (L1.out.cell (p := ⟨b, o + k * 6, none⟩) hb).trans c0
        have c1' := (L1.out.cell (p := ⟨b, o + k * 6 + 1, none⟩) hb).trans c1
        have c2'' := (L1.out.cell (p := ⟨b, o + k * 6 + 2, none⟩) hb).trans c2'
        have c3' := (L1.out.cell (p := ⟨b, o + k * 6 + 3, none⟩) hb).trans c3
        have c4' := (L1.out.cell (p := ⟨b, o + k * 6 + 4, none⟩) hb).trans c4
        have c5' := (L1.out.cell (p := ⟨b, o + k * 6 + 5, none⟩) hb).trans c5
        clear c0 c1 c2' c3 c4 c5
        have hd1 : decide ((k : Int) < (n : Int)) = true := decide_eq_true (by omega)
        have hsz := L1.out.size
        go_wp2_with fail
        refine (right_any (l k).cur _).mono ?_; rintro e w2 ⟨rfl, rfl⟩
        by_cases hr : (l k).cur.Right
        · rw [decide_eq_true hr]
          go_wp2_with fail
          go_roundw
          case rel => exact ⟨k + 1, by omega, by go_num, fun j hj => by
            by_cases e : j = k
            · subst e; exact hr
            · exact HRT.out j (by omega), (L1.out.alloc hsz _).alloc (by simp; omega) _⟩
          case measure => simp [intOf]; omega
        · rw [decide_eq_false hr]
          go_wp2_with fail
          rw [Exit.noGoto_ret]
          go_ret2
          exact ⟨0, 1, rfl, .inr (.inl ⟨HM.out, ⟨k, hlt, hr⟩, rfl, rfl⟩), (L1.out.alloc hsz _).alloc (by simp; omega) _⟩
      · obtain rfl : k = n := by omega
        go_wp2_with fail
        go_step3
        go_wp2_with fail
        have HRT2 := Lib.hid (show ∀ j, j < k → (l j).cur.Right from HRT.out)
        obtain ⟨w0, rfl⟩ : ∃ w0 : World, w0 = wr := ⟨_, rfl⟩
        go_loopw [31, 8] (fun i bs wr => ∃ q : Nat, q ≤ k ∧ i = .int .i64 q ∧ bs = .int .i64 (best l gs q) ∧ (∀ j, j < q → Is (nth gs j)) ∧ Below w.heap.size w wr) (fun i _ _ => k - (intOf i).toNat)
        case atStart => exact ⟨0, by omega, rfl, rfl, fun j hj => absurd hj (by omega), L1.out⟩
        case round =>
          obtain ⟨q, hq, rfl, rfl, his, hbl⟩ := hrel
          have HIS := Lib.hid his
          have L2 := Lib.hid hbl
          clear his hbl HRT
          by_cases hlt2 : q < k
          · obtain ⟨b, o, rfl, hb, hc⟩ := HF.out (by omega)
            obtain ⟨b2, o2, rfl, hb2, hc2⟩ := HF2.out (by intro h; have := HM.out; rw [h] at this; simp at this; omega)
            have hkk := HOK.out q hlt2
            obtain ⟨c0, c1, c2', c3, c4, c5⟩ := hc q hlt2
            have HC := Lib.hid hc
            have HC2 := Lib.hid hc2
            clear hc hc2
            have c0' := (L2.out.cell (p := ⟨b, o + q * 6, none⟩) hb).trans c0
            have c1' := (L2.out.cell (p := ⟨b, o + q * 6 + 1, none⟩) hb).trans c1
            have c2'' := (L2.out.cell (p := ⟨b, o + q * 6 + 2, none⟩) hb).trans c2'
            have c3' := (L2.out.cell (p := ⟨b, o + q * 6 + 3, none⟩) hb).trans c3
            have c4' := (L2.out.cell (p := ⟨b, o + q * 6 + 4, none⟩) hb).trans c4
            have c5' := (L2.out.cell (p := ⟨b, o + q * 6 + 5, none⟩) hb).trans c5
            clear c0 c1 c2' c3 c4 c5
            have hd1 : decide ((q : Int) < (k : Int)) = true := decide_eq_true (by omega)
            have hgq := HG.out q hlt2
            have hg0 := hgq.1
            have g1 := (L2.out.cell (p := ⟨b2, o2 + q, none⟩) hb2).trans (HC2.out q hlt2)
            have hi0 : (0 : Int) ≤ (q : Int) := by omega
            have hi1 : (q : Int) < (k : Int) := by omega
            have hsz := L2.out.size
            have hbr : b2 < wr.heap.size := by omega
            have HSEE := Lib.hid (See_any (l q).cur (nth gs q) hkk.cur hgq)
            obtain ⟨W0, hW0⟩ : ∃ W0 : World, W0 = wr.alloc (.cells #[.int .i64 (l q).topic, .int .i64 (l q).rank, .int .u64 (l q).cur.next, .int .i64 (l q).cur.cap, .int .u64 (l q).cur.got, .int .u64 (l q).cur.lost] 46) := ⟨_, rfl⟩
            have hz0 : Blk W0 wr.heap.size 46 #[.int .i64 (l q).topic, .int .i64 (l q).rank, .int .u64 (l q).cur.next, .int .i64 (l q).cur.cap, .int .u64 (l q).cur.got, .int .u64 (l q).cur.lost] := by rw [hW0]; exact Blk.new _ _ _
            have HSZ0 := Lib.hid (show W0.heap.size = wr.heap.size + 1 by rw [hW0]; exact World.size_alloc _ _)
            have hL0 : Below w.heap.size w W0 := by rw [hW0]; exact L2.out.alloc hsz _
            have hz1 : Blk (W0.alloc (.cells #[.int .u64 0, .int .i64 0, .int .u64 0, .int .u64 0] 44)).drew W0.heap.size 44 #[.int .u64 0, .int .i64 0, .int .u64 0, .int .u64 0] := Blk.new _ _ _
            have hz2 := Lib.hid (show Blk (W0.alloc (.cells #[.int .u64 0, .int .i64 0, .int .u64 0, .int .u64 0] 44)).drew wr.heap.size 46 #[.int .i64 (l q).topic, .int .i64 (l q).rank, .int .u64 (l q).cur.next, .int .i64 (l q).cur.cap, .int .u64 (l q).cur.got, .int .u64 (l q).cur.lost] from (hz0.alloc _).drew)
            have hLs := Lib.hid (show w.heap.size ≤ W0.heap.size from hL0.size)
            have hL1 := Lib.hid (show Below w.heap.size w (W0.alloc (.cells #[.int .u64 0, .int .i64 0, .int .u64 0, .int .u64 0] 44)).drew from (hL0.alloc hLs.out _).drew)
            have e0 := hz0.cell 2
            have e1' := hz0.cell 3
            have e2 := hz0.cell 4
            have e3 := hz0.cell 5
            have gW : W0.cell? ⟨b2, o2 + q, none⟩ = some (.int .u64 (nth gs q)) := by
              have := ((Below.refl wr.heap.size wr).alloc (Nat.le_refl _) (.cells #[.int .i64 (l q).topic, .int .i64 (l q).rank, .int .u64 (l q).cur.next, .int .i64 (l q).cur.cap, .int .u64 (l q).cur.got, .int .u64 (l q).cur.lost] 46)).cell (p := ⟨b2, o2 + q, none⟩) hbr
              rw [hW0]
              exact this.trans g1
            simp only [List.getElem?_toArray, List.getElem?_cons_succ, List.getElem?_cons_zero] at e0 e1' e2 e3
            have hbn1 : ¬ b2 = W0.heap.size := by have := HSZ0.out; omega
            have hbn2 : ¬ wr.heap.size = W0.heap.size := by have := HSZ0.out; omega
            have hbn3 : b2 < W0.heap.size := by have := HSZ0.out; omega
            have hbn4 : wr.heap.size < W0.heap.size := by have := HSZ0.out; omega
            have HSEEN := Lib.hid (seeC_ok (g := nth gs q) hkk.cur hg0)
            obtain ⟨sc, hsc⟩ : ∃ sc, sc = seeC (l q).cur (nth gs q) := ⟨_, rfl⟩
            rw [← hsc] at HSEE HSEEN
            have HSC := Lib.hid hsc
            clear hsc
            obtain ⟨ee, hee⟩ : ∃ ee, ee = mayE (l q).cur (nth gs q) := ⟨_, rfl⟩
            rw [← hee] at HSEE
            have HEE := Lib.hid hee
            clear hee
            unfold Cur.val at HSEE
            go_upto_region 13 with fail
            rw [← hW0]
            clear hW0
            generalize hkq : wr.heap.size = kq at *
            go_cut [11, 12, 31] from 31 to 72 (fun p e i wx => ∃ bb : Nat, p = .pointer (some ⟨bb, 0, none⟩) ∧ e = .int .i64 ee ∧ i = .int .i64 q ∧ Blk wx bb 44 #[.int .u64 sc.next, .int .i64 sc.cap, .int .u64 sc.got, .int .u64 sc.lost] ∧ Blk wx kq 46 #[.int .i64 (l q).topic, .int .i64 (l q).rank, .int .u64 (l q).cur.next, .int .i64 (l q).cur.cap, .int .u64 (l q).cur.got, .int .u64 (l q).cur.lost] ∧ Below w.heap.size w wx)
            case first =>
              go_region_with (go_at_call 67; refine (HSEE.out _).mono ?_; rintro e w5 ⟨rfl, hb5⟩; first | (have zb := hz1.bl hb5; have q0 := zb.cell 0; have q1 := zb.cell 1; have q2 := zb.cell 2; have q3 := zb.cell 3; have u0 := zb.frozen 0; have u1 := zb.frozen 1; have u2 := zb.frozen 2; have u3 := zb.frozen 3; simp only [List.getElem?_toArray, List.getElem?_cons_succ, List.getElem?_cons_zero] at q0 q1 q2 q3) | skip)
              all_goals go_wp2_with fail
              all_goals go_meet
              all_goals first
                | (have zb' := zb; refine ⟨_, rfl, rfl, rfl, blk_set4 zb', far_set4 (Blk.bl hz2.out hb5) hbn2, below_set4 (bl hL1.out hb5) hLs.out⟩; done)
                | (refine ⟨_, rfl, rfl, rfl, Blk.new _ _ _, ((hz0.drew).bl hb5).alloc _, (bl hL0.drew hb5).alloc (bl hL0.drew hb5).size _⟩)
            case rest => 
              obtain ⟨bb, rfl, rfl, rfl, hzc, hzs, hLc⟩ := hcut
              obtain ⟨wd, rfl⟩ : ∃ wd : World, wd = wc := ⟨_, rfl⟩
              have L5 := Lib.hid hLc
              have z0 := hzc.cell 0
              have s1 := hzs.cell 1
              simp only [List.getElem?_toArray, List.getElem?_cons_succ, List.getElem?_cons_zero] at z0 s1
              have gC := (hLc.cell (p := ⟨b2, o2 + q, none⟩) hb2).trans (HC2.out q hlt2)
              have hrq := HRT2.out q hlt2
              have hstep := best_succ l gs q
              clear hzc hzs hLc e0 e1' e2 e3 gW hz0 hz1 hbn1 hbn2 hbn3 hbn4 hL0 c0' c1' c2'' c3' c4' c5' g1 hL1 hz2 hLs
              by_cases his : Is (nth gs q)
              · have he0 : ee = 0 := by rw [HEE.out]; exact mayE_yes hrq his
                have hs0 : sc = seen (l q).cur (nth gs q) := by rw [HSC.out]; unfold seeC; rw [if_pos (by rw [mayE_yes hrq his])]
                rw [← hs0] at hstep
                have hee0 : (ee != 0) = false := by rw [he0]; rfl
                have HIS2 := Lib.hid (show ∀ j, j < q + 1 → Is (nth gs j) from fun j hj => by
                  by_cases e : j = q
                  · rw [e]; exact his
                  · exact HIS.out j (by omega))
                subst he0
                clear hs0 HEE HSC HSEE
                by_cases hlw : nth gs q < sc.next
                · have hd2 : decide (nth gs q < sc.next) = true := decide_eq_true hlw
                  rw [if_pos hlw] at hstep
                  have HSTEP := Lib.hid hstep
                  clear hstep
                  go_wp2_with fail
                  go_quiet (fail)
                  go_wp2_with fail
                  go_roundw
                  case rel => exact ⟨q + 1, by omega, by go_num, by rw [HSTEP.out], HIS2.out, below_drewN L5.out _⟩
                  case measure => simp [intOf]; omega
                · have hd2 : decide (nth gs q < sc.next) = false := decide_eq_false hlw
                  rw [if_neg hlw] at hstep
                  have hbl := best_lt l gs q
                  by_cases hbn : best l gs q < 0
                  · have hd3 : decide (0 ≤ best l gs q) = false := decide_eq_false (by omega)
                    rw [if_neg (by omega)] at hstep
                    have HSTEP := Lib.hid hstep
                    clear hstep
                    go_wp2_with fail
                    go_quiet (fail)
                    go_wp2_with fail
                    go_quiet (fail)
                    go_wp2_with fail
                    go_roundw
                    case rel => exact ⟨q + 1, by omega, by go_num, by rw [HSTEP.out], HIS2.out, below_drewN L5.out _⟩
                    case measure => simp [intOf]; omega
                  · obtain ⟨B, hB⟩ : ∃ B : Nat, best l gs q = (B : Int) := ⟨(best l gs q).toNat, by omega⟩
                    rw [hB] at hstep hbl
                    rw [show ((B : Int)).toNat = B from rfl] at hstep
                    simp only [hB] at hbn
                    have hB1 : B < q := by omega
                    have cB := (L5.out.cell (p := ⟨b, o + B * 6 + 1, none⟩) hb).trans (HC.out B (by omega)).2.1
                    have hi2 : (0 : Int) ≤ (B : Int) := by omega
                    have hi3 : (B : Int) < (k : Int) := by omega
                    have hd3 : decide ((0 : Int) ≤ (B : Int)) = true := decide_eq_true hi2
                    rw [hB]
                    clear hB
                    by_cases hrk : (l q).rank ≤ (l B).rank
                    · have hd4 : decide ((l q).rank ≤ (l B).rank) = true := decide_eq_true hrk
                      rw [if_pos ⟨hi2, hrk⟩] at hstep
                      have HSTEP := Lib.hid hstep
                      clear hstep
                      go_wp2_with fail
                      go_quiet (fail)
                      go_wp2_with fail
                      go_quiet (fail)
                      go_wp2_with fail
                      go_roundw
                      case rel => exact ⟨q + 1, by omega, by go_num, by rw [HSTEP.out], HIS2.out, below_drewN L5.out _⟩
                      case measure => simp [intOf]; omega
                    · have hd4 : decide ((l q).rank ≤ (l B).rank) = false := decide_eq_false hrk
                      rw [if_neg (by omega)] at hstep
                      have HSTEP := Lib.hid hstep
                      clear hstep
                      go_wp2_with fail
                      go_quiet (fail)
                      go_wp2_with fail
                      go_quiet (fail)
                      go_wp2_with fail
                      go_roundw
                      case rel => exact ⟨q + 1, by omega, by go_num, by rw [HSTEP.out], HIS2.out, below_drewN L5.out _⟩
                      case measure => simp [intOf]; omega
              · have he0 : ee = 10 := by rw [HEE.out]; unfold mayE; rw [if_pos hrq, if_neg his]
                subst he0
                have HNO := Lib.hid (show PickIs k l gs 0 10 from .inr (.inr (.inl ⟨HM.out, HRT2.out, ⟨q, hlt2, his⟩, rfl, rfl⟩)))
                clear hstep HEE HSC HSEE
                go_wp2_with fail
                rw [Exit.noGoto_ret]
                go_ret2
                exact ⟨0, 10, rfl, HNO.out, L5.out⟩
          · obtain rfl : q = k := by omega
            have hd1 : decide ((q : Int) < (q : Int)) = false := decide_eq_false (by omega)
            have HYES := Lib.hid (show PickIs q l gs (best l gs q) 0 from .inr (.inr (.inr ⟨HM.out, HRT2.out, HIS.out, rfl, rfl⟩)))
            go_wp2_with fail
            rw [Exit.noGoto_ret]
            go_ret2
            exact ⟨best l gs q, 0, rfl, HYES.out, L2.out⟩
  · have e1 : ((n : Int) != (m : Int)) = true := by simp; omega
    have HM := Lib.hid hm
    simp only [← hm]
    clear hm
    go_enter Try.func63, Try.ntmps63
    go_wp2_with fail
    go_step3
    go_wp2_with fail
    rw [Exit.noGoto_ret]
    go_ret2
    exact ⟨0, 1, rfl, .inl ⟨by rw [← HM.out]; exact hnm, rfl, rfl⟩, Below.refl _ _⟩
end Go.Proofs.Ythcaagkgddeabaa.Queue
