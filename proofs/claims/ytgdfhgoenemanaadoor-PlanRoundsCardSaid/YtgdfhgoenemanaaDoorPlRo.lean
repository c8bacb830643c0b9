/-
  PlanRounds, walked. Conditions stand at each. By an AI agent; by mkplro.py.
-/
import Derived.Test.YtgdfhgoenemanaaDoorPlRp
import Derived.Test.YtgdfhgoenemanaaDoorPlN
import Derived.Test.YtgdfhgoenemanaaDoorPlJ
namespace Go.Proofs.YtgdfhgoenemanaaDoor.Plan
set_option linter.unusedVariables false
set_option linter.unusedSimpArgs false
open Go Go.RowKit Go.Proofs.YtgdfhgoenemanaaDoor.Base
theorem own_ints {w : World} {base n k : Nat} {v : Value} {xs : List Int} (h : w.ownsRow base 3 1 v n (xs.map (Value.int .i64))) (hl : xs.length = n) (hk : k < n) :
    ∃ g cp, v = .slice (some ⟨g, 0, none⟩) n cp ∧ base ≤ g ∧ w.cell? ⟨g, k, none⟩ = some (.int .i64 (nth xs k)) := by
  rcases h.2 with ⟨_, h0⟩ | ⟨g, cap, cur, e, hb, hh, _⟩
  · omega
  · subst e
    refine ⟨g, cap, rfl, hb, ?_⟩
    have := h.cells (g := g) rfl k (.int .i64 (nth xs k)) (by simp [nth, List.getD_eq_getElem?_getD, List.getElem?_eq_getElem (show k < xs.length by omega)])
    have e2 : (⟨g, 0, none⟩ : Addr).add k = ⟨g, k, none⟩ := by unfold Addr.add; split <;> simp_all
    rwa [e2] at this
theorem one_push (xs : List Int) (x : Int) : xs.map (Value.int .i64) ++ [Value.int .i64 x] = (xs ++ [x]).map (Value.int .i64) := by simp
set_option maxRecDepth 100000 in
set_option maxHeartbeats 30000000 in
theorem PlanRounds_walk (v : Value) (s : Sp) (gen : Int) (hg : 0 ≤ gen ∧ gen ≤ 18446744073709551615) (w : World) (hv : v = s.val) :
    Calls Tryd.prog 5 #[v, .int .u64 gen] w fun e w' => e = .returned (.bool true) ∧ Below w.heap.size w w' := by
  obtain ⟨ow, sq, fi, wo, de⟩ := s
  subst hv
  have HG := Lib.hid hg
  have HAT := Lib.hid (fun g W (h : 0 ≤ g ∧ g ≤ 18446744073709551615) => At_any ⟨ow, sq, fi, wo, de⟩ g W h)
  have HENT := Lib.hid (fun g W (h : 0 ≤ g ∧ g ≤ 18446744073709551615) => Entry_any 0 1 de 0 none 0 0 g W h)
  unfold Sp.val at HAT ⊢
  simp only at HAT ⊢
  clear hg
  go_enter Tryd.func5, Tryd.ntmps5
  go_upto_region 1 with fail
  obtain ⟨B, hB⟩ : ∃ B, w.heap.size = B := ⟨_, rfl⟩
  have hsb : Blk (w.alloc (.cells #[.int .i64 ow, .int .i64 sq, .int .i64 fi, .int .i64 wo, .int .i64 de] 43)) B 43 #[.int .i64 ow, .int .i64 sq, .int .i64 fi, .int .i64 wo, .int .i64 de] := hB ▸ Blk.new w 43 #[.int .i64 ow, .int .i64 sq, .int .i64 fi, .int .i64 wo, .int .i64 de]
  have hl : Below w.heap.size w (w.alloc (.cells #[.int .i64 ow, .int .i64 sq, .int .i64 fi, .int .i64 wo, .int .i64 de] 43)) := (Below.refl w.heap.size w).alloc (Nat.le_refl _) _
  simp only [hB] at ⊢
  have HB := Lib.hid hB
  have SB := Lib.hid hsb
  have L0 := Lib.hid hl
  clear hB hsb hl
  generalize (w.alloc (.cells #[.int .i64 ow, .int .i64 sq, .int .i64 fi, .int .i64 wo, .int .i64 de] 43)) = w0 at *
  have g0 := SB.out.cell 0
  have g1 := SB.out.cell 1
  have g2 := SB.out.cell 2
  have g3 := SB.out.cell 3
  have g4 := SB.out.cell 4
  simp only [List.getElem?_toArray, List.getElem?_cons_succ, List.getElem?_cons_zero] at g0 g1 g2 g3 g4
  by_cases a0 : wo < 1
  · have k0 : decide (wo < 1) = true := decide_eq_true a0
    have HF := Lib.hid (show atF ⟨ow, sq, fi, wo, de⟩ gen = -1 from if_neg (fun h => by have h9 : (1 ≤ wo ∧ wo ≤ 64) ∧ (1 ≤ de ∧ de ≤ 16) ∧ (0 ≤ fi ∧ fi ≤ 1048576) := h; omega))
    clear a0
    go_wp2_with fail
    refine (HAT.out gen w0 HG.out).mono ?_; rintro e w1 ⟨rfl, hl1⟩
    rw [HF.out]
    have L1 := Lib.hid (bl L0.out hl1)
    clear hl1
    go_wp2_with fail
    refine (awake_any _).mono ?_; rintro e w9 ⟨rfl, hl9⟩
    have L9 := Lib.hid (bl L1.out hl9)
    clear hl9
    go_wp2_with fail
    go_ret
    exact ⟨rfl, L9.out⟩
  have k0 : decide (wo < 1) = false := decide_eq_false a0
  by_cases a1 : wo > 64
  · have k1 : decide (wo > 64) = true := decide_eq_true a1
    have HF := Lib.hid (show atF ⟨ow, sq, fi, wo, de⟩ gen = -1 from if_neg (fun h => by have h9 : (1 ≤ wo ∧ wo ≤ 64) ∧ (1 ≤ de ∧ de ≤ 16) ∧ (0 ≤ fi ∧ fi ≤ 1048576) := h; omega))
    clear a0 a1
    go_wp2_with fail
    refine (HAT.out gen w0 HG.out).mono ?_; rintro e w1 ⟨rfl, hl1⟩
    rw [HF.out]
    have L1 := Lib.hid (bl L0.out hl1)
    clear hl1
    go_wp2_with fail
    refine (awake_any _).mono ?_; rintro e w9 ⟨rfl, hl9⟩
    have L9 := Lib.hid (bl L1.out hl9)
    clear hl9
    go_wp2_with fail
    go_ret
    exact ⟨rfl, L9.out⟩
  have k1 : decide (wo > 64) = false := decide_eq_false a1
  by_cases a2 : de < 1
  · have k2 : decide (de < 1) = true := decide_eq_true a2
    have HF := Lib.hid (show atF ⟨ow, sq, fi, wo, de⟩ gen = -1 from if_neg (fun h => by have h9 : (1 ≤ wo ∧ wo ≤ 64) ∧ (1 ≤ de ∧ de ≤ 16) ∧ (0 ≤ fi ∧ fi ≤ 1048576) := h; omega))
    clear a0 a1 a2
    go_wp2_with fail
    refine (HAT.out gen w0 HG.out).mono ?_; rintro e w1 ⟨rfl, hl1⟩
    rw [HF.out]
    have L1 := Lib.hid (bl L0.out hl1)
    clear hl1
    go_wp2_with fail
    refine (awake_any _).mono ?_; rintro e w9 ⟨rfl, hl9⟩
    have L9 := Lib.hid (bl L1.out hl9)
    clear hl9
    go_wp2_with fail
    go_ret
    exact ⟨rfl, L9.out⟩
  have k2 : decide (de < 1) = false := decide_eq_false a2
  by_cases a3 : de > 16
  · have k3 : decide (de > 16) = true := decide_eq_true a3
    have HF := Lib.hid (show atF ⟨ow, sq, fi, wo, de⟩ gen = -1 from if_neg (fun h => by have h9 : (1 ≤ wo ∧ wo ≤ 64) ∧ (1 ≤ de ∧ de ≤ 16) ∧ (0 ≤ fi ∧ fi ≤ 1048576) := h; omega))
    clear a0 a1 a2 a3
    go_wp2_with fail
    refine (HAT.out gen w0 HG.out).mono ?_; rintro e w1 ⟨rfl, hl1⟩
    rw [HF.out]
    have L1 := Lib.hid (bl L0.out hl1)
    clear hl1
    go_wp2_with fail
    refine (awake_any _).mono ?_; rintro e w9 ⟨rfl, hl9⟩
    have L9 := Lib.hid (bl L1.out hl9)
    clear hl9
    go_wp2_with fail
    go_ret
    exact ⟨rfl, L9.out⟩
  have k3 : decide (de > 16) = false := decide_eq_false a3
  by_cases a4 : fi < 0
  · have k4 : decide (fi < 0) = true := decide_eq_true a4
    have HF := Lib.hid (show atF ⟨ow, sq, fi, wo, de⟩ gen = -1 from if_neg (fun h => by have h9 : (1 ≤ wo ∧ wo ≤ 64) ∧ (1 ≤ de ∧ de ≤ 16) ∧ (0 ≤ fi ∧ fi ≤ 1048576) := h; omega))
    clear a0 a1 a2 a3 a4
    go_wp2_with fail
    refine (HAT.out gen w0 HG.out).mono ?_; rintro e w1 ⟨rfl, hl1⟩
    rw [HF.out]
    have L1 := Lib.hid (bl L0.out hl1)
    clear hl1
    go_wp2_with fail
    refine (awake_any _).mono ?_; rintro e w9 ⟨rfl, hl9⟩
    have L9 := Lib.hid (bl L1.out hl9)
    clear hl9
    go_wp2_with fail
    go_ret
    exact ⟨rfl, L9.out⟩
  have k4 : decide (fi < 0) = false := decide_eq_false a4
  by_cases a5 : fi > 1048576
  · have k5 : decide (fi > 1048576) = true := decide_eq_true a5
    have HF := Lib.hid (show atF ⟨ow, sq, fi, wo, de⟩ gen = -1 from if_neg (fun h => by have h9 : (1 ≤ wo ∧ wo ≤ 64) ∧ (1 ≤ de ∧ de ≤ 16) ∧ (0 ≤ fi ∧ fi ≤ 1048576) := h; omega))
    clear a0 a1 a2 a3 a4 a5
    go_wp2_with fail
    refine (HAT.out gen w0 HG.out).mono ?_; rintro e w1 ⟨rfl, hl1⟩
    rw [HF.out]
    have L1 := Lib.hid (bl L0.out hl1)
    clear hl1
    go_wp2_with fail
    refine (awake_any _).mono ?_; rintro e w9 ⟨rfl, hl9⟩
    have L9 := Lib.hid (bl L1.out hl9)
    clear hl9
    go_wp2_with fail
    go_ret
    exact ⟨rfl, L9.out⟩
  have k5 : decide (fi > 1048576) = false := decide_eq_false a5
  have HOK := Lib.hid (show Sp.AtOk ⟨ow, sq, fi, wo, de⟩ from ⟨⟨by show (1 : Int) ≤ wo; omega, by show wo ≤ 64; omega⟩, ⟨by show (1 : Int) ≤ de; omega, by show de ≤ 16; omega⟩, ⟨by show (0 : Int) ≤ fi; omega, by show fi ≤ 1048576; omega⟩⟩)
  have HR := Lib.hid (show (1 ≤ wo ∧ wo ≤ 64) ∧ (1 ≤ de ∧ de ≤ 16) ∧ (0 ≤ fi ∧ fi ≤ 1048576) from HOK.out)
  clear a0 a1 a2 a3 a4 a5
  by_cases b0 : gen > 4611686018427387904
  · have kb : decide (gen > 4611686018427387904) = true := decide_eq_true b0
    clear b0
    go_wp2_with fail
    refine (awake_any _).mono ?_; rintro e w9 ⟨rfl, hl9⟩
    have L9 := Lib.hid (bl L0.out hl9)
    clear hl9
    go_wp2_with fail
    go_ret
    exact ⟨rfl, L9.out⟩
  have kb : decide (gen > 4611686018427387904) = false := decide_eq_false b0
  have HG2 := Lib.hid (show 0 ≤ gen ∧ gen ≤ 4611686018427387904 from ⟨HG.out.1, by omega⟩)
  clear b0
  go_upto_region 7 with fail
  clear k0 k1 k2 k3 k4 k5 kb g0 g1 g2 g3 g4
  go_loopw [5, 6] (fun s5 s6 wr => ∃ (i : Nat), (i : Int) ≤ de ∧ s6 = .int .i64 i ∧ Blk wr B 43 #[.int .i64 ow, .int .i64 sq, .int .i64 fi, .int .i64 wo, .int .i64 de] ∧ wr.ownsRow (B + 1) 3 1 s5 i ((ptL ⟨ow, sq, fi, wo, de⟩ gen i).map (Value.int .i64)) ∧ Below w.heap.size w wr) (fun s5 s6 _ => de.toNat + 1 - (intOf s6).toNat)
  case atStart => exact ⟨0, by have := HR.out; push_cast; omega, rfl, SB.out, World.ownsRow_nil _ _ _ _, L0.out⟩
  case round =>
    clear SB L0
    obtain ⟨i, hi, rfl, h1, h2, h3⟩ := hrel
    obtain ⟨A, cp, hs5⟩ := own_form h2
    have SB := Lib.hid h1
    have OW := Lib.hid h2
    have L0 := Lib.hid h3
    clear h1 h2 h3
    subst hs5
    have g0 := SB.out.cell 0
    have g1 := SB.out.cell 1
    have g2 := SB.out.cell 2
    have g3 := SB.out.cell 3
    have g4 := SB.out.cell 4
    simp only [List.getElem?_toArray, List.getElem?_cons_succ, List.getElem?_cons_zero] at g0 g1 g2 g3 g4
    by_cases hlt : (i : Int) < de
    · have kd : decide ((i : Int) < de) = true := decide_eq_true hlt
      have HI := Lib.hid hlt
      have hw1 : IntKind.u64.wrap (i : Int) = (i : Int) := u64_in (by have := HR.out; omega)
      have hw2 : IntKind.u64.wrap (gen + (i : Int)) = gen + (i : Int) := u64_in (by have := HR.out; have := HG2.out; omega)
      clear hlt hi
      go_wp2_with fail
      refine (HAT.out (gen + (i : Int)) wr (by have := HR.out; have := HG2.out; have := HI.out; omega)).mono ?_; rintro e w1 ⟨rfl, hl1⟩
      rw [atF_pt HOK.out gen i]
      have SB1 := Lib.hid (SB.out.bl hl1)
      have OW1 := Lib.hid (ownsRow_ex OW.out (Ex.of_below (T := fun _ => False) hl1) (fun _ _ h => h))
      have L1 := Lib.hid (bl L0.out hl1)
      have HAP := Lib.hid (fun k (hk : k < i) => pt_apart HOK.out gen HI.out hk)
      have HBD := Lib.hid (fun k => pt_bounds HOK.out gen k)
      simp only at HAP HBD
      obtain ⟨at_, hat⟩ : ∃ z, ptF ⟨ow, sq, fi, wo, de⟩ gen i = z := ⟨_, rfl⟩
      have HATI := Lib.hid hat
      have HBI := Lib.hid (HBD.out i)
      rw [hat] at HAP HBI
      simp only [hat]
      clear hl1 SB OW L0 g0 g1 g2 g3 g4 hw1 hw2 hat kd
      go_upto_region 11 with fail
      go_loopw [8] (fun s8 wr => ∃ (k : Nat), k ≤ i ∧ s8 = .int .i64 k ∧ Blk wr B 43 #[.int .i64 ow, .int .i64 sq, .int .i64 fi, .int .i64 wo, .int .i64 de] ∧ wr.ownsRow (B + 1) 3 1 (.slice A i cp) i ((ptL ⟨ow, sq, fi, wo, de⟩ gen i).map (Value.int .i64)) ∧ Below w.heap.size w wr) (fun s8 _ => i + 1 - (intOf s8).toNat)
      case atStart => exact ⟨0, by omega, rfl, SB1.out, OW1.out, L1.out⟩
      case round =>
        clear SB1 OW1 L1
        obtain ⟨k, hk, rfl, h1, h2, h3⟩ := hrel
        have SB := Lib.hid h1
        have OW := Lib.hid h2
        have L0 := Lib.hid h3
        clear h1 h2 h3
        by_cases hlt : k < i
        · have kd : decide ((k : Int) < (i : Int)) = true := decide_eq_true (by omega)
          have kdn : decide (k < i) = true := decide_eq_true hlt
          have kdm : k < i := hlt
          have ki0 : (0 : Int) ≤ (k : Int) := by omega
          have ki1 : (k : Int) < (i : Int) := by omega
          have ki5 : (i : Int) ≤ 16 := by have := HR.out; have := HI.out; omega
          obtain ⟨g, cq, hv, hgb, hc⟩ := own_ints OW.out (ptL_len _ _ _) hlt
          rw [ptL_at _ _ _ _ hlt] at hc
          injection hv with hv1 hv2 hv3
          subst hv1 hv3
          have hap := HAP.out k hlt
          have hbd := HBD.out k
          have hbi := HBI.out
          have hr := HR.out
          obtain ⟨lk, hlk⟩ : ∃ z, ptF ⟨ow, sq, fi, wo, de⟩ gen k = z := ⟨_, rfl⟩
          rw [hlk] at hc hap hbd
          have HK := Lib.hid hlt
          have m1 : (lk == at_) = false := beq_eq_false_iff_ne.2 hap.1
          have mw1 : wrap64 (lk - at_) = lk - at_ := wrap64_in _ (by omega)
          have mw2 : wrap64 (at_ - lk) = at_ - lk := wrap64_in _ (by omega)
          have hap2 := hap.2
          have hwo : 1 ≤ wo := hr.1.1
          clear hlk hlt hk hap hbd hbi hr hgb
          go_upto_region 13 with fail
          have hne : Nonempty (Held (fun W => W = wr.drew)) := ⟨⟨_, rfl⟩⟩
          have q0 : ∀ x : Held (fun W => W = wr.drew), x.w.cell? ⟨g, k, none⟩ = some (.int .i64 lk) := fun x => by rw [x.ok]; exact hc
          have q1 : ∀ x : Held (fun W => W = wr.drew), x.w.cell? ⟨B, 3, none⟩ = some (.int .i64 wo) := fun x => by rw [x.ok]; exact SB.out.cell 3
          by_cases hs : wo ≤ lk - at_
          case pos =>
            have m2 : decide (lk - at_ < wo) = false := decide_eq_false (by omega)
            clear hs hap2 hwo
            refine drawn_bars (S := fun _ => True) [] [0, 1, 2, 3, 4, 5, 6, 7, 8, 9, 10, 11, 12, 13, 14, 15, 16, 17, 18, 19, 20, 21, 22, 23, 24, 25, 26, 27] (by kernel_rfl) (by kernel_rfl) (by kernel_rfl) rfl trivial ?_
            refine Phased.end_ ?_
            simp only [pick, List.map_cons, List.map_nil, List.getElem?_cons_zero, List.getElem?_cons_succ, Option.getD_some]
            repeat (go_big_quiet_step (fail))
            refine wpQuiet_nil ?_
            clear hne q0 q1 hc
            have SB6 := Lib.hid SB.out.drew
            have OW6 := Lib.hid (ownsRow_ex OW.out (Ex.of_below (T := fun _ => False) (Below.refl wr.heap.size wr).drew) (fun _ _ h => h))
            have L6 := Lib.hid L0.out.drew
            clear SB OW L0
            generalize wr.drew = w6 at *
            go_wp2_with fail
            exact ⟨⟨k + 1, HK.out, by go_num, SB6.out, OW6.out, L6.out⟩, by have := HK.out; simp [intOf]; omega⟩
          case neg =>
            have m2 : decide (lk - at_ < wo) = true := decide_eq_true (by omega)
            have m3 : decide (at_ - lk < wo) = false := decide_eq_false (by omega)
            clear hs hap2 hwo
            refine drawn_bars (S := fun _ => True) [] [0, 1, 2, 3, 4, 5, 6, 7, 8, 9, 10, 11, 12, 13, 14, 15, 16, 17, 18, 19, 20, 21, 22, 23, 24, 25, 26, 27] (by kernel_rfl) (by kernel_rfl) (by kernel_rfl) rfl trivial ?_
            refine Phased.end_ ?_
            simp only [pick, List.map_cons, List.map_nil, List.getElem?_cons_zero, List.getElem?_cons_succ, Option.getD_some]
            repeat (go_big_quiet_step (fail))
            refine wpQuiet_nil ?_
            clear hne q0 q1 hc
            have SB6 := Lib.hid SB.out.drew
            have OW6 := Lib.hid (ownsRow_ex OW.out (Ex.of_below (T := fun _ => False) (Below.refl wr.heap.size wr).drew) (fun _ _ h => h))
            have L6 := Lib.hid L0.out.drew
            clear SB OW L0
            generalize wr.drew = w6 at *
            go_wp2_with fail
            exact ⟨⟨k + 1, HK.out, by go_num, SB6.out, OW6.out, L6.out⟩, by have := HK.out; simp [intOf]; omega⟩
        · have he : k = i := by omega
          have kd : decide ((k : Int) < (i : Int)) = false := decide_eq_false (by omega)
          have kdn : decide (k < i) = false := decide_eq_false hlt
          have kdm : ¬ k < i := hlt
          have ki5 : (i : Int) ≤ 16 := by have := HR.out; have := HI.out; omega
          have hbi := HBI.out
          have hr := HR.out
          have hp0 : 0 ≤ wo * de := Int.mul_nonneg (by omega) (by omega)
          have hp1 : wo * de ≤ 64 * 16 := Int.mul_le_mul hr.1.2 hr.2.1.2 (by omega) (by omega)
          have n1 : decide (at_ < fi) = false := decide_eq_false (by omega)
          have n2 : wrap64 (at_ + wo) = at_ + wo := wrap64_in _ (by omega)
          have n3 : wrap64 (wo * de) = wo * de := wrap64_in _ (by omega)
          have n4 : wrap64 (fi + wo * de) = fi + wo * de := wrap64_in _ (by omega)
          have n5 : decide (at_ + wo > fi + wo * de) = false := decide_eq_false (by omega)
          clear hlt he hk hbi hr hp0 hp1
          have g0 := SB.out.cell 0
          have g1 := SB.out.cell 1
          have g2 := SB.out.cell 2
          have g3 := SB.out.cell 3
          have g4 := SB.out.cell 4
          simp only [List.getElem?_toArray, List.getElem?_cons_succ, List.getElem?_cons_zero] at g0 g1 g2 g3 g4
          obtain ⟨i0_, hi0, hz0, hz1, hz2⟩ := info_parts int_info
          go_upto_region 17 with fail
          clear n1 n2 n3 n4 n5 g0 g1 g2 g3 g4
          go_wp2_with (at_builtin; refine wpList_append_own_at _ rfl _ _ 37 rfl (B + 1) 3 i0_ (.int .i64 0) 1 8 Tryd.underlying37 hi0 hz0 hz1 hz2 rfl (by decide) _ _ _ rfl (OW.out.alloc _) ⟨wr.heap.size, 0, none⟩ 1 1 [.int .i64 at_] rfl rfl ?c1 ?c2 ?c3 ?c4 ?c5 ?_)
          case c1 =>
            have hbn := Blk.new wr 3 #[.int .i64 at_]
            intro j u hj
            match j, hj with
            | 0, hj => simp at hj; subst hj; exact hbn.cell 0
          case c2 =>
            intro u hu
            simp only [List.mem_cons, List.not_mem_nil, or_false] at hu
            subst hu; rfl
          case c3 => have := HR.out; have := HI.out; unfold maxLen; omega
          case c4 => have := HR.out; have := HI.out; omega
          case c5 => have := SB.out.lt; simp; omega
          intro v' w8 hown' hgrow _ hat
          have hgr : Ex (fun b => (Value.slice A i cp).ownBlock = some b) wr w8 := ((Ex.refl _ wr).alloc (.cells #[.int .i64 at_] 3)).trans (Ex.of_grown hgrow)
          have hlow : ∀ b, (Value.slice A i cp).ownBlock = some b → B + 1 ≤ b := fun b hb => (OW.out.lt b hb).1
          rw [one_push] at hown'
          have SB8 := Lib.hid (SB.out.ex hgr (fun hb => by have := hlow _ hb; omega))
          have OW8 := Lib.hid (show w8.ownsRow (B + 1) 3 1 v' (i + 1) ((ptL ⟨ow, sq, fi, wo, de⟩ gen (i + 1)).map (Value.int .i64)) by
            simp only [ptL]
            rw [HATI.out]
            exact hown')
          have L8 := Lib.hid (Ex.below L0.out hgr (fun b hb => by have := hlow b hb; have := HB.out; omega))
          clear hgr hlow hown' hgrow hat SB OW L0
          go_wp2_with fail
          exact ⟨⟨i + 1, by have := HI.out; push_cast; omega, by go_num, SB8.out, OW8.out, L8.out⟩, by have := HI.out; simp [intOf]; omega⟩
    · have he : (i : Int) = de := by omega
      have kd : decide ((i : Int) < de) = false := decide_eq_false (by omega)
      clear he hlt hi
      go_upto_region 19 with fail
      have hpl := Blk.new wr 29 #[.int .i64 0, .int .i64 1, .int .i64 de, .slice none 0 0, .int .i64 0]
      have el : Below wr.heap.size wr (wr.alloc (.cells #[.int .i64 0, .int .i64 1, .int .i64 de, .slice none 0 0, .int .i64 0] 29)) := (Below.refl _ _).alloc (Nat.le_refl _) _
      have SB2 := Lib.hid (SB.out.bl el)
      have PV := Lib.hid hpl
      have L2 := Lib.hid (bl L0.out el)
      clear hpl el SB OW L0 g0 g1 g2 g3 g4 kd
      generalize (wr.alloc (.cells #[.int .i64 0, .int .i64 1, .int .i64 de, .slice none 0 0, .int .i64 0] 29)) = w2 at *
      obtain ⟨pv, hpv⟩ : ∃ z, wr.heap.size = z := ⟨_, rfl⟩
      rw [hpv] at PV
      simp only [hpv]
      clear hpv
      have hw1 : IntKind.u64.wrap de = de := u64_in (by have := HR.out; omega)
      have hw2 : IntKind.u64.wrap (gen + de) = gen + de := u64_in (by have := HR.out; have := HG2.out; omega)
      have HE1 := Lib.hid (HENT.out (gen + de))
      have HE0 := Lib.hid (HENT.out gen)
      have HA1 := Lib.hid (HAT.out (gen + de))
      have HA0 := Lib.hid (HAT.out gen)
      rw [entry_turn] at HE1
      have hat1 : atF ⟨ow, sq, fi, wo, de⟩ (gen + de) = atF ⟨ow, sq, fi, wo, de⟩ gen := at_turn ⟨ow, sq, fi, wo, de⟩ gen
      rw [hat1] at HA1
      have hin := entry_in (g := gen) HR.out.2.1
      obtain ⟨e0, he0⟩ : ∃ z, entryF 1 de gen = z := ⟨_, rfl⟩
      obtain ⟨a0, ha0⟩ : ∃ z, atF ⟨ow, sq, fi, wo, de⟩ gen = z := ⟨_, rfl⟩
      rw [he0] at HE1 HE0 hin
      rw [ha0] at HA1 HA0
      have HIN := Lib.hid hin
      clear hat1 he0 ha0 hin
      have g0 := SB2.out.cell 0
      have g1 := SB2.out.cell 1
      have g2 := SB2.out.cell 2
      have g3 := SB2.out.cell 3
      have g4 := SB2.out.cell 4
      simp only [List.getElem?_toArray, List.getElem?_cons_succ, List.getElem?_cons_zero] at g0 g1 g2 g3 g4
      have p0 := PV.out.cell 0
      have p1 := PV.out.cell 1
      have p2 := PV.out.cell 2
      have p3 := PV.out.cell 3
      have p4 := PV.out.cell 4
      simp only [List.getElem?_toArray, List.getElem?_cons_succ, List.getElem?_cons_zero] at p0 p1 p2 p3 p4
      go_wp2_with fail
      refine (HE1.out w2 (by have := HR.out; have := HG2.out; omega)).mono ?_; rintro e w3 ⟨rfl, hl3⟩
      have SB3 := Lib.hid (SB2.out.bl hl3)
      have PV3 := Lib.hid (PV.out.bl hl3)
      have L3 := Lib.hid (bl L2.out hl3)
      clear hl3 SB2 PV L2 g0 g1 g2 g3 g4 p0 p1 p2 p3 p4
      go_upto_region 20 with fail
      have hne : Nonempty (Held (Below w3.heap.size w3)) := ⟨⟨w3, Below.refl _ _⟩⟩
      have g0 : ∀ y : Held (Below w3.heap.size w3), y.w.cell? ⟨B, 0, none⟩ = some (.int .i64 ow) := fun y => by rw [(SB3.out.bl y.ok).cell]; rfl
      have g1 : ∀ y : Held (Below w3.heap.size w3), y.w.cell? ⟨B, 1, none⟩ = some (.int .i64 sq) := fun y => by rw [(SB3.out.bl y.ok).cell]; rfl
      have g2 : ∀ y : Held (Below w3.heap.size w3), y.w.cell? ⟨B, 2, none⟩ = some (.int .i64 fi) := fun y => by rw [(SB3.out.bl y.ok).cell]; rfl
      have g3 : ∀ y : Held (Below w3.heap.size w3), y.w.cell? ⟨B, 3, none⟩ = some (.int .i64 wo) := fun y => by rw [(SB3.out.bl y.ok).cell]; rfl
      have g4 : ∀ y : Held (Below w3.heap.size w3), y.w.cell? ⟨B, 4, none⟩ = some (.int .i64 de) := fun y => by rw [(SB3.out.bl y.ok).cell]; rfl
      have p0 : ∀ y : Held (Below w3.heap.size w3), y.w.cell? ⟨pv, 0, none⟩ = some (.int .i64 0) := fun y => by rw [(PV3.out.bl y.ok).cell]; rfl
      have p1 : ∀ y : Held (Below w3.heap.size w3), y.w.cell? ⟨pv, 1, none⟩ = some (.int .i64 1) := fun y => by rw [(PV3.out.bl y.ok).cell]; rfl
      have p2 : ∀ y : Held (Below w3.heap.size w3), y.w.cell? ⟨pv, 2, none⟩ = some (.int .i64 de) := fun y => by rw [(PV3.out.bl y.ok).cell]; rfl
      have p3 : ∀ y : Held (Below w3.heap.size w3), y.w.cell? ⟨pv, 3, none⟩ = some (.slice none 0 0) := fun y => by rw [(PV3.out.bl y.ok).cell]; rfl
      have p4 : ∀ y : Held (Below w3.heap.size w3), y.w.cell? ⟨pv, 4, none⟩ = some (.int .i64 0) := fun y => by rw [(PV3.out.bl y.ok).cell]; rfl
      have k1 : (a0 == a0) = true := by simp
      have k2 : (e0 == e0) = true := by simp
      have k3 : decide (e0 ≥ 1) = true := decide_eq_true HIN.out.1
      have k4 : decide (e0 ≤ de) = true := decide_eq_true HIN.out.2
      refine drawn_bars (S := Below w3.heap.size w3) [([0, 1, 2, 3, 4, 5, 7, 8], 6), ([], 9), ([10, 11, 12, 13, 15], 14), ([16, 17, 18, 19, 20, 21, 22, 23, 24, 25, 26, 27, 28], 29)] [30, 31] (by kernel_rfl) (by kernel_rfl) (by kernel_rfl) rfl (Below.refl _ _).drew ?_
      refine Phased.go ?_
      simp only [pick, List.map_cons, List.map_nil, List.getElem?_cons_zero, List.getElem?_cons_succ, Option.getD_some]
      repeat (go_big_quiet_step (fail))
      refine wpQuiet_nil ?_
      go_wp2_with fail
      refine (HA1.out _ (by have := HR.out; have := HG2.out; omega)).mono ?_; rintro e y1 ⟨rfl, hl_⟩
      have Ey1 := Lib.hid (bl (Below.refl w3.heap.size w3).drew hl_)
      clear hl_
      go_wp2_with fail
      refine behind_normal ⟨Below w3.heap.size w3, fun W h => h, Ey1.out, ?_⟩
      refine Phased.go ?_
      simp only [pick, List.map_cons, List.map_nil, List.getElem?_cons_zero, List.getElem?_cons_succ, Option.getD_some]
      repeat (go_big_quiet_step (fail))
      refine wpQuiet_nil ?_
      go_wp2_with fail
      refine (HA0.out _ HG.out).mono ?_; rintro e y2 ⟨rfl, hl_⟩
      have Ey2 := Lib.hid (bl Ey1.out hl_)
      clear hl_
      go_wp2_with fail
      refine behind_normal ⟨Below w3.heap.size w3, fun W h => h, Ey2.out, ?_⟩
      refine Phased.go ?_
      simp only [pick, List.map_cons, List.map_nil, List.getElem?_cons_zero, List.getElem?_cons_succ, Option.getD_some]
      repeat (go_big_quiet_step (fail))
      refine wpQuiet_nil ?_
      go_wp2_with fail
      refine (HE0.out _ HG.out).mono ?_; rintro e y3 ⟨rfl, hl_⟩
      have Ey3 := Lib.hid (bl Ey2.out hl_)
      clear hl_
      go_wp2_with fail
      refine behind_normal ⟨Below w3.heap.size w3, fun W h => h, Ey3.out, ?_⟩
      refine Phased.go ?_
      simp only [pick, List.map_cons, List.map_nil, List.getElem?_cons_zero, List.getElem?_cons_succ, Option.getD_some]
      repeat (go_big_quiet_step (fail))
      refine wpQuiet_nil ?_
      go_wp2_with fail
      refine (awake_any _).mono ?_; rintro e y4 ⟨rfl, hl_⟩
      have Ey4 := Lib.hid (bl Ey3.out hl_)
      clear hl_
      go_wp2_with fail
      refine behind_normal ⟨Below w3.heap.size w3, fun W h => h, Ey4.out, ?_⟩
      refine Phased.end_ ?_
      have hne5 : Nonempty (Held (fun W => W = y4)) := ⟨⟨_, rfl⟩⟩
      simp only [pick, List.map_cons, List.map_nil, List.getElem?_cons_zero, List.getElem?_cons_succ, Option.getD_some]
      repeat (go_big_quiet_step (fail))
      refine wpQuiet_nil ?_
      clear hne hne5
      have L4 := Lib.hid (bl L3.out Ey4.out)
      go_wp2_with fail
      go_ret
      exact ⟨rfl, L4.out⟩
end Go.Proofs.YtgdfhgoenemanaaDoor.Plan
