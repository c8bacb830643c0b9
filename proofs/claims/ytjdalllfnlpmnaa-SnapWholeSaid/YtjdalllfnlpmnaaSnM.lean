/-
  Law 10: how many steps at most; the document's copy of a row of spots. Conditions stand at each. By an AI agent.
-/
import Derived.Test.YtjdalllfnlpmnaaSnW
namespace Go.Proofs.Ytjdalllfnlpmnaa.Bank
set_option linter.unusedVariables false
set_option linter.unusedSimpArgs false
open Go Go.RowKit Go.Proofs.Ytjdalllfnlpmnaa.Base Go.Deep Go.ChangeShapes Go.WideShapes
theorem most_num {l : Nat → Spot} {n : Nat} {tries : Int} (h : wrongE n l tries = 0) : wrap64 (2 * (n : Int)) = 2 * (n : Int) ∧ wrap64 (2 * (n : Int) + widthF l n) = 2 * (n : Int) + widthF l n ∧ wrap64 ((2 * (n : Int) + widthF l n) * tries) = sMostF n l tries := by
  obtain ⟨h1, h2, h3, h4⟩ := wrongE_zero h
  have hb := widthF_bounds h2 n (Nat.le_refl _)
  refine ⟨wrap64_in _ (by omega), wrap64_in _ (by omega), ?_⟩
  unfold sMostF
  rw [if_neg (fun e => e h)]
  have e1 : 0 ≤ (2 * (n : Int) + widthF l n) * tries := Int.mul_nonneg (by omega) (by omega)
  have e2 : (2 * (n : Int) + widthF l n) * tries ≤ 4224 * 16 := Int.mul_le_mul (by omega) h4 (by omega) (by omega)
  exact wrap64_in _ (by omega)
theorem rmost_num {l : Nat → Spot} {n i : Nat} (h : allR l n = true) (hn : n ≤ 64) (hi : i < n) : Value.int .i64 (wrap64 (wrap64 (2 * (i : Int) + widthF l i + 2) + (l i).words)) = .int .i64 (2 * ((i + 1 : Nat) : Int) + widthF l (i + 1)) := by
  have b := widthF_bounds h i (by omega)
  have r := ((allR_iff l n).mp h i hi).1
  rw [wrap64_in (2 * (i : Int) + widthF l i + 2) (by omega), wrap64_in _ (by omega)]
  congr 1
  show _ = 2 * ((i + 1 : Nat) : Int) + (widthF l i + (l i).words)
  omega
set_option maxRecDepth 100000 in
set_option maxHeartbeats 4000000 in
theorem sMost_any (v : Value) (n : Nat) (l : Nat → Spot) (tries : Int) (w : World) (h : Sps w v n l) :
    Calls Try.prog 13 #[v, .int .i64 tries] w fun e w' => e = .returned (.int .i64 (sMostF n l tries)) ∧ Below w.heap.size w w' := by
  have HW := Lib.hid (fun W h => swrong_any v n l tries W h)
  have HS := Lib.hid h
  obtain ⟨A, c, rfl, hn, hg⟩ := h.form
  have HG := Lib.hid hg
  have HN := Lib.hid hn
  clear h hn hg
  by_cases h0 : wrongE n l tries = 0
  · have H0 := Lib.hid h0
    have HM := Lib.hid (most_num h0)
    have HZ := Lib.hid (wrongE_zero h0)
    clear h0
    go_enter Try.func13, Try.ntmps13
    go_wp2_with fail
    refine (HW.out w HS.out).mono ?_; rintro e w1 ⟨rfl, hb1⟩
    rw [H0.out]
    have L1 := Lib.hid hb1
    clear hb1
    go_wp2_with fail
    refine (width_any _ n l w1 (HS.out.below L1.out) HZ.out.2.1 HZ.out.1.2).mono ?_; rintro e w2 ⟨rfl, hb2⟩
    have L2 := Lib.hid (bl L1.out hb2)
    clear hb2
    go_wp2_with fail
    go_ret
    refine ⟨?_, L2.out⟩
    show Ending.returned (.int .i64 (wrap64 (wrap64 (wrap64 (2 * (n : Int)) + widthF l n) * tries))) = _
    rw [HM.out.1, HM.out.2.1, HM.out.2.2]
  · have H0 := Lib.hid (show sMostF n l tries = 0 from if_pos h0)
    have HE := Lib.hid h0
    generalize hz : wrongE n l tries = z at HW h0
    have kz : (z != 0) = true := bne_iff_ne.mpr h0
    clear hz HE h0
    go_enter Try.func13, Try.ntmps13
    go_wp2_with fail
    refine (HW.out w HS.out).mono ?_; rintro e w1 ⟨rfl, hb1⟩
    have L1 := Lib.hid hb1
    clear hb1
    go_wp2_with fail
    go_ret
    exact ⟨by rw [H0.out]; rfl, L1.out⟩
set_option maxRecDepth 100000 in
set_option maxHeartbeats 4000000 in
theorem rMost_any (v : Value) (n : Nat) (l : Nat → Spot) (tries : Int) (w : World) (h : Sps w v n l) :
    Calls Try.prog 14 #[v, .int .i64 tries] w fun e w' => e = .returned (.int .i64 (sMostF n l tries)) ∧ Below w.heap.size w w' := by
  have HW := Lib.hid (fun W h => rWrong_any v n l tries W h)
  have HS := Lib.hid h
  obtain ⟨A, c, rfl, hn, hg⟩ := h.form
  have HG := Lib.hid hg
  have HN := Lib.hid hn
  clear h hn hg
  by_cases h0 : wrongE n l tries = 0
  · have H0 := Lib.hid h0
    have HM := Lib.hid (most_num h0)
    have HZ := Lib.hid (wrongE_zero h0)
    clear h0
    go_enter Try.func14, Try.ntmps14
    go_wp2_with fail
    refine (HW.out w HS.out).mono ?_; rintro e w1 ⟨rfl, hb1⟩
    rw [H0.out]
    have L1 := Lib.hid hb1
    clear hb1
    go_wp2_with fail
    go_loopw [5, 6] (fun s5 s6 wr => ∃ i : Nat, i ≤ n ∧ s6 = .int .i64 i ∧ s5 = .int .i64 (2 * (i : Int) + widthF l i) ∧ Below w.heap.size w wr) (fun s5 s6 _ => n - (intOf s6).toNat)
    case atStart => exact ⟨0, by omega, rfl, rfl, L1.out⟩
    case round =>
      obtain ⟨i, hi, rfl, rfl, hl⟩ := hrel
      have L2 := Lib.hid hl
      clear hl
      by_cases hlt : i < n
      · have kd : decide ((i : Int) < (n : Int)) = true := decide_eq_true (by omega)
        have ki0 : (0 : Int) ≤ (i : Int) := by omega
        have ki1 : (i : Int) < (n : Int) := by omega
        have HI := Lib.hid hlt
        clear hi hlt
        obtain ⟨b, o, rfl, hb, hc⟩ := HG.out (by have := HI.out; omega)
        have HB := Lib.hid hb
        have HC := Lib.hid hc
        clear hb hc
        have HC5 := Lib.hid (HC.out i HI.out)
        have c0 := (L2.out.cell (p := ⟨b, o + i * 5, none⟩) HB.out).trans HC5.out.1
        have c1 := (L2.out.cell (p := ⟨b, o + i * 5 + 1, none⟩) HB.out).trans HC5.out.2.1
        have c2 := (L2.out.cell (p := ⟨b, o + i * 5 + 2, none⟩) HB.out).trans HC5.out.2.2.1
        have c3 := (L2.out.cell (p := ⟨b, o + i * 5 + 3, none⟩) HB.out).trans HC5.out.2.2.2.1
        have c4 := (L2.out.cell (p := ⟨b, o + i * 5 + 4, none⟩) HB.out).trans HC5.out.2.2.2.2
        have HQ := Lib.hid (turn_no i n HI.out HN.out)
        have HWN := Lib.hid (rmost_num HZ.out.2.1 HZ.out.1.2 HI.out)
        go_wp2_with fail
        go_roundw
        case rel => exact ⟨i + 1, HI.out, HQ.out.1, HWN.out, L2.out⟩
        case measure => exact HQ.out.2
      · obtain rfl : i = n := by omega
        have kd : decide ((i : Int) < (i : Int)) = false := decide_eq_false (by omega)
        go_wp2_with fail
        go_ret
        refine ⟨?_, L2.out⟩
        show Ending.returned (.int .i64 (wrap64 ((2 * (i : Int) + widthF l i) * tries))) = _
        rw [HM.out.2.2]
  · have H0 := Lib.hid (show sMostF n l tries = 0 from if_pos h0)
    have HE := Lib.hid h0
    generalize hz : wrongE n l tries = z at HW h0
    have kz : (z != 0) = true := bne_iff_ne.mpr h0
    clear hz HE h0
    go_enter Try.func14, Try.ntmps14
    go_wp2_with fail
    refine (HW.out w HS.out).mono ?_; rintro e w1 ⟨rfl, hb1⟩
    have L1 := Lib.hid hb1
    clear hb1
    go_wp2_with fail
    go_ret
    exact ⟨by rw [H0.out]; rfl, L1.out⟩
def scell (s : Spot) : Nat → Value
  | 0 => .int .i64 s.owners
  | 1 => .int .i64 s.seq
  | 2 => .int .i64 s.first
  | 3 => .int .i64 s.words
  | _ => .int .i64 s.depth
def scells (l : Nat → Spot) (k : Nat) : List Value := (List.range (5 * k)).map fun t => scell (l (t / 5)) (t % 5)
def snews (s : Spot) : List Value := [.int .i64 s.owners, .int .i64 s.seq, .int .i64 s.first, .int .i64 s.words, .int .i64 s.depth]
theorem scells_succ (l : Nat → Spot) (k : Nat) : scells l (k + 1) = scells l k ++ snews (l k) := by
  unfold scells snews
  rw [show 5 * (k + 1) = 5 * k + 1 + 1 + 1 + 1 + 1 by omega]
  simp only [List.range_succ, List.map_append, List.map_cons, List.map_nil, List.append_assoc, List.cons_append, List.nil_append]
  rw [show 5 * k / 5 = k by omega, show (5 * k + 1) / 5 = k by omega, show (5 * k + 1 + 1) / 5 = k by omega, show (5 * k + 1 + 1 + 1) / 5 = k by omega, show (5 * k + 1 + 1 + 1 + 1) / 5 = k by omega,
    show 5 * k % 5 = 0 by omega, show (5 * k + 1) % 5 = 1 by omega, show (5 * k + 1 + 1) % 5 = 2 by omega, show (5 * k + 1 + 1 + 1) % 5 = 3 by omega, show (5 * k + 1 + 1 + 1 + 1) % 5 = 4 by omega]
  rfl
theorem scells_at (l : Nat → Spot) {k i j : Nat} (hi : i < k) (hj : j < 5) : (scells l k)[i * 5 + j]? = some (scell (l i) j) := by
  unfold scells
  rw [List.getElem?_map, List.getElem?_range (by omega)]
  simp only [Option.map_some]
  rw [show (i * 5 + j) / 5 = i by omega, show (i * 5 + j) % 5 = j by omega]
theorem sps_of_own {w : World} {base : Nat} {t : TypeId} {v : Value} {n : Nat} {l : Nat → Spot} (h : w.ownsRow base t 5 v n (scells l n)) (hl : n ≤ maxLen) : Sps w v n l ∧ (0 < n → ∃ g c, v = .slice (some ⟨g, 0, none⟩) n c ∧ base ≤ g) := by
  rcases h.2 with ⟨rfl, h0⟩ | ⟨g, cap, cur, rfl, hbg, hh, _⟩
  · subst h0
    exact ⟨⟨⟨none, 0, rfl, by simp [maxLen], fun hn => absurd hn (by omega)⟩⟩, fun hn => absurd hn (by omega)⟩
  · refine ⟨⟨⟨some ⟨g, 0, none⟩, cap, rfl, hl, fun hn => ⟨g, 0, rfl, ?_, fun i hi => ?_⟩⟩⟩, fun _ => ⟨g, cap, rfl, hbg⟩⟩
    · rcases Nat.lt_or_ge g w.heap.size with hlt | hge
      · exact hlt
      · rw [Array.getElem?_eq_none hge] at hh; cases hh
    · have c : ∀ j, j < 5 → w.cell? ⟨g, 0 + i * 5 + j, none⟩ = some (scell (l i) j) := fun j hj => by
        have := h.cells (g := g) rfl (i * 5 + j) _ (scells_at l hi hj)
        have e : (⟨g, 0, none⟩ : Addr).add (i * 5 + j) = ⟨g, 0 + i * 5 + j, none⟩ := by unfold Addr.add; split <;> simp_all
        rwa [e] at this
      exact ⟨c 0 (by omega), c 1 (by omega), c 2 (by omega), c 3 (by omega), c 4 (by omega)⟩
theorem spot_info : (Try.prog.info? 95).map (fun i => (i.zero, i.size, i.bytes)) = some (some (.agg #[.int .i64 0, .int .i64 0, .int .i64 0, .int .i64 0, .int .i64 0]), 5, 40) := by kernel_rfl
set_option maxRecDepth 100000 in
set_option maxHeartbeats 8000000 in
theorem plain_any (v : Value) (n : Nat) (l : Nat → Spot) (w : World) (h : Sps w v n l) (h70 : n ≤ 70) :
    Calls Try.prog 12 #[v] w fun e w' => ∃ v', e = .returned v' ∧ Sps w' v' n l ∧ (0 < n → ∃ g c, v' = .slice (some ⟨g, 0, none⟩) n c ∧ w.heap.size ≤ g) ∧ Below w.heap.size w w' := by
  obtain ⟨A, c, rfl, hn, hg⟩ := h.form
  have HG := Lib.hid hg
  have HN := Lib.hid hn
  have H70 := Lib.hid h70
  obtain ⟨i0, hi0, hz0, hz1, hz2⟩ := info_parts spot_info
  clear h hn hg h70
  go_enter Try.func12, Try.ntmps12
  go_wp2_with fail
  go_loopw [3, 4, 5] (fun s3 s4 s5 wr => ∃ i : Nat, i ≤ n ∧ s4 = .int .i64 i ∧ wr.ownsRow w.heap.size 95 5 s3 i (scells l i) ∧ Below w.heap.size w wr) (fun s3 s4 s5 _ => n - (intOf s4).toNat)
  case atStart => exact ⟨0, by omega, rfl, World.ownsRow_nil _ _ _ _, Below.refl _ _⟩
  case round =>
    obtain ⟨i, hi, rfl, hown, hl⟩ := hrel
    have OW := Lib.hid hown
    have L0 := Lib.hid hl
    clear hl hown
    by_cases hlt : i < n
    · have kd : decide ((i : Int) < (n : Int)) = true := decide_eq_true (by omega)
      have ki0 : (0 : Int) ≤ (i : Int) := by omega
      have ki1 : (i : Int) < (n : Int) := by omega
      have HI := Lib.hid hlt
      clear hi hlt
      obtain ⟨b, o, rfl, hb, hc⟩ := HG.out (by have := HI.out; omega)
      have HB := Lib.hid hb
      have HC := Lib.hid hc
      clear hb hc
      have HC5 := Lib.hid (HC.out i HI.out)
      have c0 := (L0.out.cell (p := ⟨b, o + i * 5, none⟩) HB.out).trans HC5.out.1
      have c1 := (L0.out.cell (p := ⟨b, o + i * 5 + 1, none⟩) HB.out).trans HC5.out.2.1
      have c2 := (L0.out.cell (p := ⟨b, o + i * 5 + 2, none⟩) HB.out).trans HC5.out.2.2.1
      have c3 := (L0.out.cell (p := ⟨b, o + i * 5 + 3, none⟩) HB.out).trans HC5.out.2.2.2.1
      have c4 := (L0.out.cell (p := ⟨b, o + i * 5 + 4, none⟩) HB.out).trans HC5.out.2.2.2.2
      have HQ := Lib.hid (turn_no i n HI.out HN.out)
      generalize hso : l i = s at *
      have HSO := Lib.hid hso
      clear hso
      have L1 := Lib.hid (L0.out.alloc L0.out.size (.cells #[.int .i64 s.owners, .int .i64 s.seq, .int .i64 s.first, .int .i64 s.words, .int .i64 s.depth] 65))
      have OW1 := Lib.hid (OW.out.alloc (.cells #[.int .i64 s.owners, .int .i64 s.seq, .int .i64 s.first, .int .i64 s.words, .int .i64 s.depth] 65))
      have B1 := Lib.hid (Blk.new wr 65 #[.int .i64 s.owners, .int .i64 s.seq, .int .i64 s.first, .int .i64 s.words, .int .i64 s.depth])
      go_upto_region 6 with fail
      obtain ⟨w7, hw7⟩ : ∃ w7, w7 = wr.alloc (.cells #[.int .i64 s.owners, .int .i64 s.seq, .int .i64 s.first, .int .i64 s.words, .int .i64 s.depth] 65) := ⟨_, rfl⟩
      rw [← hw7] at L1 OW1 B1
      try rw [← hw7]
      have HSZ := Lib.hid (show w7.heap.size = wr.heap.size + 1 by rw [hw7]; simp)
      clear hw7 c0 c1 c2 c3 c4
      have d0 := B1.out.cell 0
      have d1 := B1.out.cell 1
      have d2 := B1.out.cell 2
      have d3 := B1.out.cell 3
      have d4 := B1.out.cell 4
      simp only [List.getElem?_toArray, List.getElem?_cons_zero, List.getElem?_cons_succ] at d0 d1 d2 d3 d4
      go_wp2_with (at_builtin; refine wpList_append_own _ rfl _ _ 37 rfl w.heap.size 95 i0 (.agg #[.int .i64 0, .int .i64 0, .int .i64 0, .int .i64 0, .int .i64 0]) 5 40 Try.underlying37 hi0 hz0 hz1 hz2 rfl (by decide) _ _ _ rfl (OW1.out.alloc _) ⟨w7.heap.size, 0, none⟩ 1 1 (snews s) rfl rfl ?c1 ?c2 ?c3 ?c4 ?c5 ?_)
      case c1 =>
        have hbn := Blk.new w7 95 #[.int .i64 s.owners, .int .i64 s.seq, .int .i64 s.first, .int .i64 s.words, .int .i64 s.depth]
        intro j u hj
        match j, hj with
        | 0, hj => simp [snews] at hj; subst hj; exact hbn.cell 0
        | 1, hj => simp [snews] at hj; subst hj; exact hbn.cell 1
        | 2, hj => simp [snews] at hj; subst hj; exact hbn.cell 2
        | 3, hj => simp [snews] at hj; subst hj; exact hbn.cell 3
        | 4, hj => simp [snews] at hj; subst hj; exact hbn.cell 4
      case c2 =>
        intro u hu
        simp only [snews, List.mem_cons, List.not_mem_nil, or_false] at hu
        rcases hu with rfl | rfl | rfl | rfl | rfl <;> rfl
      case c3 => have := HI.out; have := H70.out; unfold maxLen; omega
      case c4 => have := HI.out; have := H70.out; have := L1.out.size; omega
      case c5 => have := L1.out.size; have := L0.out.size; simp; omega
      intro v' w8 hown' hgrow _
      have hbel' := (L1.out.alloc L1.out.size (.cells #[.int .i64 s.owners, .int .i64 s.seq, .int .i64 s.first, .int .i64 s.words, .int .i64 s.depth] 95)).grown hgrow (by have := L1.out.size; simp; omega) (fun k hk => (OW1.out.lt k hk).1)
      have L8 := Lib.hid hbel'
      rw [← HSO.out, ← scells_succ] at hown'
      have OW8 := Lib.hid hown'
      clear hown' hgrow hbel' d0 d1 d2 d3 d4
      go_wp2_with fail
      exact ⟨⟨i + 1, HI.out, HQ.out.1, OW8.out, L8.out⟩, HQ.out.2⟩
    · obtain rfl : i = n := by omega
      have kd : decide ((i : Int) < (i : Int)) = false := decide_eq_false (by omega)
      have HP := Lib.hid (sps_of_own OW.out HN.out)
      go_wp2_with fail
      go_ret
      exact ⟨_, rfl, HP.out.1, HP.out.2, L0.out⟩
end Go.Proofs.Ytjdalllfnlpmnaa.Bank
