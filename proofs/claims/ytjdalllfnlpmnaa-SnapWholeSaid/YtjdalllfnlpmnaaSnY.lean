/-
  Law 10: topics laid in a bank of their own. Conditions stand at each. By an AI agent.
-/
import Derived.Test.YtjdalllfnlpmnaaSnB
import Derived.Deep.CutRange
namespace Go.Proofs.Ytjdalllfnlpmnaa.Bank
set_option linter.unusedVariables false
set_option linter.unusedSimpArgs false
open Go Go.RowKit Go.Proofs.Ytjdalllfnlpmnaa.Base Go.Deep Go.ChangeShapes Go.WideShapes
theorem res_tmp3 {P : Program} {fn : Func} {p q r : Tmp} (h : fn.results = #[.tmp p, .tmp q, .tmp r]) (tmps : Array Value) (w : World) :
    (results fn tmps).run P w = .ok (.tuple #[tmps.getD p undef, tmps.getD q undef, tmps.getD r undef]) w := by
  simp [results, h]
structure Tp where
  words : Int
  depth : Int
instance : Inhabited Tp := ⟨⟨0, 0⟩⟩
structure Tps (w : World) (v : Value) (n : Nat) (l : Nat → Tp) : Prop where
  form : ∃ A c, v = .slice A n c ∧ n ≤ maxLen ∧ (0 < n → ∃ b o, A = some ⟨b, o, none⟩ ∧ b < w.heap.size ∧ ∀ i : Nat, i < n →
    w.cell? ⟨b, o + i * 2, none⟩ = some (.int .i64 (l i).words) ∧ w.cell? ⟨b, o + i * 2 + 1, none⟩ = some (.int .i64 (l i).depth))
theorem Tps.below {w w' : World} {v : Value} {n : Nat} {l : Nat → Tp} (h : Tps w v n l) (hb : Below w.heap.size w w') : Tps w' v n l := by
  obtain ⟨A, c, e, hn, hf⟩ := h.form
  refine ⟨A, c, e, hn, fun h0 => ?_⟩
  obtain ⟨b, o, hA, hlt, hc⟩ := hf h0
  exact ⟨b, o, hA, Nat.lt_of_lt_of_le hlt hb.size, fun i hi => ⟨(hb.cell (p := ⟨b, _, none⟩) hlt).trans (hc i hi).1, (hb.cell (p := ⟨b, _, none⟩) hlt).trans (hc i hi).2⟩⟩
def TGood (s : Tp) : Prop := (1 ≤ s.words ∧ s.words ≤ 4) ∧ (2 ≤ s.depth ∧ s.depth ≤ 5)
def TOk (n : Nat) (l : Nat → Tp) : Prop := (1 ≤ n ∧ n ≤ 5) ∧ ∀ i, i < n → TGood (l i)
/-- where a topic begins -/
def offT (l : Nat → Tp) : Nat → Int
  | 0 => 0
  | i + 1 => offT l i + 2 + (l i).words * (l i).depth
def laidS (l : Nat → Tp) (i : Nat) : Spot := ⟨offT l i, offT l i + 1, offT l i + 2, (l i).words, (l i).depth⟩
theorem good_mul {s : Tp} (h : TGood s) : 2 ≤ s.words * s.depth ∧ s.words * s.depth ≤ 20 := by
  obtain ⟨⟨h1, h2⟩, h3, h4⟩ := h
  have a : 1 * s.depth ≤ s.words * s.depth := Int.mul_le_mul_of_nonneg_right h1 (by omega)
  have b : s.words * s.depth ≤ 4 * s.depth := Int.mul_le_mul_of_nonneg_right h2 (by omega)
  omega
theorem offT_bounds {l : Nat → Tp} {n : Nat} (h : ∀ i, i < n → TGood (l i)) : ∀ i, i ≤ n → 0 ≤ offT l i ∧ offT l i ≤ 22 * (i : Int)
  | 0, _ => ⟨Int.le_refl _, Int.le_refl _⟩
  | i + 1, hi => by
    have ih := offT_bounds h i (by omega)
    have := good_mul (h i (by omega))
    unfold offT
    push_cast
    omega
theorem laid_right {l : Nat → Tp} {n : Nat} (h : TOk n l) {i : Nat} (hi : i < n) : (laidS l i).Right := by
  have hb := offT_bounds h.2 i (by omega)
  have hg := h.2 i hi
  have hn := h.1.2
  obtain ⟨⟨h1, h2⟩, h3, h4⟩ := hg
  unfold Spot.Right laidS
  simp only
  omega
theorem laid_wrong {l : Nat → Tp} {n : Nat} (h : TOk n l) {tries : Int} (ht : 1 ≤ tries ∧ tries ≤ 16) : wrongE n (laidS l) tries = 0 := by
  unfold wrongE
  rw [if_neg (by have := h.1; omega), if_neg]
  rintro (h1 | h1 | h1)
  · rw [(allR_iff (laidS l) n).mpr (fun i hi => laid_right h hi)] at h1; cases h1
  · omega
  · omega
theorem off_next {l : Nat → Tp} {n : Nat} (h : ∀ i, i < n → TGood (l i)) (hn : n ≤ 5) {i : Nat} (hi : i < n) : wrap64 (wrap64 (offT l i + 2) + wrap64 ((l i).words * (l i).depth)) = offT l (i + 1) ∧ wrap64 (offT l i + 1) = offT l i + 1 ∧ wrap64 (offT l i + 2) = offT l i + 2 := by
  have hb := offT_bounds h i (by omega)
  have := good_mul (h i hi)
  rw [wrap64_in (offT l i + 2) (by omega), wrap64_in ((l i).words * (l i).depth) (by omega), wrap64_in _ (by omega), wrap64_in _ (by omega)]
  exact ⟨rfl, rfl, rfl⟩
/-- what lay answers of topics that may be -/
def LaidAt (w : World) (base n : Nat) (l : Nat → Tp) (v p : Value) : Prop :=
  ∃ r c g h, v = .slice (some ⟨r, 0, none⟩) n c ∧ p = .pointer (some ⟨g, 0, none⟩) ∧ w.ownsRow base 65 5 v n (scells (laidS l) n) ∧ BankAt w g h (zeros (offT l n).toNat) 0 ∧ base ≤ r ∧ r < h ∧ h < g ∧ g < w.heap.size
set_option maxRecDepth 100000 in
set_option maxHeartbeats 8000000 in
theorem lay_any (v : Value) (n : Nat) (l : Nat → Tp) (w : World) (h : Tps w v n l) :
    Calls Try.prog 23 #[v] w fun e w' => ((TOk n l ∧ ∃ v1 p1, e = .returned (.tuple #[v1, p1, .bool true]) ∧ LaidAt w' w.heap.size n l v1 p1) ∨ (¬ TOk n l ∧ e = .returned (.tuple #[.slice none 0 0, .pointer none, .bool false]))) ∧ Below w.heap.size w w' := by
  obtain ⟨A, c, rfl, hn, hg⟩ := h.form
  have HG := Lib.hid hg
  have HN := Lib.hid hn
  obtain ⟨i0_, hi0, hz0, hz1, hz2⟩ := info_parts pspot_info
  clear h hn hg
  by_cases h1 : n < 1
  · have k1 : decide ((n : Int) < 1) = true := decide_eq_true (by omega)
    have HT := Lib.hid (show ¬ TOk n l from fun h => by have := h.1; omega)
    clear h1
    go_enter Try.func23, Try.ntmps23
    go_wp2_with fail
    refine bodyPost_ret (res_tmp3 (fn := Try.f23) rfl _ _) rfl ?_
    exact ⟨.inr ⟨HT.out, rfl⟩, Below.refl _ _⟩
  by_cases h2 : 5 < n
  · have k1 : decide ((n : Int) < 1) = false := decide_eq_false (by omega)
    have k2 : decide ((n : Int) > 5) = true := decide_eq_true (by omega)
    have HT := Lib.hid (show ¬ TOk n l from fun h => by have := h.1; omega)
    clear h1 h2
    go_enter Try.func23, Try.ntmps23
    go_wp2_with fail
    refine bodyPost_ret (res_tmp3 (fn := Try.f23) rfl _ _) rfl ?_
    exact ⟨.inr ⟨HT.out, rfl⟩, Below.refl _ _⟩
  have k1 : decide ((n : Int) < 1) = false := decide_eq_false (by omega)
  have k2 : decide ((n : Int) > 5) = false := decide_eq_false (by omega)
  have HN5 := Lib.hid (show 1 ≤ n ∧ n ≤ 5 by omega)
  clear h1 h2
  obtain ⟨b, ob, rfl, hb, hc⟩ := HG.out (by have := HN5.out; omega)
  have HB := Lib.hid hb
  have HC := Lib.hid hc
  clear hb hc HG
  go_enter Try.func23, Try.ntmps23
  go_wp2_with fail
  clear k1 k2
  go_loopw [5, 6, 7] (fun s5 s6 s7 wr => ∃ i : Nat, i ≤ n ∧ s7 = .int .i64 i ∧ s6 = .int .i64 (offT l i) ∧ (∀ j, j < i → TGood (l j)) ∧ wr.ownsRow w.heap.size 65 5 s5 i (scells (laidS l) i) ∧ Below w.heap.size w wr) (fun s5 s6 s7 wr => n - (intOf s7).toNat)
  case atStart => exact ⟨0, by omega, rfl, rfl, fun j hj => absurd hj (by omega), World.ownsRow_nil _ _ _ _, Below.refl _ _⟩
  case round =>
    obtain ⟨i, hi, rfl, rfl, hgood, hown, hl⟩ := hrel
    have OW := Lib.hid hown
    have L0 := Lib.hid hl
    have HGO := Lib.hid hgood
    clear hl hown hgood
    by_cases hlt : i < n
    · have kd : decide ((i : Int) < (n : Int)) = true := decide_eq_true (by omega)
      have ki0 : (0 : Int) ≤ (i : Int) := by omega
      have ki1 : (i : Int) < (n : Int) := by omega
      have HI := Lib.hid hlt
      clear hi hlt
      have HC2 := Lib.hid (HC.out i HI.out)
      have c0 := (L0.out.cell (p := ⟨b, ob + i * 2, none⟩) HB.out).trans HC2.out.1
      have c1 := (L0.out.cell (p := ⟨b, ob + i * 2 + 1, none⟩) HB.out).trans HC2.out.2
      by_cases hbad : TGood (l i)
      case neg =>
        have HT := Lib.hid (show ¬ TOk n l from fun h => hbad (h.2 i HI.out))
        have hw : ((l i).words < 1) ∨ (1 ≤ (l i).words ∧ (l i).words > 4) ∨ (1 ≤ (l i).words ∧ (l i).words ≤ 4 ∧ (l i).depth < 2) ∨ (1 ≤ (l i).words ∧ (l i).words ≤ 4 ∧ 2 ≤ (l i).depth ∧ (l i).depth > 5) := by unfold TGood at hbad; omega
        clear hbad
        generalize (l i).words = wo at *
        generalize (l i).depth = de at *
        rcases hw with hw | ⟨hw, hw2⟩ | ⟨hw, hw2, hw3⟩ | ⟨hw, hw2, hw3, hw4⟩
        · have d1 : decide (wo < 1) = true := decide_eq_true hw
          clear hw
          go_wp2_with fail
          refine bodyPost_ret (res_tmp3 (fn := Try.f23) rfl _ _) rfl ?_
          exact ⟨.inr ⟨HT.out, rfl⟩, L0.out⟩
        · have d1 : decide (wo < 1) = false := decide_eq_false (by omega)
          have d2 : decide (wo > 4) = true := decide_eq_true hw2
          clear hw hw2
          go_wp2_with fail
          refine bodyPost_ret (res_tmp3 (fn := Try.f23) rfl _ _) rfl ?_
          exact ⟨.inr ⟨HT.out, rfl⟩, L0.out⟩
        · have d1 : decide (wo < 1) = false := decide_eq_false (by omega)
          have d2 : decide (wo > 4) = false := decide_eq_false (by omega)
          have d3 : decide (de < 2) = true := decide_eq_true hw3
          clear hw hw2 hw3
          go_wp2_with fail
          refine bodyPost_ret (res_tmp3 (fn := Try.f23) rfl _ _) rfl ?_
          exact ⟨.inr ⟨HT.out, rfl⟩, L0.out⟩
        · have d1 : decide (wo < 1) = false := decide_eq_false (by omega)
          have d2 : decide (wo > 4) = false := decide_eq_false (by omega)
          have d3 : decide (de < 2) = false := decide_eq_false (by omega)
          have d4 : decide (de > 5) = true := decide_eq_true hw4
          clear hw hw2 hw3 hw4
          go_wp2_with fail
          refine bodyPost_ret (res_tmp3 (fn := Try.f23) rfl _ _) rfl ?_
          exact ⟨.inr ⟨HT.out, rfl⟩, L0.out⟩
      have HGI := Lib.hid (show ∀ j, j < i + 1 → TGood (l j) from fun j hj => by
        by_cases e : j = i
        · subst e; exact hbad
        · exact HGO.out j (by omega))
      have HOF := Lib.hid (off_next (n := i + 1) HGI.out (by have := HN5.out; have := HI.out; omega) (Nat.lt_succ_self i))
      have HQ := Lib.hid (turn_no i n HI.out HN.out)
      have d1 : decide ((l i).words < 1) = false := decide_eq_false (by have := hbad.1; omega)
      have d2 : decide ((l i).words > 4) = false := decide_eq_false (by have := hbad.1; omega)
      have d3 : decide ((l i).depth < 2) = false := decide_eq_false (by have := hbad.2; omega)
      have d4 : decide ((l i).depth > 5) = false := decide_eq_false (by have := hbad.2; omega)
      clear hbad HGO
      go_upto_region 10 with fail
      clear c0 c1 d1 d2 d3 d4
      have kf1 := HOF.out.2.1
      have kf2 := HOF.out.2.2
      have hne : Nonempty (Held (Below w.heap.size wr)) := ⟨⟨wr, Below.refl _ _⟩⟩
      have p0 : ∀ y : Held (Below w.heap.size wr), y.w.cell? ⟨b, ob + i * 2, none⟩ = some (.int .i64 (l i).words) := fun y => ((L0.out.trans y.ok).cell (p := ⟨b, ob + i * 2, none⟩) HB.out).trans HC2.out.1
      have p1 : ∀ y : Held (Below w.heap.size wr), y.w.cell? ⟨b, ob + i * 2 + 1, none⟩ = some (.int .i64 (l i).depth) := fun y => ((L0.out.trans y.ok).cell (p := ⟨b, ob + i * 2 + 1, none⟩) HB.out).trans HC2.out.2
      refine drawn_bars (S := Below w.heap.size wr) [([0, 1, 2, 3, 4, 5, 6, 7, 8, 9, 10, 11, 12, 13, 14, 15, 16], 17), ([], 18)] [19] (by kernel_rfl) (by kernel_rfl) (by kernel_rfl) rfl (Below.refl _ _).drew ?_
      refine Phased.go ?_
      simp only [pick, List.map_cons, List.map_nil, List.getElem?_cons_zero, List.getElem?_cons_succ, Option.getD_some]
      repeat (go_big_quiet_step (fail))
      refine wpQuiet_nil ?_
      have hbd : Below w.heap.size wr wr.drew := (Below.refl _ _).drew
      have L1 := Lib.hid (L0.out.trans hbd)
      have OW1 := Lib.hid (show wr.drew.ownsRow w.heap.size 65 5 _ i (scells (laidS l) i) from OW.out)
      have HBD := Lib.hid hbd
      clear hbd
      generalize wr.drew = w7 at *
      go_wp2_with fail
      refine behind_normal ⟨Below w.heap.size wr, fun W h => h, HBD.out.alloc (by have := L1.out.size; exact this) _, ?_⟩
      refine Phased.go ?_
      simp only [pick, List.map_cons, List.map_nil, List.getElem?_cons_zero, List.getElem?_cons_succ, Option.getD_some]
      repeat (go_big_quiet_step (fail))
      refine wpQuiet_nil ?_
      go_wp2_with (at_builtin; refine wpList_append_own _ rfl _ _ 22 rfl w.heap.size 65 i0_ (.agg #[.int .i64 0, .int .i64 0, .int .i64 0, .int .i64 0, .int .i64 0]) 5 40 Try.underlying22 hi0 hz0 hz1 hz2 rfl (by decide) _ _ _ rfl (OW1.out.alloc _) ⟨w7.heap.size, 0, none⟩ 1 1 (snews (laidS l i)) rfl rfl ?c1 ?c2 ?c3 ?c4 ?c5 ?_)
      case c1 =>
        have hbn := Blk.new w7 65 #[.int .i64 (offT l i), .int .i64 (offT l i + 1), .int .i64 (offT l i + 2), .int .i64 (l i).words, .int .i64 (l i).depth]
        intro j u hj
        match j, hj with
        | 0, hj => simp [snews, laidS] at hj; subst hj; exact hbn.cell 0
        | 1, hj => simp [snews, laidS] at hj; subst hj; exact hbn.cell 1
        | 2, hj => simp [snews, laidS] at hj; subst hj; exact hbn.cell 2
        | 3, hj => simp [snews, laidS] at hj; subst hj; exact hbn.cell 3
        | 4, hj => simp [snews, laidS] at hj; subst hj; exact hbn.cell 4
      case c2 =>
        intro u hu
        simp only [snews, List.mem_cons, List.not_mem_nil, or_false] at hu
        rcases hu with rfl | rfl | rfl | rfl | rfl <;> rfl
      case c3 => have := HI.out; have := HN5.out; unfold maxLen; omega
      case c4 => have := HI.out; have := HN5.out; have := L1.out.size; omega
      case c5 => have := L1.out.size; have := L0.out.size; simp; omega
      intro v' w8 hown' hgrow _
      have hbel' := (HBD.out.alloc L1.out.size (.cells #[.int .i64 (offT l i), .int .i64 (offT l i + 1), .int .i64 (offT l i + 2), .int .i64 (l i).words, .int .i64 (l i).depth] 65)).grown hgrow (by have := L1.out.size; simp; omega) (fun k hk => (OW1.out.lt k hk).1)
      rw [← scells_succ] at hown'
      have OW8 := Lib.hid hown'
      have HB8 := Lib.hid hbel'
      clear hown' hgrow hbel'
      refine behind_normal ⟨Below w.heap.size wr, fun W h => h, HB8.out, ?_⟩
      refine Phased.end_ ?_
      have hne5 : Nonempty (Held (fun W => W = w8)) := ⟨⟨_, rfl⟩⟩
      simp only [pick, List.map_cons, List.map_nil, List.getElem?_cons_zero, List.getElem?_cons_succ, Option.getD_some]
      repeat (go_big_quiet_step (fail))
      refine wpQuiet_nil ?_
      clear hne5 hne p0 p1 kf1 OW1 L1 HBD OW
      have L8 := Lib.hid (L0.out.trans HB8.out)
      clear HB8 L0
      go_upto_region 11 with fail
      have hne : Nonempty (Held (fun W => W = w8.drew)) := ⟨⟨_, rfl⟩⟩
      have p0 : ∀ y : Held (fun W => W = w8.drew), y.w.cell? ⟨b, ob + i * 2, none⟩ = some (.int .i64 (l i).words) := fun y => by rw [y.ok]; exact (L8.out.cell (p := ⟨b, ob + i * 2, none⟩) HB.out).trans HC2.out.1
      have p1 : ∀ y : Held (fun W => W = w8.drew), y.w.cell? ⟨b, ob + i * 2 + 1, none⟩ = some (.int .i64 (l i).depth) := fun y => by rw [y.ok]; exact (L8.out.cell (p := ⟨b, ob + i * 2 + 1, none⟩) HB.out).trans HC2.out.2
      refine drawn_bars (S := fun _ => True) [] [0, 1, 2, 3, 4, 5, 6, 7, 8, 9, 10, 11, 12, 13, 14] (by kernel_rfl) (by kernel_rfl) (by kernel_rfl) rfl trivial ?_
      refine Phased.end_ ?_
      clear kf2
      simp only [pick, List.map_cons, List.map_nil, List.getElem?_cons_zero, List.getElem?_cons_succ, Option.getD_some]
      repeat (go_big_quiet_step (fail))
      refine wpQuiet_nil ?_
      clear hne p0 p1
      have L9 := Lib.hid (show Below w.heap.size w w8.drew from L8.out.drew)
      have OW9 := Lib.hid (show w8.drew.ownsRow w.heap.size 65 5 v' (i + 1) (scells (laidS l) (i + 1)) from OW8.out)
      clear L8 OW8
      go_wp2_with fail
      exact ⟨⟨i + 1, HI.out, HQ.out.1, by rw [← HOF.out.1], HGI.out, OW9.out, L9.out⟩, HQ.out.2⟩
    · obtain rfl : i = n := by omega
      have kd : decide ((i : Int) < (i : Int)) = false := decide_eq_false (by omega)
      have HT := Lib.hid (show TOk i l from ⟨HN5.out, HGO.out⟩)
      obtain ⟨N, hN⟩ : ∃ N : Nat, offT l i = N := ⟨(offT l i).toNat, by have := (offT_bounds HGO.out i (Nat.le_refl _)).1; omega⟩
      have HNB := Lib.hid (show 1 ≤ N ∧ N ≤ 110 by
        have h1 := (offT_bounds HGO.out i (Nat.le_refl _)).2
        have h5 := HN5.out
        obtain ⟨j, rfl⟩ : ∃ j, i = j + 1 := ⟨i - 1, by omega⟩
        have h2 := (offT_bounds HGO.out j (by omega)).1
        have h3 := good_mul (HGO.out j (by omega))
        have h4 : offT l (j + 1) = offT l j + 2 + (l j).words * (l j).depth := rfl
        omega)
      have HNN := Lib.hid hN
      clear hi hlt
      rw [hN]
      clear hN
      go_wp2_with fail
      refine (BNew_ex N HNB.out.1 (by have := HNB.out; omega) wr).mono ?_; rintro e w9 ⟨g, h, rfl, hk, q1, q2, q3, hb⟩
      obtain ⟨r, c9, rfl, hr, hsi⟩ := spsIn_of_own OW.out (by have := HN5.out; omega)
      have OW9 := Lib.hid (OW.out.kept (row := none) ⟨hb.os, hb.tape, hb.output, hb.size, fun k hk _ => hb.block k hk⟩ (.inr (by simp [Value.ownBlock])))
      have L9 := Lib.hid (bl L0.out hb)
      have HLA := Lib.hid (show r < h ∧ h < g ∧ g < w9.heap.size ∧ w.heap.size ≤ r from ⟨Nat.lt_of_lt_of_le hsi.lt q1, q2, q3, hr⟩)
      have HK := Lib.hid hk
      clear hk q1 q2 q3 hb hr hsi
      go_wp2_with fail
      refine bodyPost_ret (res_tmp3 (fn := Try.f23) rfl _ _) rfl ?_
      refine ⟨.inl ⟨HT.out, _, _, rfl, r, c9, g, h, rfl, rfl, OW9.out, ?_, HLA.out.2.2.2, HLA.out.1, HLA.out.2.1, HLA.out.2.2.1⟩, L9.out⟩
      rw [HNN.out, Int.toNat_natCast]
      exact HK.out
end Go.Proofs.Ytjdalllfnlpmnaa.Bank
