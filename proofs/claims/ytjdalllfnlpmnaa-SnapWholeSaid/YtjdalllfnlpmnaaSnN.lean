/-
  Law 10: slices.Clone of spots; a snapshot in memory; snap.New. Conditions stand at each. By an AI agent.
-/
import Derived.Test.YtjdalllfnlpmnaaSnM
import Derived.Test.YtjdalllfnlpmnaaSch
namespace Go.Proofs.Ytjdalllfnlpmnaa.Bank
set_option linter.unusedVariables false
set_option linter.unusedSimpArgs false
open Go Go.RowKit Go.Proofs.Ytjdalllfnlpmnaa.Base Go.Deep Go.ChangeShapes Go.WideShapes
/-- spots that lie in a block, from its first cell on -/
structure SpsIn (w : World) (r n : Nat) (l : Nat → Spot) : Prop where
  lt : r < w.heap.size
  cells : ∀ i : Nat, i < n → ∀ j, j < 5 → w.cell? ⟨r, i * 5 + j, none⟩ = some (scell (l i) j)
theorem SpsIn.bl {w w' : World} {r n : Nat} {l : Nat → Spot} (h : SpsIn w r n l) (hb : Below w.heap.size w w') : SpsIn w' r n l :=
  ⟨Nat.lt_of_lt_of_le h.lt hb.size, fun i hi j hj => (hb.cell (p := ⟨r, _, none⟩) h.lt).trans (h.cells i hi j hj)⟩
theorem SpsIn.ex {T : Nat → Prop} {w w' : World} {r n : Nat} {l : Nat → Spot} (h : SpsIn w r n l) (p : Ex T w w') (hg : ¬ T r) : SpsIn w' r n l :=
  ⟨Nat.lt_of_lt_of_le h.lt p.size, fun i hi j hj => p.cell (h.cells i hi j hj) hg⟩
theorem spsIn_of_own {w : World} {base : Nat} {t : TypeId} {v : Value} {n : Nat} {l : Nat → Spot} (h : w.ownsRow base t 5 v n (scells l n)) (hn : 0 < n) : ∃ r c, v = .slice (some ⟨r, 0, none⟩) n c ∧ base ≤ r ∧ SpsIn w r n l := by
  rcases h.2 with ⟨rfl, h0⟩ | ⟨g, cap, cur, rfl, hbg, hh, _⟩
  · omega
  · refine ⟨g, cap, rfl, hbg, (h.lt g rfl).2, fun i hi j hj => ?_⟩
    have := h.cells (g := g) rfl (i * 5 + j) _ (scells_at l hi hj)
    have e : (⟨g, 0, none⟩ : Addr).add (i * 5 + j) = ⟨g, i * 5 + j, none⟩ := by unfold Addr.add; split <;> simp_all
    rwa [e] at this
theorem scells_len (l : Nat → Spot) (n : Nat) : (scells l n).length = 5 * n := by simp [scells]
theorem pspot_info : (Try.prog.info? 65).map (fun i => (i.zero, i.size, i.bytes)) = some (some (.agg #[.int .i64 0, .int .i64 0, .int .i64 0, .int .i64 0, .int .i64 0]), 5, 40) := by kernel_rfl
set_option maxRecDepth 100000 in
set_option maxHeartbeats 4000000 in
/-- slices.Clone of spots, of which there are some -/
theorem CloneP_any (v : Value) (n : Nat) (l : Nat → Spot) (w : World) (h : Sps w v n l) (h0 : 0 < n) (h1 : n ≤ 64) :
    Calls Try.prog 33 #[v] w fun e w' => ∃ r cc, e = .returned (.slice (some ⟨r, 0, none⟩) n cc) ∧ w.heap.size ≤ r ∧ SpsIn w' r n l ∧ Below w.heap.size w w' := by
  obtain ⟨i0, hi, hz0, hz1, hz2⟩ := info_parts pspot_info
  obtain ⟨A0, c, rfl, hn, hg⟩ := h.form
  obtain ⟨b, off, rfl, hb, hc⟩ := hg h0
  have q22 : ∀ (w : World) (a : Option Addr) (n c n' c' : Nat), (Go.binOp .eql 22 (.slice a n c) (.slice none n' c')).run Try.prog w = .ok (.bool a.isNone) w := fun w a n c n' c' => Lib.run_eql_slice_nil w _ _ a n c n' c' Try.underlying22
  have u22 : ∀ w, Sem.run Try.prog (underlying 22) w = .ok (TypeDesc.slice 65) w := run_underlying Try.underlying22
  have HC := Lib.hid hc
  clear hc hg h hn
  go_enter Try.func33, Try.ntmps33
  go_wp2_with (at_builtin; refine wpList_append_own _ rfl _ _ 22 rfl w.heap.size 65 i0 (.agg #[.int .i64 0, .int .i64 0, .int .i64 0, .int .i64 0, .int .i64 0]) 5 40 Try.underlying22 hi hz0 hz1 hz2 rfl (by decide) _ _ _ rfl (World.ownsRow_made w #[] 0 (Nat.le_refl _) (Nat.zero_le _) rfl) ⟨b, off, none⟩ n c (scells l n) rfl ?qc1 ?qc2 ?qc3 ?qc4 ?qc5 ?qc6 ?_)
  case qc1 => rw [scells_len]; omega
  case qc2 =>
    intro j u hj
    have hjn : j < n * 5 := by
      have := (List.getElem?_eq_some_iff.1 hj).1
      rw [scells_len] at this
      omega
    rw [Addr.add_lit]
    refine Lib.cell?_alloc_some _ ?_
    have hj2 := scells_at l (k := n) (i := j / 5) (j := j % 5) (by omega) (by omega)
    rw [show j / 5 * 5 + j % 5 = j by omega, hj] at hj2
    cases hj2
    have h5 := HC.out (j / 5) (by omega)
    rcases (show j % 5 = 0 ∨ j % 5 = 1 ∨ j % 5 = 2 ∨ j % 5 = 3 ∨ j % 5 = 4 by omega) with e | e | e | e | e <;> rw [e]
    · rw [show off + j = off + j / 5 * 5 by omega]; exact h5.1
    · rw [show off + j = off + j / 5 * 5 + 1 by omega]; exact h5.2.1
    · rw [show off + j = off + j / 5 * 5 + 2 by omega]; exact h5.2.2.1
    · rw [show off + j = off + j / 5 * 5 + 3 by omega]; exact h5.2.2.2.1
    · rw [show off + j = off + j / 5 * 5 + 4 by omega]; exact h5.2.2.2.2
  case qc3 =>
    intro u hu
    obtain ⟨t, _, rfl⟩ := List.mem_map.1 hu
    rcases (show t % 5 = 0 ∨ t % 5 = 1 ∨ t % 5 = 2 ∨ t % 5 = 3 ∨ t % 5 = 4 by omega) with e | e | e | e | e <;> rw [e] <;> rfl
  case qc4 => unfold maxLen; omega
  case qc5 => omega
  case qc6 => simp
  intro v' w1 hown hgrow hnil
  have hown' : w1.ownsRow w.heap.size 65 5 v' n (scells l n) := by simpa using hown
  obtain ⟨r, cc, hv, hr, hin⟩ := spsIn_of_own hown' h0
  have hbl : Below w.heap.size w w1 := ((Below.refl _ w).alloc (Nat.le_refl _) _).grown hgrow (by simp) (by intro k hk; simp [Value.ownBlock] at hk; omega)
  have HBL := Lib.hid hbl
  have HIN := Lib.hid hin
  subst hv
  clear hown hgrow hown' hbl hin
  go_wp2_with fail
  go_ret
  exact ⟨_, _, rfl, hr, HIN.out, HBL.out⟩
/-- a row of words that lies in a block of its own -/
def URow (w : World) (r : Nat) (xs : List Int) : Prop := Blk w r 42 (xs.map (Value.int .u64)).toArray
theorem URow.word {w : World} {r : Nat} {xs : List Int} (b : URow w r xs) {i : Nat} (hi : i < xs.length) : w.cell? ⟨r, i, none⟩ = some (.int .u64 (nth xs i)) := by
  rw [Blk.cell b i]
  simp [nth, List.getD_eq_getElem?_getD, List.getElem?_eq_getElem hi]
theorem URow.stored {w : World} {r : Nat} {xs : List Int} (b : URow w r xs) (i : Nat) (x : Int) : URow (w.setCell ⟨r, i, none⟩ (.int .u64 x)) r (xs.set i x) := by
  have h := Blk.set_ b i (.int .u64 x)
  have e : ((xs.map (Value.int .u64)).toArray).setIfInBounds i (.int .u64 x) = ((xs.set i x).map (Value.int .u64)).toArray := by
    simp only [List.setIfInBounds_toArray, List.map_set]
  unfold URow
  rw [← e]
  exact h
theorem URow.ex {T : Nat → Prop} {w w' : World} {r : Nat} {xs : List Int} (b : URow w r xs) (p : Ex T w w') (h : ¬ T r) : URow w' r xs := Blk.ex b p h
theorem URow.bl {w w' : World} {r : Nat} {xs : List Int} (b : URow w r xs) (p : Below w.heap.size w w') : URow w' r xs := Blk.bl b p
theorem URow.lt {w : World} {r : Nat} {xs : List Int} (b : URow w r xs) : r < w.heap.size := Blk.lt b
/-- a snapshot in memory: its block, and the three rows that are its own -/
structure SnAt (w : World) (o rs cs rg rw n m : Nat) (l : Nat → Spot) (tries done begun steps how : Int) (gl wl : List Int) : Prop where
  box : Blk w o 93 #[.slice (some ⟨rs, 0, none⟩) n cs, .int .i64 tries, .int .i64 done, .slice (some ⟨rg, 0, none⟩) n n, .slice (some ⟨rw, 0, none⟩) m m, .int .i64 begun, .int .i64 steps, .int .i64 how]
  spots : SpsIn w rs n l
  gens : URow w rg gl
  glen : gl.length = n
  words : URow w rw wl
  wlen : wl.length = m
  apart : rs ≠ o ∧ rg ≠ o ∧ rw ≠ o ∧ rs ≠ rg ∧ rs ≠ rw ∧ rg ≠ rw
theorem SNew_out (v : Value) (n : Nat) (l : Nat → Spot) (tries : Int) (w : World) (h : Sps w v n l) (h0 : wrongE n l tries ≠ 0) :
    Calls Try.prog 10 #[v, .int .i64 tries] w fun e w' => e = .returned (.tuple #[.pointer none, .int .i64 (wrongE n l tries)]) ∧ Below w.heap.size w w' := by
  have HW := Lib.hid (swrong_any v n l tries w h)
  obtain ⟨A0, c, rfl, hn, hg⟩ := h.form
  generalize wrongE n l tries = z at HW h0 ⊢
  have kz : (z != 0) = true := bne_iff_ne.mpr h0
  clear h hn hg h0
  go_enter Try.func10, Try.ntmps10
  go_wp2_with fail
  refine HW.out.mono ?_; rintro e w1 ⟨rfl, hb1⟩
  have L1 := Lib.hid hb1
  clear hb1 HW
  go_wp2_with fail
  go_ret2
  exact ⟨rfl, L1.out⟩
set_option maxRecDepth 100000 in
set_option maxHeartbeats 8000000 in
theorem SNew_in (v : Value) (n : Nat) (l : Nat → Spot) (tries : Int) (w : World) (h : Sps w v n l) (h0 : wrongE n l tries = 0) (m : Nat) (hm : widthF l n = (m : Int)) :
    Calls Try.prog 10 #[v, .int .i64 tries] w fun e w' => ∃ o rs cs rg rw, e = .returned (.tuple #[.pointer (some ⟨o, 0, none⟩), .int .i64 0]) ∧ SnAt w' o rs cs rg rw n m l tries 0 0 0 0 (zeros n) (zeros m) ∧ w.heap.size ≤ rs ∧ w.heap.size ≤ rg ∧ w.heap.size ≤ rw ∧ w.heap.size ≤ o ∧ Below w.heap.size w w' := by
  have HZ := Lib.hid (wrongE_zero h0)
  have HP := Lib.hid (show 0 < n from HZ.out.1.1)
  have H64 := Lib.hid HZ.out.1.2
  have HM := Lib.hid hm
  have HM1 := Lib.hid (show m ≤ 4096 by
    have := widthF_bounds HZ.out.2.1 n (Nat.le_refl _)
    have := H64.out
    have := HM.out
    omega)
  have HW := Lib.hid (swrong_any v n l tries w h)
  have HS := Lib.hid h
  obtain ⟨A0, c, rfl, hn, hg⟩ := h.form
  rw [h0] at HW
  clear h hn hg h0 hm
  go_enter Try.func10, Try.ntmps10
  go_wp2_with fail
  refine HW.out.mono ?_; rintro e w0 ⟨rfl, hb1⟩
  have L0 := Lib.hid hb1.drew
  clear hb1 HW
  go_upto_region 4 with fail
  refine drawn_sch (S := fun _ => True) [] (.two [0, 2, 3, 4, 6] 1 (.two [] 5 (.bar [] 7 (.bar [] 8 (.bar [9] 10 (.fin [11, 12])))) 7 (.two [] 5 (.bar [] 8 (.bar [9] 10 (.fin [11, 12]))) 8 (.bar [] 5 (.bar [9] 10 (.fin [11, 12]))))) 5 (.bar [] 1 (.bar [] 7 (.bar [] 8 (.bar [9] 10 (.fin [11, 12])))))) (by kernel_rfl) (by kernel_rfl) (by kernel_rfl) rfl trivial ?_
  obtain ⟨w1, hw1⟩ : ∃ w1, w1 = w0.drew := ⟨_, rfl⟩
  rw [← hw1] at L0
  try rw [← hw1]
  have L1 := Lib.hid L0.out
  clear hw1 L0
  have hne : Nonempty (Held (fun _ : World => True)) := ⟨⟨w, trivial⟩⟩
  refine PhasedC.two_ ?_
  simp only [pick, List.map_cons, List.map_nil, List.getElem?_cons_zero, List.getElem?_cons_succ, Option.getD_some]
  repeat (go_big_quiet_step (fail))
  refine wpQuiet_nil ?_
  try (intro w8 hw8; clear hw8 w8)
  refine ⟨?_, ?_⟩
  · go_wp2_with fail
    refine (CloneP_any _ n l w1 (HS.out.below L1.out) HP.out H64.out).mono ?_; rintro e v0 ⟨rs, cs, rfl, hr, hin, hb⟩
    have L_0 := Lib.hid (bl L1.out hb)
    have S_0 := Lib.hid hin
    have BS := Lib.hid (Nat.le_trans L1.out.size hr)
    clear hb hin hr
    try go_wp2_with fail
    refine behind_normal ⟨fun _ => True, fun W h => h, by first | trivial | exact fun _ => trivial, ?_⟩
    refine PhasedC.two_ ?_
    simp only [pick, List.map_cons, List.map_nil, List.getElem?_cons_zero, List.getElem?_cons_succ, Option.getD_some]
    repeat (go_big_quiet_step (fail))
    refine wpQuiet_nil ?_
    try (intro w8 hw8; clear hw8 w8)
    refine ⟨?_, ?_⟩
    · have hmk := make_words n (by have := H64.out; omega) v0
      go_wp2_with fail
      clear hmk
      have hn := Blk.new v0 42 ((zeros n).map (Value.int .u64)).toArray
      have hb := (Below.refl v0.heap.size v0).alloc (Nat.le_refl _) (.cells ((zeros n).map (Value.int .u64)).toArray 42)
      obtain ⟨rg, hnb⟩ : ∃ rg, v0.heap.size = rg := ⟨_, rfl⟩
      have hge : v0.heap.size ≤ rg := Nat.le_of_eq hnb
      simp only [hnb] at hn ⊢
      generalize v0.alloc (.cells ((zeros n).map (Value.int .u64)).toArray 42) = v1 at *
      have L_1 := Lib.hid (bl L_0.out hb)
      have S_1 := Lib.hid (S_0.out.bl hb)
      have ne_SG : rs < rg := Nat.lt_of_lt_of_le S_0.out.lt hge
      have G_1 := Lib.hid hn
      have BG := Lib.hid (Nat.le_trans L_0.out.size hge)
      clear hb hn hge hnb
      try go_wp2_with fail
      refine behind_normal ⟨fun _ => True, fun W h => h, by first | trivial | exact fun _ => trivial, ?_⟩
      refine PhasedC.bar_ ?_
      simp only [pick, List.map_cons, List.map_nil, List.getElem?_cons_zero, List.getElem?_cons_succ, Option.getD_some]
      repeat (go_big_quiet_step (fail))
      refine wpQuiet_nil ?_
      go_wp2_with fail
      refine (width_any _ n l v1 (HS.out.below L_1.out) HZ.out.2.1 H64.out).mono ?_; rintro e v2 ⟨rfl, hb⟩
      rw [HM.out]
      have L_2 := Lib.hid (bl L_1.out hb)
      have S_2 := Lib.hid (S_1.out.bl hb)
      have G_2 := Lib.hid (G_1.out.bl hb)
      clear hb
      try go_wp2_with fail
      refine behind_normal ⟨fun _ => True, fun W h => h, by first | trivial | exact fun _ => trivial, ?_⟩
      refine PhasedC.bar_ ?_
      simp only [pick, List.map_cons, List.map_nil, List.getElem?_cons_zero, List.getElem?_cons_succ, Option.getD_some]
      repeat (go_big_quiet_step (fail))
      refine wpQuiet_nil ?_
      have hmk := make_words m (by have := HM1.out; omega) v2
      go_wp2_with fail
      clear hmk
      have hn := Blk.new v2 42 ((zeros m).map (Value.int .u64)).toArray
      have hb := (Below.refl v2.heap.size v2).alloc (Nat.le_refl _) (.cells ((zeros m).map (Value.int .u64)).toArray 42)
      obtain ⟨rw, hnb⟩ : ∃ rw, v2.heap.size = rw := ⟨_, rfl⟩
      have hge : v2.heap.size ≤ rw := Nat.le_of_eq hnb
      simp only [hnb] at hn ⊢
      generalize v2.alloc (.cells ((zeros m).map (Value.int .u64)).toArray 42) = v3 at *
      have L_3 := Lib.hid (bl L_2.out hb)
      have S_3 := Lib.hid (S_2.out.bl hb)
      have ne_SM : rs < rw := Nat.lt_of_lt_of_le S_2.out.lt hge
      have G_3 := Lib.hid (G_2.out.bl hb)
      have ne_GM : rg < rw := Nat.lt_of_lt_of_le G_2.out.lt hge
      have M_3 := Lib.hid hn
      have BM := Lib.hid (Nat.le_trans L_2.out.size hge)
      clear hb hn hge hnb
      try go_wp2_with fail
      refine behind_normal ⟨fun _ => True, fun W h => h, by first | trivial | exact fun _ => trivial, ?_⟩
      refine PhasedC.bar_ ?_
      simp only [pick, List.map_cons, List.map_nil, List.getElem?_cons_zero, List.getElem?_cons_succ, Option.getD_some]
      repeat (go_big_quiet_step (fail))
      refine wpQuiet_nil ?_
      go_wp2_with fail
      have hn := Blk.new v3 93 #[.slice (some ⟨rs, 0, none⟩) n cs, .int .i64 tries, .int .i64 0, .slice (some ⟨rg, 0, none⟩) n n, .slice (some ⟨rw, 0, none⟩) m m, .int .i64 0, .int .i64 0, .int .i64 0]
      have hb := (Below.refl v3.heap.size v3).alloc (Nat.le_refl _) (.cells #[.slice (some ⟨rs, 0, none⟩) n cs, .int .i64 tries, .int .i64 0, .slice (some ⟨rg, 0, none⟩) n n, .slice (some ⟨rw, 0, none⟩) m m, .int .i64 0, .int .i64 0, .int .i64 0] 93)
      obtain ⟨o, hno⟩ : ∃ o, v3.heap.size = o := ⟨_, rfl⟩
      have hge : v3.heap.size ≤ o := Nat.le_of_eq hno
      simp only [hno] at hn ⊢
      generalize v3.alloc (.cells #[.slice (some ⟨rs, 0, none⟩) n cs, .int .i64 tries, .int .i64 0, .slice (some ⟨rg, 0, none⟩) n n, .slice (some ⟨rw, 0, none⟩) m m, .int .i64 0, .int .i64 0, .int .i64 0] 93) = wE at *
      have L_4 := Lib.hid (bl L_3.out hb)
      have S_4 := Lib.hid (S_3.out.bl hb)
      have ne_SO : rs < o := Nat.lt_of_lt_of_le S_3.out.lt hge
      have G_4 := Lib.hid (G_3.out.bl hb)
      have ne_GO : rg < o := Nat.lt_of_lt_of_le G_3.out.lt hge
      have M_4 := Lib.hid (M_3.out.bl hb)
      have ne_MO : rw < o := Nat.lt_of_lt_of_le M_3.out.lt hge
      have O_4 := Lib.hid hn
      have BO := Lib.hid (Nat.le_trans L_3.out.size hge)
      clear hb hn hge hno
      refine behind_normal ⟨fun _ => True, fun W h => h, by first | trivial | exact fun _ => trivial, ?_⟩
      refine PhasedC.fin_ ?_
      simp only [pick, List.map_cons, List.map_nil, List.getElem?_cons_zero, List.getElem?_cons_succ, Option.getD_some]
      repeat (go_big_quiet_step (fail))
      refine wpQuiet_nil ?_
      try (intro w8 hw8; obtain ⟨⟨w9, hw9⟩, rfl⟩ := hw8; dsimp only at hw9; subst hw9)
      go_wp2_with fail
      go_ret2
      refine ⟨o, rs, cs, rg, rw, rfl, ⟨O_4.out, S_4.out, G_4.out, zeros_len n, M_4.out, zeros_len m, ?_⟩, BS.out, BG.out, BM.out, BO.out, L_4.out⟩
      exact ⟨by omega, by omega, by omega, by omega, by omega, by omega⟩
    · go_wp2_with fail
      refine (width_any _ n l v0 (HS.out.below L_0.out) HZ.out.2.1 H64.out).mono ?_; rintro e v1 ⟨rfl, hb⟩
      rw [HM.out]
      have L_1 := Lib.hid (bl L_0.out hb)
      have S_1 := Lib.hid (S_0.out.bl hb)
      clear hb
      try go_wp2_with fail
      refine behind_normal ⟨fun _ => True, fun W h => h, by first | trivial | exact fun _ => trivial, ?_⟩
      refine PhasedC.two_ ?_
      simp only [pick, List.map_cons, List.map_nil, List.getElem?_cons_zero, List.getElem?_cons_succ, Option.getD_some]
      repeat (go_big_quiet_step (fail))
      refine wpQuiet_nil ?_
      try (intro w8 hw8; clear hw8 w8)
      refine ⟨?_, ?_⟩
      · have hmk := make_words n (by have := H64.out; omega) v1
        go_wp2_with fail
        clear hmk
        have hn := Blk.new v1 42 ((zeros n).map (Value.int .u64)).toArray
        have hb := (Below.refl v1.heap.size v1).alloc (Nat.le_refl _) (.cells ((zeros n).map (Value.int .u64)).toArray 42)
        obtain ⟨rg, hnb⟩ : ∃ rg, v1.heap.size = rg := ⟨_, rfl⟩
        have hge : v1.heap.size ≤ rg := Nat.le_of_eq hnb
        simp only [hnb] at hn ⊢
        generalize v1.alloc (.cells ((zeros n).map (Value.int .u64)).toArray 42) = v2 at *
        have L_2 := Lib.hid (bl L_1.out hb)
        have S_2 := Lib.hid (S_1.out.bl hb)
        have ne_SG : rs < rg := Nat.lt_of_lt_of_le S_1.out.lt hge
        have G_2 := Lib.hid hn
        have BG := Lib.hid (Nat.le_trans L_1.out.size hge)
        clear hb hn hge hnb
        try go_wp2_with fail
        refine behind_normal ⟨fun _ => True, fun W h => h, by first | trivial | exact fun _ => trivial, ?_⟩
        refine PhasedC.bar_ ?_
        simp only [pick, List.map_cons, List.map_nil, List.getElem?_cons_zero, List.getElem?_cons_succ, Option.getD_some]
        repeat (go_big_quiet_step (fail))
        refine wpQuiet_nil ?_
        have hmk := make_words m (by have := HM1.out; omega) v2
        go_wp2_with fail
        clear hmk
        have hn := Blk.new v2 42 ((zeros m).map (Value.int .u64)).toArray
        have hb := (Below.refl v2.heap.size v2).alloc (Nat.le_refl _) (.cells ((zeros m).map (Value.int .u64)).toArray 42)
        obtain ⟨rw, hnb⟩ : ∃ rw, v2.heap.size = rw := ⟨_, rfl⟩
        have hge : v2.heap.size ≤ rw := Nat.le_of_eq hnb
        simp only [hnb] at hn ⊢
        generalize v2.alloc (.cells ((zeros m).map (Value.int .u64)).toArray 42) = v3 at *
        have L_3 := Lib.hid (bl L_2.out hb)
        have S_3 := Lib.hid (S_2.out.bl hb)
        have ne_SM : rs < rw := Nat.lt_of_lt_of_le S_2.out.lt hge
        have G_3 := Lib.hid (G_2.out.bl hb)
        have ne_GM : rg < rw := Nat.lt_of_lt_of_le G_2.out.lt hge
        have M_3 := Lib.hid hn
        have BM := Lib.hid (Nat.le_trans L_2.out.size hge)
        clear hb hn hge hnb
        try go_wp2_with fail
        refine behind_normal ⟨fun _ => True, fun W h => h, by first | trivial | exact fun _ => trivial, ?_⟩
        refine PhasedC.bar_ ?_
        simp only [pick, List.map_cons, List.map_nil, List.getElem?_cons_zero, List.getElem?_cons_succ, Option.getD_some]
        repeat (go_big_quiet_step (fail))
        refine wpQuiet_nil ?_
        go_wp2_with fail
        have hn := Blk.new v3 93 #[.slice (some ⟨rs, 0, none⟩) n cs, .int .i64 tries, .int .i64 0, .slice (some ⟨rg, 0, none⟩) n n, .slice (some ⟨rw, 0, none⟩) m m, .int .i64 0, .int .i64 0, .int .i64 0]
        have hb := (Below.refl v3.heap.size v3).alloc (Nat.le_refl _) (.cells #[.slice (some ⟨rs, 0, none⟩) n cs, .int .i64 tries, .int .i64 0, .slice (some ⟨rg, 0, none⟩) n n, .slice (some ⟨rw, 0, none⟩) m m, .int .i64 0, .int .i64 0, .int .i64 0] 93)
        obtain ⟨o, hno⟩ : ∃ o, v3.heap.size = o := ⟨_, rfl⟩
        have hge : v3.heap.size ≤ o := Nat.le_of_eq hno
        simp only [hno] at hn ⊢
        generalize v3.alloc (.cells #[.slice (some ⟨rs, 0, none⟩) n cs, .int .i64 tries, .int .i64 0, .slice (some ⟨rg, 0, none⟩) n n, .slice (some ⟨rw, 0, none⟩) m m, .int .i64 0, .int .i64 0, .int .i64 0] 93) = wE at *
        have L_4 := Lib.hid (bl L_3.out hb)
        have S_4 := Lib.hid (S_3.out.bl hb)
        have ne_SO : rs < o := Nat.lt_of_lt_of_le S_3.out.lt hge
        have G_4 := Lib.hid (G_3.out.bl hb)
        have ne_GO : rg < o := Nat.lt_of_lt_of_le G_3.out.lt hge
        have M_4 := Lib.hid (M_3.out.bl hb)
        have ne_MO : rw < o := Nat.lt_of_lt_of_le M_3.out.lt hge
        have O_4 := Lib.hid hn
        have BO := Lib.hid (Nat.le_trans L_3.out.size hge)
        clear hb hn hge hno
        refine behind_normal ⟨fun _ => True, fun W h => h, by first | trivial | exact fun _ => trivial, ?_⟩
        refine PhasedC.fin_ ?_
        simp only [pick, List.map_cons, List.map_nil, List.getElem?_cons_zero, List.getElem?_cons_succ, Option.getD_some]
        repeat (go_big_quiet_step (fail))
        refine wpQuiet_nil ?_
        try (intro w8 hw8; obtain ⟨⟨w9, hw9⟩, rfl⟩ := hw8; dsimp only at hw9; subst hw9)
        go_wp2_with fail
        go_ret2
        refine ⟨o, rs, cs, rg, rw, rfl, ⟨O_4.out, S_4.out, G_4.out, zeros_len n, M_4.out, zeros_len m, ?_⟩, BS.out, BG.out, BM.out, BO.out, L_4.out⟩
        exact ⟨by omega, by omega, by omega, by omega, by omega, by omega⟩
      · have hmk := make_words m (by have := HM1.out; omega) v1
        go_wp2_with fail
        clear hmk
        have hn := Blk.new v1 42 ((zeros m).map (Value.int .u64)).toArray
        have hb := (Below.refl v1.heap.size v1).alloc (Nat.le_refl _) (.cells ((zeros m).map (Value.int .u64)).toArray 42)
        obtain ⟨rw, hnb⟩ : ∃ rw, v1.heap.size = rw := ⟨_, rfl⟩
        have hge : v1.heap.size ≤ rw := Nat.le_of_eq hnb
        simp only [hnb] at hn ⊢
        generalize v1.alloc (.cells ((zeros m).map (Value.int .u64)).toArray 42) = v2 at *
        have L_2 := Lib.hid (bl L_1.out hb)
        have S_2 := Lib.hid (S_1.out.bl hb)
        have ne_SM : rs < rw := Nat.lt_of_lt_of_le S_1.out.lt hge
        have M_2 := Lib.hid hn
        have BM := Lib.hid (Nat.le_trans L_1.out.size hge)
        clear hb hn hge hnb
        try go_wp2_with fail
        refine behind_normal ⟨fun _ => True, fun W h => h, by first | trivial | exact fun _ => trivial, ?_⟩
        refine PhasedC.bar_ ?_
        simp only [pick, List.map_cons, List.map_nil, List.getElem?_cons_zero, List.getElem?_cons_succ, Option.getD_some]
        repeat (go_big_quiet_step (fail))
        refine wpQuiet_nil ?_
        have hmk := make_words n (by have := H64.out; omega) v2
        go_wp2_with fail
        clear hmk
        have hn := Blk.new v2 42 ((zeros n).map (Value.int .u64)).toArray
        have hb := (Below.refl v2.heap.size v2).alloc (Nat.le_refl _) (.cells ((zeros n).map (Value.int .u64)).toArray 42)
        obtain ⟨rg, hnb⟩ : ∃ rg, v2.heap.size = rg := ⟨_, rfl⟩
        have hge : v2.heap.size ≤ rg := Nat.le_of_eq hnb
        simp only [hnb] at hn ⊢
        generalize v2.alloc (.cells ((zeros n).map (Value.int .u64)).toArray 42) = v3 at *
        have L_3 := Lib.hid (bl L_2.out hb)
        have S_3 := Lib.hid (S_2.out.bl hb)
        have ne_SG : rs < rg := Nat.lt_of_lt_of_le S_2.out.lt hge
        have M_3 := Lib.hid (M_2.out.bl hb)
        have ne_MG : rw < rg := Nat.lt_of_lt_of_le M_2.out.lt hge
        have G_3 := Lib.hid hn
        have BG := Lib.hid (Nat.le_trans L_2.out.size hge)
        clear hb hn hge hnb
        try go_wp2_with fail
        refine behind_normal ⟨fun _ => True, fun W h => h, by first | trivial | exact fun _ => trivial, ?_⟩
        refine PhasedC.bar_ ?_
        simp only [pick, List.map_cons, List.map_nil, List.getElem?_cons_zero, List.getElem?_cons_succ, Option.getD_some]
        repeat (go_big_quiet_step (fail))
        refine wpQuiet_nil ?_
        go_wp2_with fail
        have hn := Blk.new v3 93 #[.slice (some ⟨rs, 0, none⟩) n cs, .int .i64 tries, .int .i64 0, .slice (some ⟨rg, 0, none⟩) n n, .slice (some ⟨rw, 0, none⟩) m m, .int .i64 0, .int .i64 0, .int .i64 0]
        have hb := (Below.refl v3.heap.size v3).alloc (Nat.le_refl _) (.cells #[.slice (some ⟨rs, 0, none⟩) n cs, .int .i64 tries, .int .i64 0, .slice (some ⟨rg, 0, none⟩) n n, .slice (some ⟨rw, 0, none⟩) m m, .int .i64 0, .int .i64 0, .int .i64 0] 93)
        obtain ⟨o, hno⟩ : ∃ o, v3.heap.size = o := ⟨_, rfl⟩
        have hge : v3.heap.size ≤ o := Nat.le_of_eq hno
        simp only [hno] at hn ⊢
        generalize v3.alloc (.cells #[.slice (some ⟨rs, 0, none⟩) n cs, .int .i64 tries, .int .i64 0, .slice (some ⟨rg, 0, none⟩) n n, .slice (some ⟨rw, 0, none⟩) m m, .int .i64 0, .int .i64 0, .int .i64 0] 93) = wE at *
        have L_4 := Lib.hid (bl L_3.out hb)
        have S_4 := Lib.hid (S_3.out.bl hb)
        have ne_SO : rs < o := Nat.lt_of_lt_of_le S_3.out.lt hge
        have M_4 := Lib.hid (M_3.out.bl hb)
        have ne_MO : rw < o := Nat.lt_of_lt_of_le M_3.out.lt hge
        have G_4 := Lib.hid (G_3.out.bl hb)
        have ne_GO : rg < o := Nat.lt_of_lt_of_le G_3.out.lt hge
        have O_4 := Lib.hid hn
        have BO := Lib.hid (Nat.le_trans L_3.out.size hge)
        clear hb hn hge hno
        refine behind_normal ⟨fun _ => True, fun W h => h, by first | trivial | exact fun _ => trivial, ?_⟩
        refine PhasedC.fin_ ?_
        simp only [pick, List.map_cons, List.map_nil, List.getElem?_cons_zero, List.getElem?_cons_succ, Option.getD_some]
        repeat (go_big_quiet_step (fail))
        refine wpQuiet_nil ?_
        try (intro w8 hw8; obtain ⟨⟨w9, hw9⟩, rfl⟩ := hw8; dsimp only at hw9; subst hw9)
        go_wp2_with fail
        go_ret2
        refine ⟨o, rs, cs, rg, rw, rfl, ⟨O_4.out, S_4.out, G_4.out, zeros_len n, M_4.out, zeros_len m, ?_⟩, BS.out, BG.out, BM.out, BO.out, L_4.out⟩
        exact ⟨by omega, by omega, by omega, by omega, by omega, by omega⟩
  · have hmk := make_words n (by have := H64.out; omega) w1
    go_wp2_with fail
    clear hmk
    have hn := Blk.new w1 42 ((zeros n).map (Value.int .u64)).toArray
    have hb := (Below.refl w1.heap.size w1).alloc (Nat.le_refl _) (.cells ((zeros n).map (Value.int .u64)).toArray 42)
    obtain ⟨rg, hnb⟩ : ∃ rg, w1.heap.size = rg := ⟨_, rfl⟩
    have hge : w1.heap.size ≤ rg := Nat.le_of_eq hnb
    simp only [hnb] at hn ⊢
    generalize w1.alloc (.cells ((zeros n).map (Value.int .u64)).toArray 42) = v0 at *
    have L_0 := Lib.hid (bl L1.out hb)
    have G_0 := Lib.hid hn
    have BG := Lib.hid (Nat.le_trans L1.out.size hge)
    clear hb hn hge hnb
    try go_wp2_with fail
    refine behind_normal ⟨fun _ => True, fun W h => h, by first | trivial | exact fun _ => trivial, ?_⟩
    refine PhasedC.bar_ ?_
    simp only [pick, List.map_cons, List.map_nil, List.getElem?_cons_zero, List.getElem?_cons_succ, Option.getD_some]
    repeat (go_big_quiet_step (fail))
    refine wpQuiet_nil ?_
    go_wp2_with fail
    refine (CloneP_any _ n l v0 (HS.out.below L_0.out) HP.out H64.out).mono ?_; rintro e v1 ⟨rs, cs, rfl, hr, hin, hb⟩
    have L_1 := Lib.hid (bl L_0.out hb)
    have G_1 := Lib.hid (G_0.out.bl hb)
    have ne_GS : rg < rs := Nat.lt_of_lt_of_le G_0.out.lt hr
    have S_1 := Lib.hid hin
    have BS := Lib.hid (Nat.le_trans L_0.out.size hr)
    clear hb hin hr
    try go_wp2_with fail
    refine behind_normal ⟨fun _ => True, fun W h => h, by first | trivial | exact fun _ => trivial, ?_⟩
    refine PhasedC.bar_ ?_
    simp only [pick, List.map_cons, List.map_nil, List.getElem?_cons_zero, List.getElem?_cons_succ, Option.getD_some]
    repeat (go_big_quiet_step (fail))
    refine wpQuiet_nil ?_
    go_wp2_with fail
    refine (width_any _ n l v1 (HS.out.below L_1.out) HZ.out.2.1 H64.out).mono ?_; rintro e v2 ⟨rfl, hb⟩
    rw [HM.out]
    have L_2 := Lib.hid (bl L_1.out hb)
    have G_2 := Lib.hid (G_1.out.bl hb)
    have S_2 := Lib.hid (S_1.out.bl hb)
    clear hb
    try go_wp2_with fail
    refine behind_normal ⟨fun _ => True, fun W h => h, by first | trivial | exact fun _ => trivial, ?_⟩
    refine PhasedC.bar_ ?_
    simp only [pick, List.map_cons, List.map_nil, List.getElem?_cons_zero, List.getElem?_cons_succ, Option.getD_some]
    repeat (go_big_quiet_step (fail))
    refine wpQuiet_nil ?_
    have hmk := make_words m (by have := HM1.out; omega) v2
    go_wp2_with fail
    clear hmk
    have hn := Blk.new v2 42 ((zeros m).map (Value.int .u64)).toArray
    have hb := (Below.refl v2.heap.size v2).alloc (Nat.le_refl _) (.cells ((zeros m).map (Value.int .u64)).toArray 42)
    obtain ⟨rw, hnb⟩ : ∃ rw, v2.heap.size = rw := ⟨_, rfl⟩
    have hge : v2.heap.size ≤ rw := Nat.le_of_eq hnb
    simp only [hnb] at hn ⊢
    generalize v2.alloc (.cells ((zeros m).map (Value.int .u64)).toArray 42) = v3 at *
    have L_3 := Lib.hid (bl L_2.out hb)
    have G_3 := Lib.hid (G_2.out.bl hb)
    have ne_GM : rg < rw := Nat.lt_of_lt_of_le G_2.out.lt hge
    have S_3 := Lib.hid (S_2.out.bl hb)
    have ne_SM : rs < rw := Nat.lt_of_lt_of_le S_2.out.lt hge
    have M_3 := Lib.hid hn
    have BM := Lib.hid (Nat.le_trans L_2.out.size hge)
    clear hb hn hge hnb
    try go_wp2_with fail
    refine behind_normal ⟨fun _ => True, fun W h => h, by first | trivial | exact fun _ => trivial, ?_⟩
    refine PhasedC.bar_ ?_
    simp only [pick, List.map_cons, List.map_nil, List.getElem?_cons_zero, List.getElem?_cons_succ, Option.getD_some]
    repeat (go_big_quiet_step (fail))
    refine wpQuiet_nil ?_
    go_wp2_with fail
    have hn := Blk.new v3 93 #[.slice (some ⟨rs, 0, none⟩) n cs, .int .i64 tries, .int .i64 0, .slice (some ⟨rg, 0, none⟩) n n, .slice (some ⟨rw, 0, none⟩) m m, .int .i64 0, .int .i64 0, .int .i64 0]
    have hb := (Below.refl v3.heap.size v3).alloc (Nat.le_refl _) (.cells #[.slice (some ⟨rs, 0, none⟩) n cs, .int .i64 tries, .int .i64 0, .slice (some ⟨rg, 0, none⟩) n n, .slice (some ⟨rw, 0, none⟩) m m, .int .i64 0, .int .i64 0, .int .i64 0] 93)
    obtain ⟨o, hno⟩ : ∃ o, v3.heap.size = o := ⟨_, rfl⟩
    have hge : v3.heap.size ≤ o := Nat.le_of_eq hno
    simp only [hno] at hn ⊢
    generalize v3.alloc (.cells #[.slice (some ⟨rs, 0, none⟩) n cs, .int .i64 tries, .int .i64 0, .slice (some ⟨rg, 0, none⟩) n n, .slice (some ⟨rw, 0, none⟩) m m, .int .i64 0, .int .i64 0, .int .i64 0] 93) = wE at *
    have L_4 := Lib.hid (bl L_3.out hb)
    have G_4 := Lib.hid (G_3.out.bl hb)
    have ne_GO : rg < o := Nat.lt_of_lt_of_le G_3.out.lt hge
    have S_4 := Lib.hid (S_3.out.bl hb)
    have ne_SO : rs < o := Nat.lt_of_lt_of_le S_3.out.lt hge
    have M_4 := Lib.hid (M_3.out.bl hb)
    have ne_MO : rw < o := Nat.lt_of_lt_of_le M_3.out.lt hge
    have O_4 := Lib.hid hn
    have BO := Lib.hid (Nat.le_trans L_3.out.size hge)
    clear hb hn hge hno
    refine behind_normal ⟨fun _ => True, fun W h => h, by first | trivial | exact fun _ => trivial, ?_⟩
    refine PhasedC.fin_ ?_
    simp only [pick, List.map_cons, List.map_nil, List.getElem?_cons_zero, List.getElem?_cons_succ, Option.getD_some]
    repeat (go_big_quiet_step (fail))
    refine wpQuiet_nil ?_
    try (intro w8 hw8; obtain ⟨⟨w9, hw9⟩, rfl⟩ := hw8; dsimp only at hw9; subst hw9)
    go_wp2_with fail
    go_ret2
    refine ⟨o, rs, cs, rg, rw, rfl, ⟨O_4.out, S_4.out, G_4.out, zeros_len n, M_4.out, zeros_len m, ?_⟩, BS.out, BG.out, BM.out, BO.out, L_4.out⟩
    exact ⟨by omega, by omega, by omega, by omega, by omega, by omega⟩
end Go.Proofs.Ytjdalllfnlpmnaa.Bank
