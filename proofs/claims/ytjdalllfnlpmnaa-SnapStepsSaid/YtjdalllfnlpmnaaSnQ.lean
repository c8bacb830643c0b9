/-
  SnapSteps, walked. Printed by wip/tools/mksnq.py. No condition. By an AI agent.
-/
import Derived.Test.YtjdalllfnlpmnaaSnL
import Derived.Test.YtjdalllfnlpmnaaIn
import Derived.Deep.CutRange
namespace Go.Proofs.Ytjdalllfnlpmnaa.Bank
set_option linter.unusedVariables false
set_option linter.unusedSimpArgs false
open Go Go.RowKit Go.Proofs.Ytjdalllfnlpmnaa.Base

structure Act where
  rd : Bool
  at_ : Int
  x : Int
instance : Inhabited Act := ⟨⟨false, 0, 0⟩⟩
structure Acts (w : World) (v : Value) (n : Nat) (l : Nat → Act) : Prop where
  form : ∃ A c, v = .slice A n c ∧ n ≤ maxLen ∧ (0 < n → ∃ b o, A = some ⟨b, o, none⟩ ∧ b < w.heap.size ∧ ∀ i : Nat, i < n →
    w.cell? ⟨b, o + i * 3, none⟩ = some (.bool (l i).rd) ∧ w.cell? ⟨b, o + i * 3 + 1, none⟩ = some (.int .i64 (l i).at_) ∧ w.cell? ⟨b, o + i * 3 + 2, none⟩ = some (.int .u64 (l i).x))
  ok : ∀ i : Nat, i < n → 0 ≤ (l i).x ∧ (l i).x ≤ 18446744073709551615
theorem OwnR.ints {w : World} {base : Nat} {v : Value} {W : List Int} (h : OwnR w base v W) (hl : W.length ≤ maxLen) : Ints w .u64 v W := ints_of_own h hl
theorem spsIn_of_sps {w : World} {r n c : Nat} {l : Nat → Spot} (h : Sps w (.slice (some ⟨r, 0, none⟩) n c) n l) (hn : 0 < n) : SpsIn w r n l := by
  obtain ⟨A, c', e, _, hf⟩ := h.form
  injection e with e1 e2 e3
  obtain ⟨b, o, e4, hlt, hc⟩ := hf hn
  rw [← e1] at e4
  injection e4 with e4
  injection e4 with e5 e6
  subst e5
  subst e6
  refine ⟨hlt, fun i hi j hj => ?_⟩
  have h5 := hc i hi
  simp only [Nat.zero_add] at h5
  match j, hj with
  | 0, _ => exact h5.1
  | 1, _ => exact h5.2.1
  | 2, _ => exact h5.2.2.1
  | 3, _ => exact h5.2.2.2.1
  | 4, _ => exact h5.2.2.2.2
/-- the document's snapshot in memory, with all that it holds -/
structure RXB (w : World) (B f rl n cl m : Nat) (l : Nat → Spot) (T : Int) (x : SX) (base : Nat) (nx kk N : Int) (vg vw : Value) : Prop where
  head : Blk w f 49 (rcs rl n cl T nx kk N (T - x.tries) vg vw x.begun x.how x.steps)
  hB : B ≤ base
  hz : base ≤ w.heap.size
  rel : RRel w B base l n m x nx kk N vg vw
theorem RXB.ex {T : Nat → Prop} {w w' : World} {B f rl n cl m : Nat} {l : Nat → Spot} {T0 : Int} {x : SX} {base : Nat} {nx kk N : Int} {vg vw : Value} (h : RXB w B f rl n cl m l T0 x base nx kk N vg vw) (p : Ex T w w') (hf : ¬ T f) (hT : ∀ k, T k → k < B) : RXB w' B f rl n cl m l T0 x base nx kk N vg vw :=
  ⟨h.head.ex p hf, h.hB, Nat.le_trans h.hz p.size, h.rel.ex h.hB p hT⟩
theorem RXB.bl {w w' : World} {B f rl n cl m : Nat} {l : Nat → Spot} {T0 : Int} {x : SX} {base : Nat} {nx kk N : Int} {vg vw : Value} (h : RXB w B f rl n cl m l T0 x base nx kk N vg vw) (p : Below w.heap.size w w') : RXB w' B f rl n cl m l T0 x base nx kk N vg vw :=
  h.ex (T := fun _ => False) (Ex.of_below p) (fun h => h) (fun _ h => h.elim)
theorem RXB.rx {w : World} {B f rl n cl m : Nat} {l : Nat → Spot} {T0 : Int} {x : SX} {base : Nat} {nx kk N : Int} {vg vw : Value} (h : RXB w B f rl n cl m l T0 x base nx kk N vg vw) : RX w B f rl n cl m l T0 x := ⟨base, nx, kk, N, vg, vw, h.head, h.hB, h.hz, h.rel⟩
theorem RX.open_ {w : World} {B f rl n cl m : Nat} {l : Nat → Spot} {T0 : Int} {x : SX} (h : RX w B f rl n cl m l T0 x) : ∃ base nx kk N vg vw, RXB w B f rl n cl m l T0 x base nx kk N vg vw := by
  obtain ⟨base, nx, kk, N, vg, vw, h1, h2, h3, h4⟩ := h
  exact ⟨base, nx, kk, N, vg, vw, h1, h2, h3, h4⟩
/-- the two rows of a snapshot that is done -/
theorem RXB.rows {w : World} {B f rl n cl m : Nat} {l : Nat → Spot} {T0 : Int} {x : SX} {base : Nat} {nx kk N : Int} {vg vw : Value} (h : RXB w B f rl n cl m l T0 x base nx kk N vg vw) (hd : x.how = 1) (hg : x.gl.length = n) (hw : x.wl.length ≤ 4096) (hn : n ≤ 64) : Ints w .u64 vg x.gl ∧ Ints w .u64 vw x.wl := by
  obtain ⟨⟨qg, cg, rfl, _, _, hi⟩, ho⟩ := h.rel.done hd
  have := hi.ints
  rw [hg] at this
  exact ⟨this, ho.ints (by unfold maxLen; omega)⟩

set_option maxRecDepth 100000 in
set_option maxHeartbeats 16000000 in
theorem SnapSteps_walk (n : Int) (hn : -9223372036854775808 ≤ n ∧ n ≤ 9223372036854775807) (v : Value) (x : Value × Nat × (Nat → Spot) × Int) (v2 : Value) (y : Nat × (Nat → Act)) (w : World) (hx : v = .agg #[x.1, .int .i64 x.2.2.2] ∧ Sps w x.1 x.2.1 x.2.2.1) (hy : Acts w v2 y.1 y.2) : Calls Try.prog 3 #[.int .i64 n, v, v2] w fun e w' => e = .returned (.bool true) ∧ Below w.heap.size w w' := by
  clear hn
  obtain ⟨rfl, hsp⟩ := hx
  obtain ⟨sv, ns, l, tries⟩ := x
  obtain ⟨na, la⟩ := y
  simp only at hy hsp ⊢
  have SPS := Lib.hid hsp
  obtain ⟨B, cb, rfl, -, hg⟩ := hy.form
  obtain ⟨SA, sc, rfl, -, -⟩ := hsp.form
  have HAO := Lib.hid hy.ok
  have HG := Lib.hid hg
  clear hy hg hsp
  have JB := Lib.hid (Blk.new w 24 #[.slice SA ns sc, .int .i64 tries])
  have L0 := Lib.hid ((Below.refl w.heap.size w).alloc (Nat.le_refl _) (.cells #[.slice SA ns sc, .int .i64 tries] 24))
  have W1 := Lib.hid (show w.heap.size < (w.alloc (.cells #[.slice SA ns sc, .int .i64 tries] 24)).heap.size by simp)
  go_enter Try.func3, Try.ntmps3
  go_upto_region 1 with fail
  generalize w.alloc (.cells #[.slice SA ns sc, .int .i64 tries] 24) = w1 at *
  by_cases q1 : n < 1
  · skip
    have kq1 : decide (n < 1) = true := decide_eq_true (by omega)
    clear q1
    have Jq0 := (JB.out).cell 0
    simp only [List.getElem?_toArray, List.getElem?_cons_succ, List.getElem?_cons_zero] at Jq0
    go_wp2_with fail
    refine (awake_any _).mono ?_; rintro e wz ⟨rfl, hb⟩
    have LZ := Lib.hid (bl L0.out hb)
    clear hb
    go_wp2_with fail
    go_ret
    exact ⟨rfl, LZ.out⟩
  by_cases q2 : 80 < n
  · skip
    have kq1 : decide (n < 1) = false := decide_eq_false (by omega)
    have kq2 : decide (n > 80) = true := decide_eq_true (by omega)
    clear q1 q2
    have Jq0 := (JB.out).cell 0
    simp only [List.getElem?_toArray, List.getElem?_cons_succ, List.getElem?_cons_zero] at Jq0
    go_wp2_with fail
    refine (awake_any _).mono ?_; rintro e wz ⟨rfl, hb⟩
    have LZ := Lib.hid (bl L0.out hb)
    clear hb
    go_wp2_with fail
    go_ret
    exact ⟨rfl, LZ.out⟩
  by_cases q3 : 70 < ns
  · skip
    have kq1 : decide (n < 1) = false := decide_eq_false (by omega)
    have kq2 : decide (n > 80) = false := decide_eq_false (by omega)
    have kq3 : decide ((ns : Int) > 70) = true := decide_eq_true (by omega)
    clear q1 q2 q3
    have Jq0 := (JB.out).cell 0
    simp only [List.getElem?_toArray, List.getElem?_cons_succ, List.getElem?_cons_zero] at Jq0
    go_wp2_with fail
    refine (awake_any _).mono ?_; rintro e wz ⟨rfl, hb⟩
    have LZ := Lib.hid (bl L0.out hb)
    clear hb
    go_wp2_with fail
    go_ret
    exact ⟨rfl, LZ.out⟩
  by_cases q4 : 300 < na
  · skip
    have kq1 : decide (n < 1) = false := decide_eq_false (by omega)
    have kq2 : decide (n > 80) = false := decide_eq_false (by omega)
    have kq3 : decide ((ns : Int) > 70) = false := decide_eq_false (by omega)
    have kq4 : decide ((na : Int) > 300) = true := decide_eq_true (by omega)
    clear q1 q2 q3 q4
    have Jq0 := (JB.out).cell 0
    simp only [List.getElem?_toArray, List.getElem?_cons_succ, List.getElem?_cons_zero] at Jq0
    go_wp2_with fail
    refine (awake_any _).mono ?_; rintro e wz ⟨rfl, hb⟩
    have LZ := Lib.hid (bl L0.out hb)
    clear hb
    go_wp2_with fail
    go_ret
    exact ⟨rfl, LZ.out⟩
  have kq1 : decide (n < 1) = false := decide_eq_false (by omega)
  have kq2 : decide (n > 80) = false := decide_eq_false (by omega)
  have kq3 : decide ((ns : Int) > 70) = false := decide_eq_false (by omega)
  have kq4 : decide ((na : Int) > 300) = false := decide_eq_false (by omega)
  have HNA := Lib.hid (show na ≤ 300 by omega)
  have HNS := Lib.hid (show ns ≤ 70 by omega)
  obtain ⟨N, rfl⟩ : ∃ N : Nat, n = N := ⟨n.toNat, by omega⟩
  have HN := Lib.hid (show 1 ≤ N ∧ N ≤ 80 from ⟨by omega, by omega⟩)
  clear q1 q2 q3 q4
  have Jq0 := (JB.out).cell 0
  simp only [List.getElem?_toArray, List.getElem?_cons_succ, List.getElem?_cons_zero] at Jq0
  go_wp2_with fail
  clear kq1 kq2 kq3 kq4
  refine (BNew_ex N HN.out.1 (by have := HN.out; omega) _).mono ?_; rintro e w2 ⟨g, h, rfl, hk, h1, h2, h3, hb⟩
  clear Jq0
  have ee : Ex (fun _ => False) w1 w2 := Ex.of_below hb
  have J_1 := Lib.hid (JB.out.ex ee (fun h => h))
  have L_1 := Lib.hid (Ex.below L0.out ee (fun k hk => hk.elim))
  have K_1 := Lib.hid (hk)
  clear ee JB L0 hk
  have OR1 := Lib.hid (show w.heap.size < h ∧ h < g ∧ g < w2.heap.size from ⟨Nat.lt_of_lt_of_le W1.out h1, h2, h3⟩)
  clear h1 h2 h3 hb W1
  have Jq0 := (J_1.out).cell 0
  have Jq1 := (J_1.out).cell 1
  simp only [List.getElem?_toArray, List.getElem?_cons_succ, List.getElem?_cons_zero] at Jq0 Jq1
  have HPL := Lib.hid (fun W (hb : Below w.heap.size w W) => plain_any (.slice SA ns sc) ns l W (SPS.out.below hb) HNS.out)
  have HMO := Lib.hid (fun W (hb : Below w.heap.size w W) => sMost_any (.slice SA ns sc) ns l tries W (SPS.out.below hb))
  have HMF := Lib.hid (fun v W (h : Sps W v ns l) => rMost_any v ns l tries W h)
  generalize sMostF ns l tries = M at *
  have kmm : (M != M) = false := by simp
  go_wp2_with fail
  by_cases hmay : wrongE ns l tries = 0
  case neg =>
    skip
    have HMAY := Lib.hid hmay
    clear hmay
    refine (SNew_out (.slice SA ns sc) ns l tries w2 (SPS.out.below L_1.out) HMAY.out).mono ?_; rintro e w3 ⟨rfl, hl3⟩
    clear Jq0 Jq1
    have ee : Ex (fun _ => False) w2 w3 := Ex.of_below hl3
    have J_2 := Lib.hid (J_1.out.ex ee (fun h => h))
    have K_2 := Lib.hid (K_1.out.ex ee (fun h => h) (fun h => h))
    have L_2 := Lib.hid (Ex.below L_1.out ee (fun k hk => hk.elim))
    clear ee J_1 K_1 L_1 hl3
    go_upto_region 5 with fail
    have hne : Nonempty (Held (Below w3.heap.size w3)) := ⟨⟨w3, (Below.refl _ _)⟩⟩
    have rJ0 : ∀ x : Held (Below w3.heap.size w3), x.w.cell? ⟨w.heap.size, 0, none⟩ = some (.slice SA ns sc) := fun x => (J_2.out.bl x.ok).cell 0
    have rJ1 : ∀ x : Held (Below w3.heap.size w3), x.w.cell? ⟨w.heap.size, 1, none⟩ = some (.int .i64 tries) := fun x => (J_2.out.bl x.ok).cell 1
    refine drawn_bars (S := (Below w3.heap.size w3)) [([0, 1, 3, 4], 2), ([], 5)] [6, 7, 8, 9, 10] (by kernel_rfl) (by kernel_rfl) (by kernel_rfl) rfl (Below.refl _ _).drew ?_
    refine Phased.go ?_
    simp only [pick, List.map_cons, List.map_nil, List.getElem?_cons_zero, List.getElem?_cons_succ, Option.getD_some]
    repeat (go_big_quiet_step (fail))
    refine wpQuiet_nil ?_
    go_wp2_with fail
    have hl0 := bl L_2.out ((Below.refl w3.heap.size w3).drew)
    refine (HPL.out _ hl0).mono ?_; rintro e w4 ⟨pv, rfl, hsp, hsg, hl4⟩
    have hl5 := bl ((Below.refl w3.heap.size w3).drew) hl4
    go_wp2_with fail
    refine behind_normal ⟨(Below w3.heap.size w3), fun W h => h, hl5, ?_⟩
    refine Phased.go ?_
    simp only [pick, List.map_cons, List.map_nil, List.getElem?_cons_zero, List.getElem?_cons_succ, Option.getD_some]
    repeat (go_big_quiet_step (fail))
    refine wpQuiet_nil ?_
    go_wp2_with fail
    refine (RNew_out pv ns l tries w4 hsp HMAY.out).mono ?_; rintro e w5 ⟨rfl, hl6⟩
    have hl7 := bl hl5 hl6
    go_wp2_with fail
    refine behind_normal ⟨(Below w3.heap.size w3), fun W h => h, hl7, ?_⟩
    refine Phased.end_ ?_
    have hne5 : Nonempty (Held (fun W => W = w5)) := ⟨⟨_, rfl⟩⟩
    simp only [pick, List.map_cons, List.map_nil, List.getElem?_cons_zero, List.getElem?_cons_succ, Option.getD_some]
    repeat (go_big_quiet_step (fail))
    refine wpQuiet_nil ?_
    clear hne5 hne rJ0 rJ1 hl4 hl0
    clear hsp hsg
    have ee : Ex (fun _ => False) w3 w5 := Ex.of_below hl7
    have J_3 := Lib.hid (J_2.out.ex ee (fun h => h))
    have K_3 := Lib.hid (K_2.out.ex ee (fun h => h) (fun h => h))
    have L_3 := Lib.hid (Ex.below L_2.out ee (fun k hk => hk.elim))
    clear ee J_2 K_2 L_2 hl5 hl6 hl7
    have kee : (wrongE ns l tries != wrongE ns l tries) = false := by simp
    go_upto_region 6 with fail
    have hne : Nonempty (Held (Below w5.heap.size w5)) := ⟨⟨w5, (Below.refl _ _)⟩⟩
    have rJ0 : ∀ x : Held (Below w5.heap.size w5), x.w.cell? ⟨w.heap.size, 0, none⟩ = some (.slice SA ns sc) := fun x => (J_3.out.bl x.ok).cell 0
    have rJ1 : ∀ x : Held (Below w5.heap.size w5), x.w.cell? ⟨w.heap.size, 1, none⟩ = some (.int .i64 tries) := fun x => (J_3.out.bl x.ok).cell 1
    refine drawn_bars (S := (Below w5.heap.size w5)) [([0, 1, 2, 3, 4, 5, 6, 7, 8, 9, 10, 11, 13, 14, 16, 17], 12), ([], 15), ([], 18)] [19, 20] (by kernel_rfl) (by kernel_rfl) (by kernel_rfl) rfl (Below.refl _ _).drew ?_
    refine Phased.go ?_
    simp only [pick, List.map_cons, List.map_nil, List.getElem?_cons_zero, List.getElem?_cons_succ, Option.getD_some]
    repeat (go_big_quiet_step (fail))
    refine wpQuiet_nil ?_
    go_wp2_with fail
    have hl0 := bl L_3.out ((Below.refl w5.heap.size w5).drew)
    refine (HMO.out _ hl0).mono ?_; rintro e w6 ⟨rfl, hl4⟩
    have hl5 := bl ((Below.refl w5.heap.size w5).drew) hl4
    go_wp2_with fail
    refine behind_normal ⟨(Below w5.heap.size w5), fun W h => h, hl5, ?_⟩
    refine Phased.go ?_
    simp only [pick, List.map_cons, List.map_nil, List.getElem?_cons_zero, List.getElem?_cons_succ, Option.getD_some]
    repeat (go_big_quiet_step (fail))
    refine wpQuiet_nil ?_
    go_wp2_with fail
    refine (HPL.out _ (bl hl0 hl4)).mono ?_; rintro e w7 ⟨pv2, rfl, hsp, hsg, hl6⟩
    have hl7 := bl hl5 hl6
    clear hsg
    go_wp2_with fail
    refine behind_normal ⟨(Below w5.heap.size w5), fun W h => h, hl7, ?_⟩
    refine Phased.go ?_
    simp only [pick, List.map_cons, List.map_nil, List.getElem?_cons_zero, List.getElem?_cons_succ, Option.getD_some]
    repeat (go_big_quiet_step (fail))
    refine wpQuiet_nil ?_
    go_wp2_with fail
    refine (HMF.out _ _ hsp).mono ?_; rintro e w8 ⟨rfl, hl8⟩
    have hl9 := bl hl7 hl8
    clear hsp
    go_wp2_with fail
    refine behind_normal ⟨(Below w5.heap.size w5), fun W h => h, hl9, ?_⟩
    refine Phased.end_ ?_
    have hne5 : Nonempty (Held (fun W => W = w8)) := ⟨⟨_, rfl⟩⟩
    simp only [pick, List.map_cons, List.map_nil, List.getElem?_cons_zero, List.getElem?_cons_succ, Option.getD_some]
    repeat (go_big_quiet_step (fail))
    refine wpQuiet_nil ?_
    clear hne5 hne rJ0 rJ1 HMO HMF HPL hl4 hl5 hl6 hl7 hl8 hl0 kmm
    have ee : Ex (fun _ => False) w5 w8 := Ex.of_below hl9
    have J_4 := Lib.hid (J_3.out.ex ee (fun h => h))
    have K_4 := Lib.hid (K_3.out.ex ee (fun h => h) (fun h => h))
    have L_4 := Lib.hid (Ex.below L_3.out ee (fun k hk => hk.elim))
    clear ee J_3 K_3 L_3 hl9
    clear kee
    have HMAY2 := HMAY.out
    generalize wrongE ns l tries = ee9 at *
    have kne : (ee9 != 0) = true := by simpa using HMAY2
    go_wp2_with fail
    refine (awake_any _).mono ?_; rintro e wz ⟨rfl, hb⟩
    have LZ := Lib.hid (bl L_4.out hb)
    clear hb
    go_wp2_with fail
    go_ret
    exact ⟨rfl, LZ.out⟩
  skip
  have HMAY := Lib.hid hmay
  clear hmay
  have HZ := Lib.hid (wrongE_zero HMAY.out)
  obtain ⟨m, hm⟩ : ∃ m : Nat, widthF l ns = m := ⟨(widthF l ns).toNat, by have := (widthF_bounds HZ.out.2.1 ns (Nat.le_refl _)).1; omega⟩
  have HM := Lib.hid hm
  clear hm
  refine (SNew_in (.slice SA ns sc) ns l tries w2 (SPS.out.below L_1.out) HMAY.out m HM.out).mono ?_; rintro e w3 ⟨o, rs, cs, rg, rw, rfl, ho, q1, q2, q4, q5, hl3⟩
  have OR2 := Lib.hid (show w.heap.size < h ∧ h < g ∧ g < rs ∧ g < rg ∧ g < rw ∧ g < o from by have := OR1.out; omega)
  clear q1 q2 q4 q5
  clear Jq0 Jq1
  have ee : Ex (fun _ => False) w2 w3 := Ex.of_below hl3
  have J_2 := Lib.hid (J_1.out.ex ee (fun h => h))
  have K_2 := Lib.hid (K_1.out.ex ee (fun h => h) (fun h => h))
  have L_2 := Lib.hid (Ex.below L_1.out ee (fun k hk => hk.elim))
  have O_2 := Lib.hid (show SnX w3 o rs cs rg rw ns m l (SX.zero tries ns m) from ho)
  clear ee J_1 K_1 L_1 ho hl3
  go_upto_region 5 with fail
  have hne : Nonempty (Held (Below w3.heap.size w3)) := ⟨⟨w3, (Below.refl _ _)⟩⟩
  have rJ0 : ∀ x : Held (Below w3.heap.size w3), x.w.cell? ⟨w.heap.size, 0, none⟩ = some (.slice SA ns sc) := fun x => (J_2.out.bl x.ok).cell 0
  have rJ1 : ∀ x : Held (Below w3.heap.size w3), x.w.cell? ⟨w.heap.size, 1, none⟩ = some (.int .i64 tries) := fun x => (J_2.out.bl x.ok).cell 1
  refine drawn_bars (S := (Below w3.heap.size w3)) [([0, 1, 3, 4], 2), ([], 5)] [6, 7, 8, 9, 10] (by kernel_rfl) (by kernel_rfl) (by kernel_rfl) rfl (Below.refl _ _).drew ?_
  refine Phased.go ?_
  simp only [pick, List.map_cons, List.map_nil, List.getElem?_cons_zero, List.getElem?_cons_succ, Option.getD_some]
  repeat (go_big_quiet_step (fail))
  refine wpQuiet_nil ?_
  go_wp2_with fail
  have hl0 := bl L_2.out ((Below.refl w3.heap.size w3).drew)
  refine (HPL.out _ hl0).mono ?_; rintro e w4 ⟨pv, rfl, hsp, hsg, hl4⟩
  have hl5 := bl ((Below.refl w3.heap.size w3).drew) hl4
  obtain ⟨rl, cl, rfl, hrl⟩ := hsg (by have := HZ.out; omega)
  go_wp2_with fail
  refine behind_normal ⟨(Below w3.heap.size w3), fun W h => h, hl5, ?_⟩
  refine Phased.go ?_
  simp only [pick, List.map_cons, List.map_nil, List.getElem?_cons_zero, List.getElem?_cons_succ, Option.getD_some]
  repeat (go_big_quiet_step (fail))
  refine wpQuiet_nil ?_
  go_wp2_with fail
  refine (RNew_in _ ns cl l tries w4 hsp HMAY.out).mono ?_; rintro e w5 ⟨f, rfl, q3, hl6, hr⟩
  have hl7 := bl hl5 hl6
  go_wp2_with fail
  refine behind_normal ⟨(Below w3.heap.size w3), fun W h => h, hl7, ?_⟩
  refine Phased.end_ ?_
  have hne5 : Nonempty (Held (fun W => W = w5)) := ⟨⟨_, rfl⟩⟩
  simp only [pick, List.map_cons, List.map_nil, List.getElem?_cons_zero, List.getElem?_cons_succ, Option.getD_some]
  repeat (go_big_quiet_step (fail))
  refine wpQuiet_nil ?_
  clear hne5 hne rJ0 rJ1 hl4 hl0
  have HSI := Lib.hid ((spsIn_of_sps hsp (by have := HZ.out; omega)).bl hl6)
  have hlo := SnX.lt O_2.out
  have hsl := (spsIn_of_sps hsp (by have := HZ.out; omega)).lt
  have hrl2 : w3.heap.size ≤ rl := hrl
  have OR3 := Lib.hid (show w.heap.size < h ∧ h < g ∧ g < rs ∧ g < rg ∧ g < rw ∧ g < o ∧ rs < rl ∧ rg < rl ∧ rw < rl ∧ o < rl ∧ rl < f from by have := OR2.out; omega)
  clear q3 hrl hrl2 hsl hlo hsp hsg
  have ee : Ex (fun _ => False) w3 w5 := Ex.of_below hl7
  have J_3 := Lib.hid (J_2.out.ex ee (fun h => h))
  have K_3 := Lib.hid (K_2.out.ex ee (fun h => h) (fun h => h))
  have O_3 := Lib.hid (O_2.out.ex ee (fun h => h) (fun h => h) (fun h => h) (fun h => h))
  have L_3 := Lib.hid (Ex.below L_2.out ee (fun k hk => hk.elim))
  have F_3 := Lib.hid (hr)
  have S_3 := Lib.hid (HSI.out)
  clear ee J_2 K_2 O_2 L_2 hl5 hl6 hl7 hr HSI
  go_upto_region 6 with fail
  have hne : Nonempty (Held (Below w5.heap.size w5)) := ⟨⟨w5, (Below.refl _ _)⟩⟩
  have rJ0 : ∀ x : Held (Below w5.heap.size w5), x.w.cell? ⟨w.heap.size, 0, none⟩ = some (.slice SA ns sc) := fun x => (J_3.out.bl x.ok).cell 0
  have rJ1 : ∀ x : Held (Below w5.heap.size w5), x.w.cell? ⟨w.heap.size, 1, none⟩ = some (.int .i64 tries) := fun x => (J_3.out.bl x.ok).cell 1
  refine drawn_bars (S := (Below w5.heap.size w5)) [([0, 1, 2, 3, 4, 5, 6, 7, 8, 9, 10, 11, 13, 14, 16, 17], 12), ([], 15), ([], 18)] [19, 20] (by kernel_rfl) (by kernel_rfl) (by kernel_rfl) rfl (Below.refl _ _).drew ?_
  refine Phased.go ?_
  simp only [pick, List.map_cons, List.map_nil, List.getElem?_cons_zero, List.getElem?_cons_succ, Option.getD_some]
  repeat (go_big_quiet_step (fail))
  refine wpQuiet_nil ?_
  go_wp2_with fail
  have hl0 := bl L_3.out ((Below.refl w5.heap.size w5).drew)
  refine (HMO.out _ hl0).mono ?_; rintro e w6 ⟨rfl, hl4⟩
  have hl5 := bl ((Below.refl w5.heap.size w5).drew) hl4
  go_wp2_with fail
  refine behind_normal ⟨(Below w5.heap.size w5), fun W h => h, hl5, ?_⟩
  refine Phased.go ?_
  simp only [pick, List.map_cons, List.map_nil, List.getElem?_cons_zero, List.getElem?_cons_succ, Option.getD_some]
  repeat (go_big_quiet_step (fail))
  refine wpQuiet_nil ?_
  go_wp2_with fail
  refine (HPL.out _ (bl hl0 hl4)).mono ?_; rintro e w7 ⟨pv2, rfl, hsp, hsg, hl6⟩
  have hl7 := bl hl5 hl6
  clear hsg
  go_wp2_with fail
  refine behind_normal ⟨(Below w5.heap.size w5), fun W h => h, hl7, ?_⟩
  refine Phased.go ?_
  simp only [pick, List.map_cons, List.map_nil, List.getElem?_cons_zero, List.getElem?_cons_succ, Option.getD_some]
  repeat (go_big_quiet_step (fail))
  refine wpQuiet_nil ?_
  go_wp2_with fail
  refine (HMF.out _ _ hsp).mono ?_; rintro e w8 ⟨rfl, hl8⟩
  have hl9 := bl hl7 hl8
  clear hsp
  go_wp2_with fail
  refine behind_normal ⟨(Below w5.heap.size w5), fun W h => h, hl9, ?_⟩
  refine Phased.end_ ?_
  have hne5 : Nonempty (Held (fun W => W = w8)) := ⟨⟨_, rfl⟩⟩
  simp only [pick, List.map_cons, List.map_nil, List.getElem?_cons_zero, List.getElem?_cons_succ, Option.getD_some]
  repeat (go_big_quiet_step (fail))
  refine wpQuiet_nil ?_
  clear hne5 hne rJ0 rJ1 HMO HMF HPL hl4 hl5 hl6 hl7 hl8 hl0 kmm
  have HFL := Lib.hid (Nat.lt_of_lt_of_le (Blk.lt F_3.out) hl9.size)
  have ee : Ex (fun _ => False) w5 w8 := Ex.of_below hl9
  have J_4 := Lib.hid (J_3.out.ex ee (fun h => h))
  have K_4 := Lib.hid (K_3.out.ex ee (fun h => h) (fun h => h))
  have O_4 := Lib.hid (O_3.out.ex ee (fun h => h) (fun h => h) (fun h => h) (fun h => h))
  have F_4 := Lib.hid (F_3.out.ex ee (fun h => h))
  have S_4 := Lib.hid (S_3.out.ex ee (fun h => h))
  have L_4 := Lib.hid (Ex.below L_3.out ee (fun k hk => hk.elim))
  clear ee J_3 K_3 O_3 F_3 S_3 L_3 hl9
  have hmk := make_words N (by have := HN.out; omega) w8
  go_upto_region 11 with fail
  clear hmk
  have ee : Ex (fun _ => False) w8 (w8.alloc (.cells ((zeros N).map (Value.int .u64)).toArray 42)) := (Ex.refl _ w8).alloc _
  have J_5 := Lib.hid (J_4.out.ex ee (fun h => h))
  have K_5 := Lib.hid (K_4.out.ex ee (fun h => h) (fun h => h))
  have O_5 := Lib.hid (O_4.out.ex ee (fun h => h) (fun h => h) (fun h => h) (fun h => h))
  have F_5 := Lib.hid (F_4.out.ex ee (fun h => h))
  have S_5 := Lib.hid (S_4.out.ex ee (fun h => h))
  have L_5 := Lib.hid (Ex.below L_4.out ee (fun k hk => hk.elim))
  have R_5 := Lib.hid (show URow (w8.alloc (.cells ((zeros N).map (Value.int .u64)).toArray 42)) w8.heap.size (zeros N) from Blk.new w8 42 _)
  clear ee J_4 K_4 O_4 F_4 S_4 L_4
  have S1 := Lib.hid (show w8.heap.size < (w8.alloc (.cells ((zeros N).map (Value.int .u64)).toArray 42)).heap.size by simp)
  generalize (w8.alloc (.cells ((zeros N).map (Value.int .u64)).toArray 42)) = w9 at *
  generalize w8.heap.size = hb at *
  obtain ⟨base, hbase⟩ : ∃ base, w9.heap.size = base := ⟨_, rfl⟩
  have ORD := Lib.hid (show w.heap.size < h ∧ h < g ∧ g < rs ∧ g < rg ∧ g < rw ∧ g < o ∧ rs < rl ∧ rg < rl ∧ rw < rl ∧ o < rl ∧ rl < f ∧ f < hb ∧ hb < base from by have h1 := OR3.out; have h2 := HFL.out; have h3 := S1.out; omega)
  have HBS := Lib.hid hbase
  clear hbase S1 OR3 HFL
  have HRF := Lib.hid (show RX w9 base f rl ns cl m l tries (SX.zero tries ns m) from RX.zero F_5.out (by rw [HBS.out]; exact Nat.le_refl _) (by have := HZ.out; omega))
  have HRI := Lib.hid (SOk.zero HMAY.out HM.out)
  go_wp2_with fail
  obtain ⟨wk, rfl⟩ : ∃ wk : World, wk = w9 := ⟨_, rfl⟩
  go_loopw [14, 15, 16, 17] (fun iv s15 s16 s17 wr => ∃ (i : Nat) (x : SX) (ws : List Int) (t : Int), i ≤ na ∧ iv = .int .i64 i ∧ BankAt wr g h ws t ∧ URow wr hb ws ∧ ws.length = N ∧ SnX wr o rs cs rg rw ns m l x ∧ SOk ns m l tries x i ∧ RX wr base f rl ns cl m l tries x ∧ SpsIn wr rl ns l ∧ Below w.heap.size w wr) (fun iv s15 s16 s17 _ => na - (intOf iv).toNat)
  case atStart => exact ⟨0, SX.zero tries ns m, zeros N, 0, by omega, rfl, K_5.out, R_5.out, zeros_len _, O_5.out, HRI.out, HRF.out, S_5.out, L_5.out⟩
  case round =>
    clear K_5 R_5 O_5 F_5 S_5 L_5 HRF HRI J_5 HBS
    obtain ⟨i, x, ws, t, hi, rfl, hbk, hrw, hln, hro, hri, hrf, hsi, hl⟩ := hrel
    have K0 := Lib.hid hbk
    have R0 := Lib.hid hrw
    have O0 := Lib.hid hro
    have F0 := Lib.hid hrf
    have S0 := Lib.hid hsi
    have L0 := Lib.hid hl
    have HRI := Lib.hid hri
    have HLN := Lib.hid hln
    clear hbk hrw hln hro hri hrf hl hsi
    by_cases hlt : i < na
    · have kd : decide ((i : Int) < (na : Int)) = true := decide_eq_true (by omega)
      have ki0 : (0 : Int) ≤ (i : Int) := by omega
      have ki1 : (i : Int) < (na : Int) := by omega
      have ki5 : (i : Int) ≤ 300 := by have := HNA.out; omega
      have HI := Lib.hid hlt
      clear hi hlt
      obtain ⟨bb, ob, rfl, hbb, hcb⟩ := HG.out (by have := HI.out; omega)
      have HBB := Lib.hid hbb
      have HCB := Lib.hid (hcb i HI.out)
      have p0 := (L0.out.cell (p := ⟨bb, ob + i * 3, none⟩) hbb).trans (hcb i HI.out).1
      have p1 := (L0.out.cell (p := ⟨bb, ob + i * 3 + 1, none⟩) hbb).trans (hcb i HI.out).2.1
      have HAI := Lib.hid (HAO.out i HI.out)
      generalize la i = a at *
      obtain ⟨rd, aat, ax⟩ := a
      simp only at p0 p1
      clear hcb hbb
      cases rd with
      | false =>
          by_cases ha0 : aat < 0
          · have kw0 : decide (aat ≥ 0) = false := decide_eq_false (by omega)
            clear ha0
            go_wp2_with fail
            exact ⟨⟨i + 1, x, ws, t, by have := HI.out; omega, by go_num, K0.out, R0.out, HLN.out, O0.out, ⟨HRI.out.inv, HRI.out.len, HRI.out.tr, by have := HRI.out.st; push_cast; omega, HRI.out.n1, HRI.out.m1⟩, F0.out, S0.out, L0.out⟩, by have := HI.out; simp [intOf]; omega⟩
          by_cases ha1 : (N : Int) ≤ aat
          · have kw0 : decide (aat ≥ 0) = true := decide_eq_true (by omega)
            have kw1 : decide (aat < (N : Int)) = false := decide_eq_false (by omega)
            clear ha0 ha1
            go_wp2_with fail
            exact ⟨⟨i + 1, x, ws, t, by have := HI.out; omega, by go_num, K0.out, R0.out, HLN.out, O0.out, ⟨HRI.out.inv, HRI.out.len, HRI.out.tr, by have := HRI.out.st; push_cast; omega, HRI.out.n1, HRI.out.m1⟩, F0.out, S0.out, L0.out⟩, by have := HI.out; simp [intOf]; omega⟩
          obtain ⟨j, rfl⟩ : ∃ j : Nat, aat = j := ⟨aat.toNat, by omega⟩
          have kw0 : decide ((j : Int) ≥ 0) = true := decide_eq_true (by omega)
          have kw1 : decide ((j : Int) < (N : Int)) = true := decide_eq_true (by omega)
          have HJ := Lib.hid (show j < N by omega)
          clear ha0 ha1
          go_upto_region 16 with fail
          clear p0 p1 kw0 kw1
          have hne : Nonempty (Held (Ex (fun k => k = g ∨ k = h) wr)) := ⟨⟨wr, (Ex.refl _ _)⟩⟩
          have pa1 : ∀ x : Held (Ex (fun k => k = g ∨ k = h) wr), x.w.cell? ⟨bb, ob + i * 3 + 1, none⟩ = some (.int .i64 (j : Int)) := fun x => ((Ex.below L0.out x.ok (fun b_ h_ => by have o_ := ORD.out; have h_ : b_ = g ∨ b_ = h := h_; omega)).cell (p := ⟨bb, ob + i * 3 + 1, none⟩) HBB.out).trans HCB.out.2.1
          have pa2 : ∀ x : Held (Ex (fun k => k = g ∨ k = h) wr), x.w.cell? ⟨bb, ob + i * 3 + 2, none⟩ = some (.int .u64 ax) := fun x => ((Ex.below L0.out x.ok (fun b_ h_ => by have o_ := ORD.out; have h_ : b_ = g ∨ b_ = h := h_; omega)).cell (p := ⟨bb, ob + i * 3 + 2, none⟩) HBB.out).trans HCB.out.2.2
          refine drawn_bars (S := (Ex (fun k => k = g ∨ k = h) wr)) [([0, 1, 2, 3, 4, 5, 6, 7, 8, 9, 10], 11)] [12] (by kernel_rfl) (by kernel_rfl) (by kernel_rfl) rfl (Ex.refl _ _).drew ?_
          refine Phased.go ?_
          simp only [pick, List.map_cons, List.map_nil, List.getElem?_cons_zero, List.getElem?_cons_succ, Option.getD_some]
          repeat (go_big_quiet_step (fail))
          refine wpQuiet_nil ?_
          go_wp2_with fail
          refine (Store_any g h ws t (j : Int) ax wr.drew (K0.out.drewN 1) HAI.out).mono ?_; rintro e w8 ⟨rfl, hb8, hx8⟩
          rw [errF_in (inW_nat ws j (by rw [HLN.out]; exact HJ.out))]
          rw [setF_in (inW_nat ws j (by rw [HLN.out]; exact HJ.out)), Int.toNat_natCast] at hb8
          have hx9 := (Ex.of_ex2 (T := fun k => k = g ∨ k = h) hx8 (.inl rfl) (.inr rfl)).undrew
          go_wp2_with fail
          refine behind_normal ⟨(Ex (fun k => k = g ∨ k = h) wr), fun W h => h, hx9, ?_⟩
          refine Phased.end_ ?_
          have hne5 : Nonempty (Held (fun W => W = w8)) := ⟨⟨_, rfl⟩⟩
          simp only [pick, List.map_cons, List.map_nil, List.getElem?_cons_zero, List.getElem?_cons_succ, Option.getD_some]
          repeat (go_big_quiet_step (fail))
          refine wpQuiet_nil ?_
          clear hne5 hne pa1 pa2 hx8
          have ee : Ex (fun k => k = g ∨ k = h) wr w8 := hx9
          have R_6 := Lib.hid (R0.out.ex ee (by have o_ := ORD.out; omega))
          have O_6 := Lib.hid (O0.out.ex ee (by have o_ := ORD.out; omega) (by have o_ := ORD.out; omega) (by have o_ := ORD.out; omega) (by have o_ := ORD.out; omega))
          have F_6 := Lib.hid (F0.out.ex ee (by have o_ := ORD.out; omega) (fun b_ h_ => by have o_ := ORD.out; have h_ : b_ = g ∨ b_ = h := h_; first | omega | (show _ ∨ _; omega)))
          have S_6 := Lib.hid (S0.out.ex ee (by have o_ := ORD.out; omega))
          have L_6 := Lib.hid (Ex.below L0.out ee (fun k hk => by have o_ := ORD.out; have hk : k = g ∨ k = h := hk; omega))
          have K_6 := Lib.hid (hb8)
          clear ee K0 R0 O0 F0 S0 L0 hb8 hx9
          go_upto_region 18 with fail
          have kj0 : (0 : Int) ≤ (j : Int) := by omega
          have kj1 : (j : Int) < (N : Int) := by have := HJ.out; omega
          have hne : Nonempty (Held (Ex (fun k => k = hb) w8)) := ⟨⟨w8, (Ex.refl _ _)⟩⟩
          have pa1 : ∀ x : Held (Ex (fun k => k = hb) w8), x.w.cell? ⟨bb, ob + i * 3 + 1, none⟩ = some (.int .i64 (j : Int)) := fun x => ((Ex.below L_6.out x.ok (fun b_ h_ => by have o_ := ORD.out; have h_ : b_ = hb := h_; omega)).cell (p := ⟨bb, ob + i * 3 + 1, none⟩) HBB.out).trans HCB.out.2.1
          have pa2 : ∀ x : Held (Ex (fun k => k = hb) w8), x.w.cell? ⟨bb, ob + i * 3 + 2, none⟩ = some (.int .u64 ax) := fun x => ((Ex.below L_6.out x.ok (fun b_ h_ => by have o_ := ORD.out; have h_ : b_ = hb := h_; omega)).cell (p := ⟨bb, ob + i * 3 + 2, none⟩) HBB.out).trans HCB.out.2.2
          refine drawn_bars (S := (Ex (fun k => k = hb) w8)) [([0, 1, 2, 3, 4, 5, 6, 7, 8, 9, 10, 11], 12)] [] (by kernel_rfl) (by kernel_rfl) (by kernel_rfl) rfl (Ex.refl _ _).drew ?_
          refine Phased.go ?_
          simp only [pick, List.map_cons, List.map_nil, List.getElem?_cons_zero, List.getElem?_cons_succ, Option.getD_some]
          repeat (go_big_quiet_step (fail))
          refine wpQuiet_nil ?_
          clear hne pa1 pa2
          have qw := R_6.out.word (i := j) (by rw [HLN.out]; exact HJ.out)
          have fw := Blk.frozen R_6.out j
          go_wp2_with fail
          clear qw fw
          have bb9 := R_6.out.stored j ax
          have BB := Lib.hid bb9
          clear bb9
          have EE := Lib.hid (((Ex.refl (fun b => b = hb) w8).setCell (q := ⟨hb, j, none⟩) (.inl rfl) (.int .u64 ax)).drew)
          have ee : Ex (fun k => k = hb) w8 ((w8.setCell ⟨hb, j, none⟩ (.int .u64 ax)).drew) := EE.out
          have K_7 := Lib.hid (K_6.out.ex ee (by have o_ := ORD.out; omega) (by have o_ := ORD.out; omega))
          have O_7 := Lib.hid (O_6.out.ex ee (by have o_ := ORD.out; omega) (by have o_ := ORD.out; omega) (by have o_ := ORD.out; omega) (by have o_ := ORD.out; omega))
          have F_7 := Lib.hid (F_6.out.ex ee (by have o_ := ORD.out; omega) (fun b_ h_ => by have o_ := ORD.out; have h_ : b_ = hb := h_; first | omega | (show _ ∨ _; omega)))
          have S_7 := Lib.hid (S_6.out.ex ee (by have o_ := ORD.out; omega))
          have L_7 := Lib.hid (Ex.below L_6.out ee (fun k hk => by have o_ := ORD.out; have hk : k = hb := hk; omega))
          have R_7 := Lib.hid (show URow ((w8.setCell ⟨hb, j, none⟩ (.int .u64 ax)).drew) hb _ from BB.out)
          clear ee K_6 R_6 O_6 F_6 S_6 L_6 BB
          generalize ((w8.setCell ⟨hb, j, none⟩ (.int .u64 ax)).drew) = w10 at *
          refine behind_normal ⟨fun W => W = w10, fun W hW => by rw [hW]; exact EE.out, rfl, ?_⟩
          refine Phased.end_ ?_
          simp only [pick, List.map_cons, List.map_nil, List.getElem?_cons_zero, List.getElem?_cons_succ, Option.getD_some]
          repeat (go_big_quiet_step (fail))
          refine wpQuiet_nil ?_
          clear EE
          go_wp2_with fail
          exact ⟨⟨i + 1, x, ws.set j ax, _, by have := HI.out; omega, by go_num, K_7.out, R_7.out, by rw [List.length_set]; exact HLN.out, O_7.out, ⟨HRI.out.inv, HRI.out.len, HRI.out.tr, by have := HRI.out.st; push_cast; omega, HRI.out.n1, HRI.out.m1⟩, F_7.out, S_7.out, L_7.out⟩, by have := HI.out; simp [intOf]; omega⟩
      | true =>
        have HF := Lib.hid (RStep_any base f hb rl ns cl m ws l tries x wr F0.out S0.out R0.out (by have := ORD.out; omega) HRI.out.inv HRI.out.tr HRI.out.len (nth_wordF (wordF_range K0.out)))
        rw [HLN.out] at HF
        have HI1 := Lib.hid (HRI.out.step (ws := ws) (wordF_range K0.out) (by have := ki5; omega))
        have HS := Lib.hid (fun W (hk : BankAt W g h ws t) (ho : SnX W o rs cs rg rw ns m l x) => SStep_any g h o rs cs rg rw ns m ws t l x W hk ho HRI.out.inv (by have := ORD.out; omega))
        go_wp2_with fail
        refine HF.out.mono ?_; rintro e w8 ⟨rfl, hrf, hx8⟩
        generalize sTickF l ns m ws x t = t1 at *
        generalize sStepF l ns m ws x = x1 at *
        clear HF
        have K_a := Lib.hid (K0.out.ex hx8 (by have := ORD.out; omega) (by have := ORD.out; omega))
        have O_a := Lib.hid (O0.out.ex hx8 (by have := ORD.out; omega) (by have := ORD.out; omega) (by have := ORD.out; omega) (by have := ORD.out; omega))
        have R_a := Lib.hid (R0.out.ex hx8 (by have := ORD.out; omega))
        have S_a := Lib.hid (S0.out.ex hx8 (by have := ORD.out; omega))
        have L_a := Lib.hid (Ex.below L0.out hx8 (fun k hk => by have := ORD.out; have hk : k = f ∨ base ≤ k := hk; omega))
        obtain ⟨bs, nx, kk, Nn, vg, vw, hfb⟩ := hrf.open_
        have FB_a := Lib.hid hfb
        clear K0 O0 R0 F0 S0 L0 hx8 hrf hfb p0 p1 HRI
        go_upto_region 20 with fail
        have khh : (x1.how != x1.how) = false := by simp
        have kss : (x1.steps != x1.steps) = false := by simp
        have hne : Nonempty (Held (Ex (fun k => k = g ∨ k = h ∨ k = o ∨ k = rg ∨ k = rw) w8)) := ⟨⟨w8, (Ex.refl _ _)⟩⟩
        have f0 : ∀ x : Held (Ex (fun k => k = g ∨ k = h ∨ k = o ∨ k = rg ∨ k = rw) w8), x.w.cell? ⟨f, 0, none⟩ = some (.slice (some ⟨rl, 0, none⟩) ns cl) := fun x => (Blk.ex (RXB.head FB_a.out) x.ok (by have o_ := ORD.out; omega)).cell 0
        have f9 : ∀ x : Held (Ex (fun k => k = g ∨ k = h ∨ k = o ∨ k = rg ∨ k = rw) w8), x.w.cell? ⟨f, 9, none⟩ = some (.int .i64 x1.how) := fun x => (Blk.ex (RXB.head FB_a.out) x.ok (by have o_ := ORD.out; omega)).cell 9
        have f10 : ∀ x : Held (Ex (fun k => k = g ∨ k = h ∨ k = o ∨ k = rg ∨ k = rw) w8), x.w.cell? ⟨f, 10, none⟩ = some (.int .i64 x1.steps) := fun x => (Blk.ex (RXB.head FB_a.out) x.ok (by have o_ := ORD.out; omega)).cell 10
        refine drawn_bars (S := (Ex (fun k => k = g ∨ k = h ∨ k = o ∨ k = rg ∨ k = rw) w8)) [([0, 1, 3, 4, 5, 6], 2), ([7, 8, 9, 11, 12, 13, 14], 10)] [15, 16] (by kernel_rfl) (by kernel_rfl) (by kernel_rfl) rfl (Ex.refl _ _).drew ?_
        refine Phased.go ?_
        simp only [pick, List.map_cons, List.map_nil, List.getElem?_cons_zero, List.getElem?_cons_succ, Option.getD_some]
        repeat (go_big_quiet_step (fail))
        refine wpQuiet_nil ?_
        go_wp2_with fail
        have hk8 : BankAt w8.drew g h ws t := K_a.out.drewN 1
        have ho8 : SnX w8.drew o rs cs rg rw ns m l x := O_a.out.bl (Below.refl _ _).drew
        refine (HS.out w8.drew hk8 ho8).mono ?_; rintro e w9 ⟨rfl, hk9, ho9, hx9⟩
        have hx10 := hx9.undrew
        go_wp2_with fail
        refine behind_normal ⟨(Ex (fun k => k = g ∨ k = h ∨ k = o ∨ k = rg ∨ k = rw) w8), fun W h => h, hx10, ?_⟩
        refine Phased.go ?_
        simp only [pick, List.map_cons, List.map_nil, List.getElem?_cons_zero, List.getElem?_cons_succ, Option.getD_some]
        repeat (go_big_quiet_step (fail))
        refine wpQuiet_nil ?_
        go_wp2_with fail
        refine (XSteps_any o rs cs rg rw ns m l x1 w9 ho9).mono ?_; rintro e w10 ⟨rfl, rfl⟩
        go_wp2_with fail
        refine behind_normal ⟨(Ex (fun k => k = g ∨ k = h ∨ k = o ∨ k = rg ∨ k = rw) w8), fun W h => h, hx10, ?_⟩
        refine Phased.end_ ?_
        have hne5 : Nonempty (Held (fun W => W = w9)) := ⟨⟨_, rfl⟩⟩
        simp only [pick, List.map_cons, List.map_nil, List.getElem?_cons_zero, List.getElem?_cons_succ, Option.getD_some]
        repeat (go_big_quiet_step (fail))
        refine wpQuiet_nil ?_
        clear hne5 hne f0 f9 f10 HS hx9 hk8 ho8
        have ee : Ex (fun k => k = g ∨ k = h ∨ k = o ∨ k = rg ∨ k = rw) w8 w9 := hx10
        have R_7 := Lib.hid (R_a.out.ex ee (by have o_ := ORD.out; omega))
        have F_7 := Lib.hid (FB_a.out.ex ee (by have o_ := ORD.out; omega) (fun b_ h_ => by have o_ := ORD.out; have h_ : b_ = g ∨ b_ = h ∨ b_ = o ∨ b_ = rg ∨ b_ = rw := h_; first | omega | (show _ ∨ _; omega)))
        have S_7 := Lib.hid (S_a.out.ex ee (by have o_ := ORD.out; omega))
        have L_7 := Lib.hid (Ex.below L_a.out ee (fun k hk => by have o_ := ORD.out; have hk : k = g ∨ k = h ∨ k = o ∨ k = rg ∨ k = rw := hk; omega))
        have K_7 := Lib.hid (hk9)
        have O_7 := Lib.hid (ho9)
        clear ee K_a R_a O_a FB_a S_a L_a hx10 hk9 ho9
        go_upto_region 22 with fail
        go_cut [15, 16] from 88 to 218 (fun gv nv wx => ((x1.how = 1 ∧ Ints wx .u64 gv x1.wl ∧ Ints wx .u64 nv x1.gl) ∨ (x1.how ≠ 1 ∧ gv = .slice none 0 0 ∧ nv = .slice none 0 0)) ∧ Below w9.heap.size w9 wx)
        case first =>
          by_cases hh : x1.how = 1
          · have HH := Lib.hid hh
            clear hh
            go_wp2_with fail
            refine (XGot_done o rs cs rg rw ns m l x1 w9 O_7.out HH.out HI1.out.m1 HI1.out.n1).mono ?_; rintro e w10 ⟨q, G, rfl, hq, hi1, hi2, hG, hown, hl⟩
            clear hq hG hown
            go_wp2_with fail
            go_meet
            exact ⟨.inl ⟨HH.out, hi1, hi2⟩, hl⟩
          · have HH := Lib.hid hh
            clear hh
            go_wp2_with fail
            refine (XGot_not o rs cs rg rw ns m l x1 w9 O_7.out HH.out).mono ?_; rintro e w10 ⟨rfl, rfl⟩
            go_wp2_with fail
            go_meet
            exact ⟨.inr ⟨HH.out, rfl, rfl⟩, Below.refl _ _⟩
        case rest =>
          obtain ⟨hor, hbl⟩ := hcut
          have HOR := Lib.hid hor
          clear hor
          obtain ⟨wd, rfl⟩ : ∃ W : World, W = wc := ⟨_, rfl⟩
          have ee : Ex (fun _ => False) w9 wd := Ex.of_below hbl
          have K_8 := Lib.hid (K_7.out.ex ee (fun h => h) (fun h => h))
          have R_8 := Lib.hid (R_7.out.ex ee (fun h => h))
          have O_8 := Lib.hid (O_7.out.ex ee (fun h => h) (fun h => h) (fun h => h) (fun h => h))
          have F_8 := Lib.hid (F_7.out.ex ee (fun h => h) (fun b_ h_ => h_.elim))
          have S_8 := Lib.hid (S_7.out.ex ee (fun h => h))
          have L_8 := Lib.hid (Ex.below L_7.out ee (fun k hk => hk.elim))
          clear ee K_7 R_7 O_7 F_7 S_7 L_7 hbl
          have fq0 := (F_8.out.head).cell 0
          have fq9 := (F_8.out.head).cell 9
          simp only [rcs, List.getElem?_toArray, List.getElem?_cons_succ, List.getElem?_cons_zero] at fq0 fq9
          go_upto_if 169 with fail
          go_cut [] from 88 to 218 (fun wx => Below wd.heap.size wd wx)
          case first =>
            rcases HOR.out with ⟨hh, hi1, hi2⟩ | ⟨hh, rfl, rfl⟩
            · have I1 := Lib.hid hi1
              have I2 := Lib.hid hi2
              have kh : (x1.how == 1) = true := beq_iff_eq.2 hh
              have HH := Lib.hid hh
              clear hh hi1 hi2 HOR
              go_upto_region 24 with fail
              clear fq0 fq9
              have kbb : (x1.begun != x1.begun) = false := by simp
              have hne : Nonempty (Held (Below wd.heap.size wd)) := ⟨⟨wd, (Below.refl _ _)⟩⟩
              have f0 : ∀ x : Held (Below wd.heap.size wd), x.w.cell? ⟨f, 0, none⟩ = some (.slice (some ⟨rl, 0, none⟩) ns cl) := fun x => (Blk.bl (RXB.head F_8.out) x.ok).cell 0
              have f6 : ∀ x : Held (Below wd.heap.size wd), x.w.cell? ⟨f, 6, none⟩ = some (vg) := fun x => (Blk.bl (RXB.head F_8.out) x.ok).cell 6
              have f7 : ∀ x : Held (Below wd.heap.size wd), x.w.cell? ⟨f, 7, none⟩ = some (vw) := fun x => (Blk.bl (RXB.head F_8.out) x.ok).cell 7
              have f8 : ∀ x : Held (Below wd.heap.size wd), x.w.cell? ⟨f, 8, none⟩ = some (.int .i64 x1.begun) := fun x => (Blk.bl (RXB.head F_8.out) x.ok).cell 8
              refine drawn_bars (S := (Below wd.heap.size wd)) [([0, 1, 2, 3, 4], 5), ([6, 7, 8, 9, 10, 11, 12], 13), ([14, 15, 16, 17, 19, 20, 21, 22], 18)] [23, 24] (by kernel_rfl) (by kernel_rfl) (by kernel_rfl) rfl (Below.refl _ _).drew ?_
              refine Phased.go ?_
              simp only [pick, List.map_cons, List.map_nil, List.getElem?_cons_zero, List.getElem?_cons_succ, Option.getD_some]
              repeat (go_big_quiet_step (fail))
              refine wpQuiet_nil ?_
              go_wp2_with fail
              have hdw : Below wd.heap.size wd wd.drew := (Below.refl _ wd).drew
              have hlm := HI1.out.len
              refine (words_any _ _ x1.wl x1.wl wd.drew (I1.out.below hdw) ((F_8.out.bl hdw).rows HH.out hlm.1 (by have := HI1.out.m1; omega) HI1.out.n1.2).2 (by have := HI1.out.m1; omega)).mono ?_; rintro e w11 ⟨rfl, hl4⟩
              rw [decide_eq_true (show x1.wl = x1.wl from rfl)]
              have hl5 := bl hdw hl4
              go_wp2_with fail
              refine behind_normal ⟨(Below wd.heap.size wd), fun W h => h, hl5, ?_⟩
              refine Phased.go ?_
              simp only [pick, List.map_cons, List.map_nil, List.getElem?_cons_zero, List.getElem?_cons_succ, Option.getD_some]
              repeat (go_big_quiet_step (fail))
              refine wpQuiet_nil ?_
              go_wp2_with fail
              refine (words_any _ _ x1.gl x1.gl w11 (I2.out.below hl5) ((F_8.out.bl hl5).rows HH.out hlm.1 (by have := HI1.out.m1; omega) HI1.out.n1.2).1 (by have := HI1.out.n1; omega)).mono ?_; rintro e w12 ⟨rfl, hl6⟩
              rw [decide_eq_true (show x1.gl = x1.gl from rfl)]
              have hl7 := bl hl5 hl6
              go_wp2_with fail
              refine behind_normal ⟨(Below wd.heap.size wd), fun W h => h, hl7, ?_⟩
              refine Phased.go ?_
              simp only [pick, List.map_cons, List.map_nil, List.getElem?_cons_zero, List.getElem?_cons_succ, Option.getD_some]
              repeat (go_big_quiet_step (fail))
              refine wpQuiet_nil ?_
              go_wp2_with fail
              refine (XAt_any o rs cs rg rw ns m l x1 w12 (O_8.out.bl hl7)).mono ?_; rintro e w13 ⟨rfl, rfl⟩
              rw [if_pos HH.out]
              go_wp2_with fail
              refine behind_normal ⟨(Below wd.heap.size wd), fun W h => h, hl7, ?_⟩
              refine Phased.end_ ?_
              have hne5 : Nonempty (Held (fun W => W = w12)) := ⟨⟨_, rfl⟩⟩
              simp only [pick, List.map_cons, List.map_nil, List.getElem?_cons_zero, List.getElem?_cons_succ, Option.getD_some]
              repeat (go_big_quiet_step (fail))
              refine wpQuiet_nil ?_
              clear hne5 hne f0 f6 f7 f8 hl4 hl5 hl6 hdw hlm
              go_wp2_with fail
              go_meet
              exact hl7
            · have kh : (x1.how == 1) = false := beq_eq_false_iff_ne.2 hh
              have HH := Lib.hid hh
              clear hh HOR
              go_wp2_with fail
              refine (XAt_any o rs cs rg rw ns m l x1 wd O_8.out).mono ?_; rintro e w12 ⟨rfl, rfl⟩
              rw [if_neg HH.out]
              go_wp2_with fail
              go_meet
              exact Below.refl _ _
          case rest =>
            clear fq0 fq9 HOR
            have ee : Ex (fun _ => False) wd wc := Ex.of_below hcut
            have K_9 := Lib.hid (K_8.out.ex ee (fun h => h) (fun h => h))
            have R_9 := Lib.hid (R_8.out.ex ee (fun h => h))
            have O_9 := Lib.hid (O_8.out.ex ee (fun h => h) (fun h => h) (fun h => h) (fun h => h))
            have F_9 := Lib.hid (F_8.out.ex ee (fun h => h) (fun b_ h_ => h_.elim))
            have S_9 := Lib.hid (S_8.out.ex ee (fun h => h))
            have L_9 := Lib.hid (Ex.below L_8.out ee (fun k hk => hk.elim))
            clear ee K_8 R_8 O_8 F_8 S_8 L_8 hcut
            go_wp2_with fail
            obtain ⟨wk3, rfl⟩ : ∃ wk : World, wk = wc := ⟨_, rfl⟩
            go_loopw [17] (fun jv wr => ∃ (j : Nat), j ≤ N ∧ jv = .int .i64 j ∧ BankAt wr g h ws t1 ∧ URow wr hb ws ∧ SnX wr o rs cs rg rw ns m l x1 ∧ RX wr base f rl ns cl m l tries x1 ∧ SpsIn wr rl ns l ∧ Below w.heap.size w wr) (fun jv _ => N - (intOf jv).toNat)
            case atStart => exact ⟨0, by omega, rfl, K_9.out, R_9.out, O_9.out, F_9.out.rx, S_9.out, L_9.out⟩
            case round =>
              clear K_9 R_9 O_9 F_9 S_9 L_9
              obtain ⟨j, hj, rfl, hbk, hrw, hro, hrf, hsi, hl⟩ := hrel
              have K0 := Lib.hid hbk
              have R0 := Lib.hid hrw
              have O0 := Lib.hid hro
              have F0 := Lib.hid hrf
              have S0 := Lib.hid hsi
              have L0 := Lib.hid hl
              clear hbk hrw hro hrf hl hsi
              by_cases hjN : j < N
              · have kj : decide ((j : Int) < (N : Int)) = true := decide_eq_true (by omega)
                have kj0 : (0 : Int) ≤ (j : Int) := by omega
                have kj1 : (j : Int) < (N : Int) := by omega
                have kj5 : (j : Int) ≤ 80 := by have := HN.out; omega
                have HJ := Lib.hid (show j < ws.length by rw [HLN.out]; exact hjN)
                clear hj hjN
                go_upto_region 31 with fail
                have kx : (nth ws j != nth ws j) = false := by simp
                have hne : Nonempty (Held (Below wr.heap.size wr)) := ⟨⟨wr, (Below.refl _ _)⟩⟩
                have pw : ∀ x : Held (Below wr.heap.size wr), x.w.cell? ⟨hb, j, none⟩ = some (.int .u64 (nth ws j)) := fun x => (R0.out.bl x.ok).word HJ.out
                refine drawn_bars (S := (Below wr.heap.size wr)) [([0, 1, 3, 4, 5, 6], 2)] [7] (by kernel_rfl) (by kernel_rfl) (by kernel_rfl) rfl (Below.refl _ _).drew ?_
                refine Phased.go ?_
                simp only [pick, List.map_cons, List.map_nil, List.getElem?_cons_zero, List.getElem?_cons_succ, Option.getD_some]
                repeat (go_big_quiet_step (fail))
                refine wpQuiet_nil ?_
                go_wp2_with fail
                refine (Peek_any g h ws t1 (j : Int) wr.drew (K0.out.drewN 1)).mono ?_; rintro e w9 ⟨rfl, hb9⟩
                rw [wordF_nat ws j HJ.out]
                have hb8 := bl ((Below.refl wr.heap.size wr).drew) hb9
                go_wp2_with fail
                refine behind_normal ⟨(Below wr.heap.size wr), fun W h => h, hb8, ?_⟩
                refine Phased.end_ ?_
                have hne5 : Nonempty (Held (fun W => W = w9)) := ⟨⟨_, rfl⟩⟩
                simp only [pick, List.map_cons, List.map_nil, List.getElem?_cons_zero, List.getElem?_cons_succ, Option.getD_some]
                repeat (go_big_quiet_step (fail))
                refine wpQuiet_nil ?_
                clear hne5 hne pw hb9
                have ee : Ex (fun _ => False) wr w9 := Ex.of_below hb8
                have K_10 := Lib.hid (K0.out.ex ee (fun h => h) (fun h => h))
                have R_10 := Lib.hid (R0.out.ex ee (fun h => h))
                have O_10 := Lib.hid (O0.out.ex ee (fun h => h) (fun h => h) (fun h => h) (fun h => h))
                have F_10 := Lib.hid (F0.out.ex ee (fun h => h) (fun b_ h_ => h_.elim))
                have S_10 := Lib.hid (S0.out.ex ee (fun h => h))
                have L_10 := Lib.hid (Ex.below L0.out ee (fun k hk => hk.elim))
                clear ee K0 R0 O0 F0 S0 L0 hb8
                go_wp2_with fail
                go_roundw
                case rel => exact ⟨j + 1, by have := HJ.out; have := HLN.out; omega, by go_num, K_10.out, R_10.out, O_10.out, F_10.out, S_10.out, L_10.out⟩
                case measure => have := HJ.out; have := HLN.out; simp [intOf]; omega
              · obtain rfl : j = N := by omega
                have kj : decide ((j : Int) < (j : Int)) = false := decide_eq_false (by omega)
                go_wp2_with fail
                exact ⟨⟨i + 1, x1, ws, t1, by have := HI.out; omega, by go_num, K0.out, R0.out, HLN.out, O0.out, HI1.out, F0.out, S0.out, L0.out⟩, by have := HI.out; simp [intOf]; omega⟩
    · obtain rfl : i = na := by omega
      have kd : decide ((i : Int) < (i : Int)) = false := decide_eq_false (by omega)
      go_wp2_with fail
      refine (awake_any _).mono ?_; rintro e wz ⟨rfl, hb⟩
      have LZ := Lib.hid (bl L0.out hb)
      clear hb
      go_wp2_with fail
      go_ret
      exact ⟨rfl, LZ.out⟩
end Go.Proofs.Ytjdalllfnlpmnaa.Bank
