/-
  Law 12: word and publish, walked. Printed by wip/tools/mkpme.py. Conditions stand at each. By an AI agent.
-/
import Derived.Test.YthcaagkgddeabaaPmC
namespace Go.Proofs.Ythcaagkgddeabaa.Bank
set_option linter.unusedVariables false
set_option linter.unusedSimpArgs false
open Go Go.RowKit Go.Proofs.Ythcaagkgddeabaa.Base Go.Deep Go.ChangeShapes Go.WideShapes Go.Proofs.Ythcaagkgddeabaa.Queue
theorem word_any (k g : Int) (i : Nat) (w : World) (hk : 0 ≤ k ∧ k ≤ 1) (hg : 0 ≤ g ∧ g ≤ 1000000) (hi : i ≤ 100) :
    Calls Try.prog 24 #[.int .u64 k, .int .u64 g, .int .i64 (i : Int)] w fun e w' => e = .returned (.int .u64 (recW k g i)) ∧ w = w' := by
  have HK := Lib.hid hk
  have HG := Lib.hid hg
  have HI := Lib.hid hi
  clear hk hg hi
  go_enter Try.func24, Try.ntmps24
  go_wp2_with fail
  go_ret
  refine ⟨?_, rfl⟩
  refine congrArg Ending.returned (congrArg (Value.int .u64) ?_)
  have h1 := HK.out
  have h2 := HG.out
  have h3 := HI.out
  unfold recW
  simp only [IntKind.wrap_u64]
  omega
def pubC (b : Nat → Pb) : Array Value := #[.int .i64 (b 0).nx, .int .u64 (b 0).gn, .int .i64 (b 1).nx, .int .u64 (b 1).gn]
set_option maxRecDepth 100000 in
set_option maxHeartbeats 16000000 in
theorem publish0_any (g h pb : Nat) (b : Nat → Pb) (ow W D : Int) (WS : List Int) (t : Int) (w : World) (hk : BankAt w g h WS t) (hp : Blk w pb 61 (pubC b)) (hlen : WS.length = 60) (ht : TInv WS 0 W D (b 0)) (hWD : (1 ≤ W ∧ W ≤ 4) ∧ (2 ≤ D ∧ D ≤ 6)) (hgn : (b 0).gn ≤ 1000) (ne : pb ≠ g ∧ pb ≠ h) :
    Calls Try.prog 20 #[.pointer (some ⟨g, 0, none⟩), .agg #[.int .i64 ow, .int .i64 1, .int .i64 2, .int .i64 W, .int .i64 D], .pointer (some ⟨pb, 0, none⟩), .int .u64 0] w fun e w' => e = .returned (.bool (pubE W (b 0))) ∧ (∃ t', BankAt w' g h (setF WS (pubAt 0 W D (b 0)) (pubV 0 W (b 0))) t') ∧ Blk w' pb 61 (pubC (fun z => if z = 0 then pubB W (b 0) else b z)) ∧ Ex (fun z => z = g ∨ z = h ∨ z = pb) w w' := by
  have HT := Lib.hid ht
  have HWD := Lib.hid hWD
  have HLEN := Lib.hid hlen
  have HPL := Lib.hid (pubAt_b ht hWD.1 hWD.2)
  have HGN := Lib.hid hgn
  obtain ⟨nx, hnx⟩ : ∃ nx, (b 0).nx = nx := ⟨_, rfl⟩
  obtain ⟨gn, hgnn⟩ : ∃ gn, (b 0).gn = gn := ⟨_, rfl⟩
  have HNX := Lib.hid hnx
  have HGE := Lib.hid hgnn
  have hh := ht.nx
  have hh2 := ht.gn
  rw [hnx] at hh hh2
  rw [hgnn] at hh2 hgn
  have HR := Lib.hid (And.intro hh hh2)
  have HGR := Lib.hid hgn
  have HPB : RowKit.Hid (pubB W (b 0) = if nx = 0 then ⟨1, gn + 1⟩ else if nx ≤ W then ⟨nx + 1, gn⟩ else ⟨0, gn⟩) := Lib.hid (by unfold pubB; rw [hnx, hgnn])
  have HPA : RowKit.Hid (pubAt 0 W D (b 0) = if nx = 0 then 30 * 0 + 1 else if nx ≤ W then 30 * 0 + 2 + gn % D * W + (nx - 1) else 30 * 0 + 1) := Lib.hid (by unfold pubAt; rw [hnx, hgnn])
  have HPV : RowKit.Hid (pubV 0 W (b 0) = if nx = 0 then 2 * (gn + 1) - 1 else if nx ≤ W then recW 0 gn (nx - 1) else 2 * gn) := Lib.hid (by unfold pubV; rw [hnx, hgnn])
  have HPE : RowKit.Hid (pubE W (b 0) = decide (nx ≠ 0 ∧ ¬ nx ≤ W)) := Lib.hid (by unfold pubE; rw [hnx])
  have HDB : RowKit.Hid (pubC b = #[.int .i64 nx, .int .u64 gn, .int .i64 (b 1).nx, .int .u64 (b 1).gn]) := Lib.hid (by unfold pubC; rw [hnx, hgnn])
  have HUP : RowKit.Hid (∀ b', pubC (fun z => if z = 0 then b' else b z) = #[.int .i64 b'.nx, .int .u64 b'.gn, .int .i64 (b 1).nx, .int .u64 (b 1).gn]) := Lib.hid (fun b' => rfl)
  have K0 := Lib.hid hk
  have R0 := Lib.hid (show Blk w pb 61 _ from HDB.out ▸ hp)
  have NEQ := Lib.hid ne
  have L0 := Lib.hid (Ex.refl (fun z => z = g ∨ z = h ∨ z = pb) w)
  obtain ⟨at9, hat9⟩ : ∃ at9, pubAt 0 W D (b 0) = at9 := ⟨_, rfl⟩
  obtain ⟨v9, hv9⟩ : ∃ v9, pubV 0 W (b 0) = v9 := ⟨_, rfl⟩
  obtain ⟨e9, he9⟩ : ∃ e9, pubE W (b 0) = e9 := ⟨_, rfl⟩
  obtain ⟨c9, hc9⟩ : ∃ c9, pubC (fun z => if z = 0 then pubB W (b 0) else b z) = c9 := ⟨_, rfl⟩
  rw [hat9] at HPA HPL ⊢
  rw [hv9] at HPV ⊢
  rw [he9] at HPE ⊢
  rw [hc9]
  have HC9 := Lib.hid hc9
  clear ht hWD hlen hgn hnx hgnn hh hh2 hk hp ne hat9 hv9 he9 hc9
  go_enter Try.func20, Try.ntmps20
  go_upto_region 1 with fail
  have hn := Blk.new w 48 #[.int .i64 ow, .int .i64 1, .int .i64 2, .int .i64 W, .int .i64 D]
  obtain ⟨sb, hsb⟩ : ∃ sb, w.heap.size = sb := ⟨_, rfl⟩
  have hl1 : g < sb := hsb ▸ K0.out.head.lt
  have hl2 : h < sb := hsb ▸ K0.out.row.lt
  have hl3 : pb < sb := hsb ▸ R0.out.lt
  simp only [hsb] at hn ⊢
  have NEQ2 := Lib.hid (show (pb ≠ g ∧ pb ≠ h) ∧ sb ≠ g ∧ sb ≠ h ∧ sb ≠ pb from by have o_ := NEQ.out; omega)
  clear NEQ
  have NEQ := NEQ2
  clear NEQ2
  have ee : Ex (fun _ => False) w (w.alloc (.cells #[.int .i64 ow, .int .i64 1, .int .i64 2, .int .i64 W, .int .i64 D] 48)) := (Ex.refl _ w).alloc (.cells #[.int .i64 ow, .int .i64 1, .int .i64 2, .int .i64 W, .int .i64 D] 48)
  have K1 := Lib.hid (K0.out.ex ee (fun h => h) (fun h => h))
  have R1 := Lib.hid (R0.out.ex ee (fun h => h))
  have X1 := Lib.hid (L0.out.trans (ee.mono (fun z hz => hz.elim)))
  have D1 := Lib.hid (hn)
  clear ee K0 R0 L0 hn hl1 hl2 hl3 hsb
  generalize w.alloc (.cells #[.int .i64 ow, .int .i64 1, .int .i64 2, .int .i64 W, .int .i64 D] 48) = w1 at *
  have c0 := R1.out.cell 0
  simp only [List.getElem?_toArray, List.getElem?_cons_zero, List.getElem?_cons_succ] at c0
  by_cases h0 : nx = 0
  · have k0 : (nx == 0) = true := beq_iff_eq.2 h0
    have HE := Lib.hid (show e9 = false from by rw [HPE.out]; exact decide_eq_false (by omega))
    have HAV := Lib.hid (show at9 = 1 ∧ v9 = 2 * (gn + 1) - 1 from ⟨by rw [HPA.out, if_pos h0]; rfl, by rw [HPV.out, if_pos h0]⟩)
    have HCC := Lib.hid (show _ = c9 from by rw [← HC9.out, HPB.out, if_pos h0, HUP.out])
    have HGW := Lib.hid (show IntKind.u64.wrap (gn + 1) = gn + 1 ∧ IntKind.u64.wrap (2 * (gn + 1)) = 2 * (gn + 1) ∧ IntKind.u64.wrap (2 * (gn + 1) - 1) = 2 * (gn + 1) - 1 from by
      have h1 := HGR.out
      have h2 := HR.out
      simp only [IntKind.wrap_u64]
      omega)
    have HIN := Lib.hid (show inW WS (1) from by unfold inW; rw [HLEN.out]; omega)
    have HVR := Lib.hid (show 0 ≤ 2 * (gn + 1) - 1 ∧ 2 * (gn + 1) - 1 ≤ 18446744073709551615 from by have h1 := HGR.out; have h2 := HR.out; omega)
    clear h0 HPE HPA HPV HPB HC9 HUP HDB
    have c1 := R1.out.cell 1
    simp only [List.getElem?_toArray, List.getElem?_cons_zero, List.getElem?_cons_succ] at c1
    have z1 := R1.out.frozen 1
    have hgw := HGW.out.1
    go_upto_region 3 with fail
    try rw [HGW.out.1]
    have bb := R1.out.set_ 1 (.int .u64 (gn + 1))
    simp only [List.setIfInBounds_toArray, List.set_cons_succ, List.set_cons_zero] at bb
    clear c0 k0 c1 z1 hgw
    have ee : Ex (fun z => z = pb) w1 (w1.setCell ⟨pb, 1, none⟩ (.int .u64 (gn + 1))) := (Ex.refl (fun z => z = pb) w1).setCell (q := ⟨pb, 1, none⟩) (.inl rfl) (.int .u64 (gn + 1))
    have K2 := Lib.hid (K1.out.ex ee (by have o_ := NEQ.out; omega) (by have o_ := NEQ.out; omega))
    have X2 := Lib.hid (X1.out.trans (ee.mono (fun z hz => by have hz : z = pb := hz; omega)))
    have D2 := Lib.hid (D1.out.ex ee (by have o_ := NEQ.out; omega))
    have R2 := Lib.hid (bb)
    clear ee K1 R1 X1 D1 bb
    generalize w1.setCell ⟨pb, 1, none⟩ (.int .u64 (gn + 1)) = w2 at *
    have hne : Nonempty (Held (Ex (fun z => z = g ∨ z = h) w2)) := ⟨⟨w2, Ex.refl _ _⟩⟩
    have d1 : ∀ y : Held (Ex (fun z => z = g ∨ z = h) w2), y.w.cell? ⟨sb, 1, none⟩ = some (.int .i64 (1)) := fun y => by
      have e := (D2.out.ex y.ok (by have o_ := NEQ.out; omega)).cell 1
      simp only [List.getElem?_toArray, List.getElem?_cons_zero, List.getElem?_cons_succ] at e
      exact e
    have e0 : ∀ y : Held (Ex (fun z => z = g ∨ z = h) w2), y.w.cell? ⟨pb, 0, none⟩ = some (.int .i64 nx) := fun y => by
      have e := (R2.out.ex y.ok (by have o_ := NEQ.out; omega)).cell 0
      simp only [List.getElem?_toArray, List.getElem?_cons_zero, List.getElem?_cons_succ] at e
      exact e
    have e1 : ∀ y : Held (Ex (fun z => z = g ∨ z = h) w2), y.w.cell? ⟨pb, 1, none⟩ = some (.int .u64 (gn + 1)) := fun y => by
      have e := (R2.out.ex y.ok (by have o_ := NEQ.out; omega)).cell 1
      simp only [List.getElem?_toArray, List.getElem?_cons_zero, List.getElem?_cons_succ] at e
      exact e
    have g1 := HGW.out.2.1
    have g2 := HGW.out.2.2
    refine drawn_bars (S := (Ex (fun z => z = g ∨ z = h) w2)) [([0, 1, 2, 3, 4, 5, 6, 7, 8], 9)] [] (by kernel_rfl) (by kernel_rfl) (by kernel_rfl) rfl (Ex.refl _ _).drew ?_
    refine Phased.go ?_
    simp only [pick, List.map_cons, List.map_nil, List.getElem?_cons_zero, List.getElem?_cons_succ, Option.getD_some]
    repeat (go_big_quiet_step (fail))
    refine wpQuiet_nil ?_
    have q0 : Ex (fun z => z = g ∨ z = h) w2 w2.drew := (Ex.refl _ w2).drew

    have hkd : BankAt w2.drew g h WS t := K2.out.ex (T := fun _ => False) (Ex.refl _ w2).drew (fun h => h) (fun h => h)
    go_wp2_with fail
    refine (Store_any g h WS t (1) (2 * (gn + 1) - 1) w2.drew hkd HVR.out).mono ?_; rintro e w9 ⟨rfl, hk9, hx9⟩
    rw [errF_in HIN.out]
    have q1 : Ex (fun z => z = g ∨ z = h) w2 w9 := q0.trans (Ex.of_ex2 (T := fun z => z = g ∨ z = h) hx9 (.inl rfl) (.inr rfl))
    go_wp2_with fail
    refine behind_normal ⟨(Ex (fun z => z = g ∨ z = h) w2), fun W h => h, q1, ?_⟩
    refine Phased.end_ ?_
    have hne5 : Nonempty (Held (fun W => W = w9)) := ⟨⟨_, rfl⟩⟩
    simp only [pick, List.map_cons, List.map_nil, List.getElem?_cons_zero, List.getElem?_cons_succ, Option.getD_some]
    repeat (go_big_quiet_step (fail))
    refine wpQuiet_nil ?_
    clear hne hne5 q0 hx9 hkd d1 e0 e1
    have ee : Ex (fun z => z = g ∨ z = h) w2 w9 := q1
    have R3 := Lib.hid (R2.out.ex ee (by have o_ := NEQ.out; omega))
    have X3 := Lib.hid (X2.out.trans (ee.mono (fun z hz => by have hz : z = g ∨ z = h := hz; omega)))
    have D3 := Lib.hid (D2.out.ex ee (by have o_ := NEQ.out; omega))
    have K3 := Lib.hid (hk9)
    clear ee K2 R2 X2 D2 q1 hk9
    clear g1 g2
    have c0 := R3.out.cell 0
    simp only [List.getElem?_toArray, List.getElem?_cons_zero, List.getElem?_cons_succ] at c0
    have z0 := R3.out.frozen 0
    go_upto_region 5 with fail
    have bb := R3.out.set_ 0 (.int .i64 1)
    simp only [List.setIfInBounds_toArray, List.set_cons_succ, List.set_cons_zero] at bb
    clear c0 z0
    have ee : Ex (fun z => z = pb) w9 (w9.setCell ⟨pb, 0, none⟩ (.int .i64 1)) := (Ex.refl (fun z => z = pb) w9).setCell (q := ⟨pb, 0, none⟩) (.inl rfl) (.int .i64 1)
    have K4 := Lib.hid (K3.out.ex ee (by have o_ := NEQ.out; omega) (by have o_ := NEQ.out; omega))
    have X4 := Lib.hid (X3.out.trans (ee.mono (fun z hz => by have hz : z = pb := hz; omega)))
    have D4 := Lib.hid (D3.out.ex ee (by have o_ := NEQ.out; omega))
    have R4 := Lib.hid (bb)
    clear ee K3 R3 X3 D3 bb
    generalize w9.setCell ⟨pb, 0, none⟩ (.int .i64 1) = wz at *
    go_wp2_with fail
    go_ret
    refine ⟨congrArg (fun z => Ending.returned (Value.bool z)) HE.out.symm, ?_, HCC.out ▸ R4.out, X4.out⟩
    exact ⟨_, HAV.out.1 ▸ HAV.out.2 ▸ K4.out⟩
  have k0 : (nx == 0) = false := beq_eq_false_iff_ne.2 h0
  go_upto_region 6 with fail
  clear c0 k0
  by_cases h1 : nx ≤ W
  · obtain ⟨i, hi⟩ : ∃ i : Nat, nx - 1 = (i : Int) := ⟨(nx - 1).toNat, by have h2 := HR.out; omega⟩
    have k1 : decide (nx ≤ W) = true := decide_eq_true h1
    have HE := Lib.hid (show e9 = false from by rw [HPE.out]; exact decide_eq_false (by omega))
    have HAV := Lib.hid (show at9 = 2 + gn % D * W + (nx - 1) ∧ v9 = recW 0 gn (nx - 1) from ⟨by rw [HPA.out, if_neg h0, if_pos h1]; omega, by rw [HPV.out, if_neg h0, if_pos h1]⟩)
    have HCC := Lib.hid (show _ = c9 from by rw [← HC9.out, HPB.out, if_neg h0, if_pos h1, HUP.out])
    have hpl := place_b (emod_b (g := gn) HWD.out.2).1 (emod_b (g := gn) HWD.out.2).2 HWD.out.2.2 HWD.out.1 (i := nx - 1) (by have h2 := HR.out; omega)
    have hpl0 := place_b (emod_b (g := gn) HWD.out.2).1 (emod_b (g := gn) HWD.out.2).2 HWD.out.2.2 HWD.out.1 (i := 0) (by have h2 := HWD.out; omega)
    have hmb := emod_b (g := gn) HWD.out.2
    have HIN := Lib.hid (show inW WS (2 + gn % D * W + (nx - 1)) from by unfold inW; rw [HLEN.out]; omega)
    have HVR := Lib.hid (show 0 ≤ recW 0 gn (nx - 1) ∧ recW 0 gn (nx - 1) ≤ 18446744073709551615 from by have h2 := HGR.out; have h3 := HR.out; have h4 := HWD.out; unfold recW; omega)
    have HWO := Lib.hid (fun W0 => word_any 0 gn i W0 (by decide) (by have h2 := HGR.out; have h3 := HR.out; omega) (by have h4 := HWD.out; omega))
    rw [← hi] at HWO
    have HNM := Lib.hid (show IntKind.u64.wrap D = D ∧ IntKind.i64.wrap (gn % D) = gn % D ∧ gn.tmod D = gn % D ∧ D ≠ 0 from by
      have h2 := HWD.out.2
      have h3 := HR.out
      refine ⟨by simp only [IntKind.wrap_u64]; omega, ?_, Int.tmod_eq_emod_of_nonneg (by omega), by omega⟩
      exact Go.IntWalk.i64_in _ (by omega))
    have HW1 := Lib.hid (show wrap64 (gn % D) = gn % D ∧ wrap64 (gn % D * W) = gn % D * W ∧ wrap64 (2 + gn % D * W) = 2 + gn % D * W ∧ wrap64 (2 + gn % D * W + nx) = 2 + gn % D * W + nx ∧ wrap64 (2 + gn % D * W + nx - 1) = 2 + gn % D * W + (nx - 1) ∧ wrap64 (nx - 1) = nx - 1 ∧ wrap64 (nx + 1) = nx + 1 from by
      have h2 := HR.out
      have h4 := HWD.out
      refine ⟨wrap64_in _ (by omega), wrap64_in _ (by omega), wrap64_in _ (by omega), wrap64_in _ (by omega), ?_, wrap64_in _ (by omega), wrap64_in _ (by omega)⟩
      rw [wrap64_in _ (by omega)]
      omega)
    clear h0 h1 hi hpl hpl0 hmb HPE HPA HPV HPB HC9 HUP HDB
    have hne : Nonempty (Held (fun W => W = w1.drew)) := ⟨⟨_, rfl⟩⟩
    have e0 : ∀ y : Held (fun W => W = w1.drew), y.w.cell? ⟨pb, 0, none⟩ = some (.int .i64 nx) := fun y => by
      have e := (R1.out.ex (Ex.refl (fun _ => False) w1).drew (fun h => h)).cell 0
      simp only [List.getElem?_toArray, List.getElem?_cons_zero, List.getElem?_cons_succ] at e
      rw [y.ok]; exact e
    have d3 : ∀ y : Held (fun W => W = w1.drew), y.w.cell? ⟨sb, 3, none⟩ = some (.int .i64 W) := fun y => by
      have e := (D1.out.ex (Ex.refl (fun _ => False) w1).drew (fun h => h)).cell 3
      simp only [List.getElem?_toArray, List.getElem?_cons_zero, List.getElem?_cons_succ] at e
      rw [y.ok]; exact e
    refine drawn_bars (S := fun _ => True) [] [0, 1, 2, 3, 4, 5, 6] (by kernel_rfl) (by kernel_rfl) (by kernel_rfl) rfl trivial ?_
    refine Phased.end_ ?_
    simp only [pick, List.map_cons, List.map_nil, List.getElem?_cons_zero, List.getElem?_cons_succ, Option.getD_some]
    repeat (go_big_quiet_step (fail))
    refine wpQuiet_nil ?_
    clear hne e0 d3
    have ee : Ex (fun _ => False) w1 w1.drew := (Ex.refl (fun _ => False) w1).drew
    have K2 := Lib.hid (K1.out.ex ee (fun h => h) (fun h => h))
    have R2 := Lib.hid (R1.out.ex ee (fun h => h))
    have X2 := Lib.hid (X1.out.trans (ee.mono (fun z hz => hz.elim)))
    have D2 := Lib.hid (D1.out.ex ee (fun h => h))
    clear ee K1 R1 X1 D1
    generalize w1.drew = w2 at *
    go_upto_region 7 with fail
    clear k1
    have hne : Nonempty (Held (Ex (fun z => z = g ∨ z = h) w2)) := ⟨⟨w2, Ex.refl _ _⟩⟩
    have d2 : ∀ y : Held (Ex (fun z => z = g ∨ z = h) w2), y.w.cell? ⟨sb, 2, none⟩ = some (.int .i64 (2)) := fun y => by
      have e := (D2.out.ex y.ok (by have o_ := NEQ.out; omega)).cell 2
      simp only [List.getElem?_toArray, List.getElem?_cons_zero, List.getElem?_cons_succ] at e
      exact e
    have d3 : ∀ y : Held (Ex (fun z => z = g ∨ z = h) w2), y.w.cell? ⟨sb, 3, none⟩ = some (.int .i64 W) := fun y => by
      have e := (D2.out.ex y.ok (by have o_ := NEQ.out; omega)).cell 3
      simp only [List.getElem?_toArray, List.getElem?_cons_zero, List.getElem?_cons_succ] at e
      exact e
    have d4 : ∀ y : Held (Ex (fun z => z = g ∨ z = h) w2), y.w.cell? ⟨sb, 4, none⟩ = some (.int .i64 D) := fun y => by
      have e := (D2.out.ex y.ok (by have o_ := NEQ.out; omega)).cell 4
      simp only [List.getElem?_toArray, List.getElem?_cons_zero, List.getElem?_cons_succ] at e
      exact e
    have e0 : ∀ y : Held (Ex (fun z => z = g ∨ z = h) w2), y.w.cell? ⟨pb, 0, none⟩ = some (.int .i64 nx) := fun y => by
      have e := (R2.out.ex y.ok (by have o_ := NEQ.out; omega)).cell 0
      simp only [List.getElem?_toArray, List.getElem?_cons_zero, List.getElem?_cons_succ] at e
      exact e
    have e1 : ∀ y : Held (Ex (fun z => z = g ∨ z = h) w2), y.w.cell? ⟨pb, 1, none⟩ = some (.int .u64 gn) := fun y => by
      have e := (R2.out.ex y.ok (by have o_ := NEQ.out; omega)).cell 1
      simp only [List.getElem?_toArray, List.getElem?_cons_zero, List.getElem?_cons_succ] at e
      exact e
    have n1 := HNM.out.1
    have n2 := HNM.out.2.1
    have n3 := HNM.out.2.2.1
    have n4 := HNM.out.2.2.2
    have n5 : (D == 0) = false := by simpa using n4
    obtain ⟨m1, m2, m3, m4, m5, m6, _⟩ := HW1.out
    refine drawn_bars (S := (Ex (fun z => z = g ∨ z = h) w2)) [([0, 1, 2, 3, 4, 5, 6, 7, 8, 9, 10, 11, 12, 13, 14, 15, 16, 17, 18, 19, 20, 21, 22, 23, 24, 25, 26, 27, 28, 29, 30, 31], 32), ([], 33)] [] (by kernel_rfl) (by kernel_rfl) (by kernel_rfl) rfl (Ex.refl _ _).drew ?_
    refine Phased.go ?_
    simp only [pick, List.map_cons, List.map_nil, List.getElem?_cons_zero, List.getElem?_cons_succ, Option.getD_some]
    repeat (go_big_quiet_step (fail))
    refine wpQuiet_nil ?_
    try simp only [n1, n2, n3, m1, m2, m3, m4, m5, m6]
    have q0 : Ex (fun z => z = g ∨ z = h) w2 w2.drew := (Ex.refl _ w2).drew
    go_wp2_with fail
    refine (HWO.out _).mono ?_; rintro e w8 ⟨rfl, rfl⟩
    go_wp2_with fail
    refine behind_normal ⟨(Ex (fun z => z = g ∨ z = h) w2), fun W h => h, q0, ?_⟩
    refine Phased.go ?_
    simp only [pick, List.map_cons, List.map_nil, List.getElem?_cons_zero, List.getElem?_cons_succ, Option.getD_some]
    repeat (go_big_quiet_step (fail))
    refine wpQuiet_nil ?_
    have hkd : BankAt w2.drew g h WS t := K2.out.ex (T := fun _ => False) (Ex.refl _ w2).drew (fun h => h) (fun h => h)
    go_wp2_with fail
    refine (Store_any g h WS t (2 + gn % D * W + (nx - 1)) (recW 0 gn (nx - 1)) w2.drew hkd HVR.out).mono ?_; rintro e w9 ⟨rfl, hk9, hx9⟩
    rw [errF_in HIN.out]
    have q1 : Ex (fun z => z = g ∨ z = h) w2 w9 := q0.trans (Ex.of_ex2 (T := fun z => z = g ∨ z = h) hx9 (.inl rfl) (.inr rfl))
    go_wp2_with fail
    refine behind_normal ⟨(Ex (fun z => z = g ∨ z = h) w2), fun W h => h, q1, ?_⟩
    refine Phased.end_ ?_
    have hne5 : Nonempty (Held (fun W => W = w9)) := ⟨⟨_, rfl⟩⟩
    simp only [pick, List.map_cons, List.map_nil, List.getElem?_cons_zero, List.getElem?_cons_succ, Option.getD_some]
    repeat (go_big_quiet_step (fail))
    refine wpQuiet_nil ?_
    clear hne hne5 q0 hx9 hkd n1 n2 n3 n4 n5 m1 m2 m3 m4 m5 m6 d2 d3 d4 e0 e1
    have ee : Ex (fun z => z = g ∨ z = h) w2 w9 := q1
    have R3 := Lib.hid (R2.out.ex ee (by have o_ := NEQ.out; omega))
    have X3 := Lib.hid (X2.out.trans (ee.mono (fun z hz => by have hz : z = g ∨ z = h := hz; omega)))
    have D3 := Lib.hid (D2.out.ex ee (by have o_ := NEQ.out; omega))
    have K3 := Lib.hid (hk9)
    clear ee K2 R2 X2 D2 q1 hk9
    have c0 := R3.out.cell 0
    simp only [List.getElem?_toArray, List.getElem?_cons_zero, List.getElem?_cons_succ] at c0
    have z0 := R3.out.frozen 0
    have m7 := HW1.out.2.2.2.2.2.2
    go_upto_region 9 with fail
    have bb := R3.out.set_ 0 (.int .i64 (nx + 1))
    simp only [List.setIfInBounds_toArray, List.set_cons_succ, List.set_cons_zero] at bb
    clear c0 z0 m7
    have ee : Ex (fun z => z = pb) w9 (w9.setCell ⟨pb, 0, none⟩ (.int .i64 (nx + 1))) := (Ex.refl (fun z => z = pb) w9).setCell (q := ⟨pb, 0, none⟩) (.inl rfl) (.int .i64 (nx + 1))
    have K4 := Lib.hid (K3.out.ex ee (by have o_ := NEQ.out; omega) (by have o_ := NEQ.out; omega))
    have X4 := Lib.hid (X3.out.trans (ee.mono (fun z hz => by have hz : z = pb := hz; omega)))
    have D4 := Lib.hid (D3.out.ex ee (by have o_ := NEQ.out; omega))
    have R4 := Lib.hid (bb)
    clear ee K3 R3 X3 D3 bb
    generalize w9.setCell ⟨pb, 0, none⟩ (.int .i64 (nx + 1)) = wz at *
    go_wp2_with fail
    go_ret
    refine ⟨congrArg (fun z => Ending.returned (Value.bool z)) HE.out.symm, ?_, HCC.out ▸ R4.out, X4.out⟩
    exact ⟨_, HAV.out.1 ▸ HAV.out.2 ▸ K4.out⟩
  · have k1 : decide (nx ≤ W) = false := decide_eq_false h1
    have HE := Lib.hid (show e9 = true from by rw [HPE.out]; exact decide_eq_true (by omega))
    have HAV := Lib.hid (show at9 = 1 ∧ v9 = 2 * gn from ⟨by rw [HPA.out, if_neg h0, if_neg h1]; rfl, by rw [HPV.out, if_neg h0, if_neg h1]⟩)
    have HCC := Lib.hid (show _ = c9 from by rw [← HC9.out, HPB.out, if_neg h0, if_neg h1, HUP.out])
    have HGW := Lib.hid (show IntKind.u64.wrap (2 * gn) = 2 * gn from by
      have h1 := HGR.out
      have h2 := HR.out
      simp only [IntKind.wrap_u64]
      omega)
    have HIN := Lib.hid (show inW WS (1) from by unfold inW; rw [HLEN.out]; omega)
    have HVR := Lib.hid (show 0 ≤ 2 * gn ∧ 2 * gn ≤ 18446744073709551615 from by have h1 := HGR.out; have h2 := HR.out; omega)
    clear h0 h1 HPE HPA HPV HPB HC9 HUP HDB
    have hne : Nonempty (Held (fun W => W = w1.drew)) := ⟨⟨_, rfl⟩⟩
    have e0 : ∀ y : Held (fun W => W = w1.drew), y.w.cell? ⟨pb, 0, none⟩ = some (.int .i64 nx) := fun y => by
      have e := (R1.out.ex (Ex.refl (fun _ => False) w1).drew (fun h => h)).cell 0
      simp only [List.getElem?_toArray, List.getElem?_cons_zero, List.getElem?_cons_succ] at e
      rw [y.ok]; exact e
    have d3 : ∀ y : Held (fun W => W = w1.drew), y.w.cell? ⟨sb, 3, none⟩ = some (.int .i64 W) := fun y => by
      have e := (D1.out.ex (Ex.refl (fun _ => False) w1).drew (fun h => h)).cell 3
      simp only [List.getElem?_toArray, List.getElem?_cons_zero, List.getElem?_cons_succ] at e
      rw [y.ok]; exact e
    refine drawn_bars (S := fun _ => True) [] [0, 1, 2, 3, 4, 5, 6] (by kernel_rfl) (by kernel_rfl) (by kernel_rfl) rfl trivial ?_
    refine Phased.end_ ?_
    simp only [pick, List.map_cons, List.map_nil, List.getElem?_cons_zero, List.getElem?_cons_succ, Option.getD_some]
    repeat (go_big_quiet_step (fail))
    refine wpQuiet_nil ?_
    clear hne e0 d3
    have ee : Ex (fun _ => False) w1 w1.drew := (Ex.refl (fun _ => False) w1).drew
    have K2 := Lib.hid (K1.out.ex ee (fun h => h) (fun h => h))
    have R2 := Lib.hid (R1.out.ex ee (fun h => h))
    have X2 := Lib.hid (X1.out.trans (ee.mono (fun z hz => hz.elim)))
    have D2 := Lib.hid (D1.out.ex ee (fun h => h))
    clear ee K1 R1 X1 D1
    generalize w1.drew = w2 at *
    go_upto_region 10 with fail
    clear k1
    have hne : Nonempty (Held (Ex (fun z => z = g ∨ z = h) w2)) := ⟨⟨w2, Ex.refl _ _⟩⟩
    have d1 : ∀ y : Held (Ex (fun z => z = g ∨ z = h) w2), y.w.cell? ⟨sb, 1, none⟩ = some (.int .i64 (1)) := fun y => by
      have e := (D2.out.ex y.ok (by have o_ := NEQ.out; omega)).cell 1
      simp only [List.getElem?_toArray, List.getElem?_cons_zero, List.getElem?_cons_succ] at e
      exact e
    have e0 : ∀ y : Held (Ex (fun z => z = g ∨ z = h) w2), y.w.cell? ⟨pb, 0, none⟩ = some (.int .i64 nx) := fun y => by
      have e := (R2.out.ex y.ok (by have o_ := NEQ.out; omega)).cell 0
      simp only [List.getElem?_toArray, List.getElem?_cons_zero, List.getElem?_cons_succ] at e
      exact e
    have e1 : ∀ y : Held (Ex (fun z => z = g ∨ z = h) w2), y.w.cell? ⟨pb, 1, none⟩ = some (.int .u64 gn) := fun y => by
      have e := (R2.out.ex y.ok (by have o_ := NEQ.out; omega)).cell 1
      simp only [List.getElem?_toArray, List.getElem?_cons_zero, List.getElem?_cons_succ] at e
      exact e
    have g1 := HGW.out
    refine drawn_bars (S := (Ex (fun z => z = g ∨ z = h) w2)) [([0, 1, 2, 3, 4, 5, 6, 7], 8)] [] (by kernel_rfl) (by kernel_rfl) (by kernel_rfl) rfl (Ex.refl _ _).drew ?_
    refine Phased.go ?_
    simp only [pick, List.map_cons, List.map_nil, List.getElem?_cons_zero, List.getElem?_cons_succ, Option.getD_some]
    repeat (go_big_quiet_step (fail))
    refine wpQuiet_nil ?_
    have q0 : Ex (fun z => z = g ∨ z = h) w2 w2.drew := (Ex.refl _ w2).drew

    have hkd : BankAt w2.drew g h WS t := K2.out.ex (T := fun _ => False) (Ex.refl _ w2).drew (fun h => h) (fun h => h)
    go_wp2_with fail
    refine (Store_any g h WS t (1) (2 * gn) w2.drew hkd HVR.out).mono ?_; rintro e w9 ⟨rfl, hk9, hx9⟩
    rw [errF_in HIN.out]
    have q1 : Ex (fun z => z = g ∨ z = h) w2 w9 := q0.trans (Ex.of_ex2 (T := fun z => z = g ∨ z = h) hx9 (.inl rfl) (.inr rfl))
    go_wp2_with fail
    refine behind_normal ⟨(Ex (fun z => z = g ∨ z = h) w2), fun W h => h, q1, ?_⟩
    refine Phased.end_ ?_
    have hne5 : Nonempty (Held (fun W => W = w9)) := ⟨⟨_, rfl⟩⟩
    simp only [pick, List.map_cons, List.map_nil, List.getElem?_cons_zero, List.getElem?_cons_succ, Option.getD_some]
    repeat (go_big_quiet_step (fail))
    refine wpQuiet_nil ?_
    clear hne hne5 q0 hx9 hkd d1 e0 e1
    have ee : Ex (fun z => z = g ∨ z = h) w2 w9 := q1
    have R3 := Lib.hid (R2.out.ex ee (by have o_ := NEQ.out; omega))
    have X3 := Lib.hid (X2.out.trans (ee.mono (fun z hz => by have hz : z = g ∨ z = h := hz; omega)))
    have D3 := Lib.hid (D2.out.ex ee (by have o_ := NEQ.out; omega))
    have K3 := Lib.hid (hk9)
    clear ee K2 R2 X2 D2 q1 hk9
    clear g1
    have c0 := R3.out.cell 0
    simp only [List.getElem?_toArray, List.getElem?_cons_zero, List.getElem?_cons_succ] at c0
    have z0 := R3.out.frozen 0
    go_upto_region 12 with fail
    have bb := R3.out.set_ 0 (.int .i64 0)
    simp only [List.setIfInBounds_toArray, List.set_cons_succ, List.set_cons_zero] at bb
    clear c0 z0
    have ee : Ex (fun z => z = pb) w9 (w9.setCell ⟨pb, 0, none⟩ (.int .i64 0)) := (Ex.refl (fun z => z = pb) w9).setCell (q := ⟨pb, 0, none⟩) (.inl rfl) (.int .i64 0)
    have K4 := Lib.hid (K3.out.ex ee (by have o_ := NEQ.out; omega) (by have o_ := NEQ.out; omega))
    have X4 := Lib.hid (X3.out.trans (ee.mono (fun z hz => by have hz : z = pb := hz; omega)))
    have D4 := Lib.hid (D3.out.ex ee (by have o_ := NEQ.out; omega))
    have R4 := Lib.hid (bb)
    clear ee K3 R3 X3 D3 bb
    generalize w9.setCell ⟨pb, 0, none⟩ (.int .i64 0) = wz at *
    go_wp2_with fail
    go_ret
    refine ⟨congrArg (fun z => Ending.returned (Value.bool z)) HE.out.symm, ?_, HCC.out ▸ R4.out, X4.out⟩
    exact ⟨_, HAV.out.1 ▸ HAV.out.2 ▸ K4.out⟩
set_option maxRecDepth 100000 in
set_option maxHeartbeats 16000000 in
theorem publish1_any (g h pb : Nat) (b : Nat → Pb) (ow W D : Int) (WS : List Int) (t : Int) (w : World) (hk : BankAt w g h WS t) (hp : Blk w pb 61 (pubC b)) (hlen : WS.length = 60) (ht : TInv WS 1 W D (b 1)) (hWD : (1 ≤ W ∧ W ≤ 4) ∧ (2 ≤ D ∧ D ≤ 6)) (hgn : (b 1).gn ≤ 1000) (ne : pb ≠ g ∧ pb ≠ h) :
    Calls Try.prog 20 #[.pointer (some ⟨g, 0, none⟩), .agg #[.int .i64 ow, .int .i64 31, .int .i64 32, .int .i64 W, .int .i64 D], .pointer (some ⟨pb, 2, none⟩), .int .u64 1] w fun e w' => e = .returned (.bool (pubE W (b 1))) ∧ (∃ t', BankAt w' g h (setF WS (pubAt 1 W D (b 1)) (pubV 1 W (b 1))) t') ∧ Blk w' pb 61 (pubC (fun z => if z = 1 then pubB W (b 1) else b z)) ∧ Ex (fun z => z = g ∨ z = h ∨ z = pb) w w' := by
  have HT := Lib.hid ht
  have HWD := Lib.hid hWD
  have HLEN := Lib.hid hlen
  have HPL := Lib.hid (pubAt_b ht hWD.1 hWD.2)
  have HGN := Lib.hid hgn
  obtain ⟨nx, hnx⟩ : ∃ nx, (b 1).nx = nx := ⟨_, rfl⟩
  obtain ⟨gn, hgnn⟩ : ∃ gn, (b 1).gn = gn := ⟨_, rfl⟩
  have HNX := Lib.hid hnx
  have HGE := Lib.hid hgnn
  have hh := ht.nx
  have hh2 := ht.gn
  rw [hnx] at hh hh2
  rw [hgnn] at hh2 hgn
  have HR := Lib.hid (And.intro hh hh2)
  have HGR := Lib.hid hgn
  have HPB : RowKit.Hid (pubB W (b 1) = if nx = 0 then ⟨1, gn + 1⟩ else if nx ≤ W then ⟨nx + 1, gn⟩ else ⟨0, gn⟩) := Lib.hid (by unfold pubB; rw [hnx, hgnn])
  have HPA : RowKit.Hid (pubAt 1 W D (b 1) = if nx = 0 then 30 * 1 + 1 else if nx ≤ W then 30 * 1 + 2 + gn % D * W + (nx - 1) else 30 * 1 + 1) := Lib.hid (by unfold pubAt; rw [hnx, hgnn])
  have HPV : RowKit.Hid (pubV 1 W (b 1) = if nx = 0 then 2 * (gn + 1) - 1 else if nx ≤ W then recW 1 gn (nx - 1) else 2 * gn) := Lib.hid (by unfold pubV; rw [hnx, hgnn])
  have HPE : RowKit.Hid (pubE W (b 1) = decide (nx ≠ 0 ∧ ¬ nx ≤ W)) := Lib.hid (by unfold pubE; rw [hnx])
  have HDB : RowKit.Hid (pubC b = #[.int .i64 (b 0).nx, .int .u64 (b 0).gn, .int .i64 nx, .int .u64 gn]) := Lib.hid (by unfold pubC; rw [hnx, hgnn])
  have HUP : RowKit.Hid (∀ b', pubC (fun z => if z = 1 then b' else b z) = #[.int .i64 (b 0).nx, .int .u64 (b 0).gn, .int .i64 b'.nx, .int .u64 b'.gn]) := Lib.hid (fun b' => rfl)
  have K0 := Lib.hid hk
  have R0 := Lib.hid (show Blk w pb 61 _ from HDB.out ▸ hp)
  have NEQ := Lib.hid ne
  have L0 := Lib.hid (Ex.refl (fun z => z = g ∨ z = h ∨ z = pb) w)
  obtain ⟨at9, hat9⟩ : ∃ at9, pubAt 1 W D (b 1) = at9 := ⟨_, rfl⟩
  obtain ⟨v9, hv9⟩ : ∃ v9, pubV 1 W (b 1) = v9 := ⟨_, rfl⟩
  obtain ⟨e9, he9⟩ : ∃ e9, pubE W (b 1) = e9 := ⟨_, rfl⟩
  obtain ⟨c9, hc9⟩ : ∃ c9, pubC (fun z => if z = 1 then pubB W (b 1) else b z) = c9 := ⟨_, rfl⟩
  rw [hat9] at HPA HPL ⊢
  rw [hv9] at HPV ⊢
  rw [he9] at HPE ⊢
  rw [hc9]
  have HC9 := Lib.hid hc9
  clear ht hWD hlen hgn hnx hgnn hh hh2 hk hp ne hat9 hv9 he9 hc9
  go_enter Try.func20, Try.ntmps20
  go_upto_region 1 with fail
  have hn := Blk.new w 48 #[.int .i64 ow, .int .i64 31, .int .i64 32, .int .i64 W, .int .i64 D]
  obtain ⟨sb, hsb⟩ : ∃ sb, w.heap.size = sb := ⟨_, rfl⟩
  have hl1 : g < sb := hsb ▸ K0.out.head.lt
  have hl2 : h < sb := hsb ▸ K0.out.row.lt
  have hl3 : pb < sb := hsb ▸ R0.out.lt
  simp only [hsb] at hn ⊢
  have NEQ2 := Lib.hid (show (pb ≠ g ∧ pb ≠ h) ∧ sb ≠ g ∧ sb ≠ h ∧ sb ≠ pb from by have o_ := NEQ.out; omega)
  clear NEQ
  have NEQ := NEQ2
  clear NEQ2
  have ee : Ex (fun _ => False) w (w.alloc (.cells #[.int .i64 ow, .int .i64 31, .int .i64 32, .int .i64 W, .int .i64 D] 48)) := (Ex.refl _ w).alloc (.cells #[.int .i64 ow, .int .i64 31, .int .i64 32, .int .i64 W, .int .i64 D] 48)
  have K1 := Lib.hid (K0.out.ex ee (fun h => h) (fun h => h))
  have R1 := Lib.hid (R0.out.ex ee (fun h => h))
  have X1 := Lib.hid (L0.out.trans (ee.mono (fun z hz => hz.elim)))
  have D1 := Lib.hid (hn)
  clear ee K0 R0 L0 hn hl1 hl2 hl3 hsb
  generalize w.alloc (.cells #[.int .i64 ow, .int .i64 31, .int .i64 32, .int .i64 W, .int .i64 D] 48) = w1 at *
  have c2 := R1.out.cell 2
  simp only [List.getElem?_toArray, List.getElem?_cons_zero, List.getElem?_cons_succ] at c2
  by_cases h0 : nx = 0
  · have k0 : (nx == 0) = true := beq_iff_eq.2 h0
    have HE := Lib.hid (show e9 = false from by rw [HPE.out]; exact decide_eq_false (by omega))
    have HAV := Lib.hid (show at9 = 31 ∧ v9 = 2 * (gn + 1) - 1 from ⟨by rw [HPA.out, if_pos h0]; rfl, by rw [HPV.out, if_pos h0]⟩)
    have HCC := Lib.hid (show _ = c9 from by rw [← HC9.out, HPB.out, if_pos h0, HUP.out])
    have HGW := Lib.hid (show IntKind.u64.wrap (gn + 1) = gn + 1 ∧ IntKind.u64.wrap (2 * (gn + 1)) = 2 * (gn + 1) ∧ IntKind.u64.wrap (2 * (gn + 1) - 1) = 2 * (gn + 1) - 1 from by
      have h1 := HGR.out
      have h2 := HR.out
      simp only [IntKind.wrap_u64]
      omega)
    have HIN := Lib.hid (show inW WS (31) from by unfold inW; rw [HLEN.out]; omega)
    have HVR := Lib.hid (show 0 ≤ 2 * (gn + 1) - 1 ∧ 2 * (gn + 1) - 1 ≤ 18446744073709551615 from by have h1 := HGR.out; have h2 := HR.out; omega)
    clear h0 HPE HPA HPV HPB HC9 HUP HDB
    have c3 := R1.out.cell 3
    simp only [List.getElem?_toArray, List.getElem?_cons_zero, List.getElem?_cons_succ] at c3
    have z3 := R1.out.frozen 3
    have hgw := HGW.out.1
    go_upto_region 3 with fail
    try rw [HGW.out.1]
    have bb := R1.out.set_ 3 (.int .u64 (gn + 1))
    simp only [List.setIfInBounds_toArray, List.set_cons_succ, List.set_cons_zero] at bb
    clear c2 k0 c3 z3 hgw
    have ee : Ex (fun z => z = pb) w1 (w1.setCell ⟨pb, 3, none⟩ (.int .u64 (gn + 1))) := (Ex.refl (fun z => z = pb) w1).setCell (q := ⟨pb, 3, none⟩) (.inl rfl) (.int .u64 (gn + 1))
    have K2 := Lib.hid (K1.out.ex ee (by have o_ := NEQ.out; omega) (by have o_ := NEQ.out; omega))
    have X2 := Lib.hid (X1.out.trans (ee.mono (fun z hz => by have hz : z = pb := hz; omega)))
    have D2 := Lib.hid (D1.out.ex ee (by have o_ := NEQ.out; omega))
    have R2 := Lib.hid (bb)
    clear ee K1 R1 X1 D1 bb
    generalize w1.setCell ⟨pb, 3, none⟩ (.int .u64 (gn + 1)) = w2 at *
    have hne : Nonempty (Held (Ex (fun z => z = g ∨ z = h) w2)) := ⟨⟨w2, Ex.refl _ _⟩⟩
    have d1 : ∀ y : Held (Ex (fun z => z = g ∨ z = h) w2), y.w.cell? ⟨sb, 1, none⟩ = some (.int .i64 (31)) := fun y => by
      have e := (D2.out.ex y.ok (by have o_ := NEQ.out; omega)).cell 1
      simp only [List.getElem?_toArray, List.getElem?_cons_zero, List.getElem?_cons_succ] at e
      exact e
    have e0 : ∀ y : Held (Ex (fun z => z = g ∨ z = h) w2), y.w.cell? ⟨pb, 2, none⟩ = some (.int .i64 nx) := fun y => by
      have e := (R2.out.ex y.ok (by have o_ := NEQ.out; omega)).cell 2
      simp only [List.getElem?_toArray, List.getElem?_cons_zero, List.getElem?_cons_succ] at e
      exact e
    have e1 : ∀ y : Held (Ex (fun z => z = g ∨ z = h) w2), y.w.cell? ⟨pb, 3, none⟩ = some (.int .u64 (gn + 1)) := fun y => by
      have e := (R2.out.ex y.ok (by have o_ := NEQ.out; omega)).cell 3
      simp only [List.getElem?_toArray, List.getElem?_cons_zero, List.getElem?_cons_succ] at e
      exact e
    have g1 := HGW.out.2.1
    have g2 := HGW.out.2.2
    refine drawn_bars (S := (Ex (fun z => z = g ∨ z = h) w2)) [([0, 1, 2, 3, 4, 5, 6, 7, 8], 9)] [] (by kernel_rfl) (by kernel_rfl) (by kernel_rfl) rfl (Ex.refl _ _).drew ?_
    refine Phased.go ?_
    simp only [pick, List.map_cons, List.map_nil, List.getElem?_cons_zero, List.getElem?_cons_succ, Option.getD_some]
    repeat (go_big_quiet_step (fail))
    refine wpQuiet_nil ?_
    have q0 : Ex (fun z => z = g ∨ z = h) w2 w2.drew := (Ex.refl _ w2).drew

    have hkd : BankAt w2.drew g h WS t := K2.out.ex (T := fun _ => False) (Ex.refl _ w2).drew (fun h => h) (fun h => h)
    go_wp2_with fail
    refine (Store_any g h WS t (31) (2 * (gn + 1) - 1) w2.drew hkd HVR.out).mono ?_; rintro e w9 ⟨rfl, hk9, hx9⟩
    rw [errF_in HIN.out]
    have q1 : Ex (fun z => z = g ∨ z = h) w2 w9 := q0.trans (Ex.of_ex2 (T := fun z => z = g ∨ z = h) hx9 (.inl rfl) (.inr rfl))
    go_wp2_with fail
    refine behind_normal ⟨(Ex (fun z => z = g ∨ z = h) w2), fun W h => h, q1, ?_⟩
    refine Phased.end_ ?_
    have hne5 : Nonempty (Held (fun W => W = w9)) := ⟨⟨_, rfl⟩⟩
    simp only [pick, List.map_cons, List.map_nil, List.getElem?_cons_zero, List.getElem?_cons_succ, Option.getD_some]
    repeat (go_big_quiet_step (fail))
    refine wpQuiet_nil ?_
    clear hne hne5 q0 hx9 hkd d1 e0 e1
    have ee : Ex (fun z => z = g ∨ z = h) w2 w9 := q1
    have R3 := Lib.hid (R2.out.ex ee (by have o_ := NEQ.out; omega))
    have X3 := Lib.hid (X2.out.trans (ee.mono (fun z hz => by have hz : z = g ∨ z = h := hz; omega)))
    have D3 := Lib.hid (D2.out.ex ee (by have o_ := NEQ.out; omega))
    have K3 := Lib.hid (hk9)
    clear ee K2 R2 X2 D2 q1 hk9
    clear g1 g2
    have c2 := R3.out.cell 2
    simp only [List.getElem?_toArray, List.getElem?_cons_zero, List.getElem?_cons_succ] at c2
    have z2 := R3.out.frozen 2
    go_upto_region 5 with fail
    have bb := R3.out.set_ 2 (.int .i64 1)
    simp only [List.setIfInBounds_toArray, List.set_cons_succ, List.set_cons_zero] at bb
    clear c2 z2
    have ee : Ex (fun z => z = pb) w9 (w9.setCell ⟨pb, 2, none⟩ (.int .i64 1)) := (Ex.refl (fun z => z = pb) w9).setCell (q := ⟨pb, 2, none⟩) (.inl rfl) (.int .i64 1)
    have K4 := Lib.hid (K3.out.ex ee (by have o_ := NEQ.out; omega) (by have o_ := NEQ.out; omega))
    have X4 := Lib.hid (X3.out.trans (ee.mono (fun z hz => by have hz : z = pb := hz; omega)))
    have D4 := Lib.hid (D3.out.ex ee (by have o_ := NEQ.out; omega))
    have R4 := Lib.hid (bb)
    clear ee K3 R3 X3 D3 bb
    generalize w9.setCell ⟨pb, 2, none⟩ (.int .i64 1) = wz at *
    go_wp2_with fail
    go_ret
    refine ⟨congrArg (fun z => Ending.returned (Value.bool z)) HE.out.symm, ?_, HCC.out ▸ R4.out, X4.out⟩
    exact ⟨_, HAV.out.1 ▸ HAV.out.2 ▸ K4.out⟩
  have k0 : (nx == 0) = false := beq_eq_false_iff_ne.2 h0
  go_upto_region 6 with fail
  clear c2 k0
  by_cases h1 : nx ≤ W
  · obtain ⟨i, hi⟩ : ∃ i : Nat, nx - 1 = (i : Int) := ⟨(nx - 1).toNat, by have h2 := HR.out; omega⟩
    have k1 : decide (nx ≤ W) = true := decide_eq_true h1
    have HE := Lib.hid (show e9 = false from by rw [HPE.out]; exact decide_eq_false (by omega))
    have HAV := Lib.hid (show at9 = 32 + gn % D * W + (nx - 1) ∧ v9 = recW 1 gn (nx - 1) from ⟨by rw [HPA.out, if_neg h0, if_pos h1]; omega, by rw [HPV.out, if_neg h0, if_pos h1]⟩)
    have HCC := Lib.hid (show _ = c9 from by rw [← HC9.out, HPB.out, if_neg h0, if_pos h1, HUP.out])
    have hpl := place_b (emod_b (g := gn) HWD.out.2).1 (emod_b (g := gn) HWD.out.2).2 HWD.out.2.2 HWD.out.1 (i := nx - 1) (by have h2 := HR.out; omega)
    have hpl0 := place_b (emod_b (g := gn) HWD.out.2).1 (emod_b (g := gn) HWD.out.2).2 HWD.out.2.2 HWD.out.1 (i := 0) (by have h2 := HWD.out; omega)
    have hmb := emod_b (g := gn) HWD.out.2
    have HIN := Lib.hid (show inW WS (32 + gn % D * W + (nx - 1)) from by unfold inW; rw [HLEN.out]; omega)
    have HVR := Lib.hid (show 0 ≤ recW 1 gn (nx - 1) ∧ recW 1 gn (nx - 1) ≤ 18446744073709551615 from by have h2 := HGR.out; have h3 := HR.out; have h4 := HWD.out; unfold recW; omega)
    have HWO := Lib.hid (fun W0 => word_any 1 gn i W0 (by decide) (by have h2 := HGR.out; have h3 := HR.out; omega) (by have h4 := HWD.out; omega))
    rw [← hi] at HWO
    have HNM := Lib.hid (show IntKind.u64.wrap D = D ∧ IntKind.i64.wrap (gn % D) = gn % D ∧ gn.tmod D = gn % D ∧ D ≠ 0 from by
      have h2 := HWD.out.2
      have h3 := HR.out
      refine ⟨by simp only [IntKind.wrap_u64]; omega, ?_, Int.tmod_eq_emod_of_nonneg (by omega), by omega⟩
      exact Go.IntWalk.i64_in _ (by omega))
    have HW1 := Lib.hid (show wrap64 (gn % D) = gn % D ∧ wrap64 (gn % D * W) = gn % D * W ∧ wrap64 (32 + gn % D * W) = 32 + gn % D * W ∧ wrap64 (32 + gn % D * W + nx) = 32 + gn % D * W + nx ∧ wrap64 (32 + gn % D * W + nx - 1) = 32 + gn % D * W + (nx - 1) ∧ wrap64 (nx - 1) = nx - 1 ∧ wrap64 (nx + 1) = nx + 1 from by
      have h2 := HR.out
      have h4 := HWD.out
      refine ⟨wrap64_in _ (by omega), wrap64_in _ (by omega), wrap64_in _ (by omega), wrap64_in _ (by omega), ?_, wrap64_in _ (by omega), wrap64_in _ (by omega)⟩
      rw [wrap64_in _ (by omega)]
      omega)
    clear h0 h1 hi hpl hpl0 hmb HPE HPA HPV HPB HC9 HUP HDB
    have hne : Nonempty (Held (fun W => W = w1.drew)) := ⟨⟨_, rfl⟩⟩
    have e0 : ∀ y : Held (fun W => W = w1.drew), y.w.cell? ⟨pb, 2, none⟩ = some (.int .i64 nx) := fun y => by
      have e := (R1.out.ex (Ex.refl (fun _ => False) w1).drew (fun h => h)).cell 2
      simp only [List.getElem?_toArray, List.getElem?_cons_zero, List.getElem?_cons_succ] at e
      rw [y.ok]; exact e
    have d3 : ∀ y : Held (fun W => W = w1.drew), y.w.cell? ⟨sb, 3, none⟩ = some (.int .i64 W) := fun y => by
      have e := (D1.out.ex (Ex.refl (fun _ => False) w1).drew (fun h => h)).cell 3
      simp only [List.getElem?_toArray, List.getElem?_cons_zero, List.getElem?_cons_succ] at e
      rw [y.ok]; exact e
    refine drawn_bars (S := fun _ => True) [] [0, 1, 2, 3, 4, 5, 6] (by kernel_rfl) (by kernel_rfl) (by kernel_rfl) rfl trivial ?_
    refine Phased.end_ ?_
    simp only [pick, List.map_cons, List.map_nil, List.getElem?_cons_zero, List.getElem?_cons_succ, Option.getD_some]
    repeat (go_big_quiet_step (fail))
    refine wpQuiet_nil ?_
    clear hne e0 d3
    have ee : Ex (fun _ => False) w1 w1.drew := (Ex.refl (fun _ => False) w1).drew
    have K2 := Lib.hid (K1.out.ex ee (fun h => h) (fun h => h))
    have R2 := Lib.hid (R1.out.ex ee (fun h => h))
    have X2 := Lib.hid (X1.out.trans (ee.mono (fun z hz => hz.elim)))
    have D2 := Lib.hid (D1.out.ex ee (fun h => h))
    clear ee K1 R1 X1 D1
    generalize w1.drew = w2 at *
    go_upto_region 7 with fail
    clear k1
    have hne : Nonempty (Held (Ex (fun z => z = g ∨ z = h) w2)) := ⟨⟨w2, Ex.refl _ _⟩⟩
    have d2 : ∀ y : Held (Ex (fun z => z = g ∨ z = h) w2), y.w.cell? ⟨sb, 2, none⟩ = some (.int .i64 (32)) := fun y => by
      have e := (D2.out.ex y.ok (by have o_ := NEQ.out; omega)).cell 2
      simp only [List.getElem?_toArray, List.getElem?_cons_zero, List.getElem?_cons_succ] at e
      exact e
    have d3 : ∀ y : Held (Ex (fun z => z = g ∨ z = h) w2), y.w.cell? ⟨sb, 3, none⟩ = some (.int .i64 W) := fun y => by
      have e := (D2.out.ex y.ok (by have o_ := NEQ.out; omega)).cell 3
      simp only [List.getElem?_toArray, List.getElem?_cons_zero, List.getElem?_cons_succ] at e
      exact e
    have d4 : ∀ y : Held (Ex (fun z => z = g ∨ z = h) w2), y.w.cell? ⟨sb, 4, none⟩ = some (.int .i64 D) := fun y => by
      have e := (D2.out.ex y.ok (by have o_ := NEQ.out; omega)).cell 4
      simp only [List.getElem?_toArray, List.getElem?_cons_zero, List.getElem?_cons_succ] at e
      exact e
    have e0 : ∀ y : Held (Ex (fun z => z = g ∨ z = h) w2), y.w.cell? ⟨pb, 2, none⟩ = some (.int .i64 nx) := fun y => by
      have e := (R2.out.ex y.ok (by have o_ := NEQ.out; omega)).cell 2
      simp only [List.getElem?_toArray, List.getElem?_cons_zero, List.getElem?_cons_succ] at e
      exact e
    have e1 : ∀ y : Held (Ex (fun z => z = g ∨ z = h) w2), y.w.cell? ⟨pb, 3, none⟩ = some (.int .u64 gn) := fun y => by
      have e := (R2.out.ex y.ok (by have o_ := NEQ.out; omega)).cell 3
      simp only [List.getElem?_toArray, List.getElem?_cons_zero, List.getElem?_cons_succ] at e
      exact e
    have n1 := HNM.out.1
    have n2 := HNM.out.2.1
    have n3 := HNM.out.2.2.1
    have n4 := HNM.out.2.2.2
    have n5 : (D == 0) = false := by simpa using n4
    obtain ⟨m1, m2, m3, m4, m5, m6, _⟩ := HW1.out
    refine drawn_bars (S := (Ex (fun z => z = g ∨ z = h) w2)) [([0, 1, 2, 3, 4, 5, 6, 7, 8, 9, 10, 11, 12, 13, 14, 15, 16, 17, 18, 19, 20, 21, 22, 23, 24, 25, 26, 27, 28, 29, 30, 31], 32), ([], 33)] [] (by kernel_rfl) (by kernel_rfl) (by kernel_rfl) rfl (Ex.refl _ _).drew ?_
    refine Phased.go ?_
    simp only [pick, List.map_cons, List.map_nil, List.getElem?_cons_zero, List.getElem?_cons_succ, Option.getD_some]
    repeat (go_big_quiet_step (fail))
    refine wpQuiet_nil ?_
    try simp only [n1, n2, n3, m1, m2, m3, m4, m5, m6]
    have q0 : Ex (fun z => z = g ∨ z = h) w2 w2.drew := (Ex.refl _ w2).drew
    go_wp2_with fail
    refine (HWO.out _).mono ?_; rintro e w8 ⟨rfl, rfl⟩
    go_wp2_with fail
    refine behind_normal ⟨(Ex (fun z => z = g ∨ z = h) w2), fun W h => h, q0, ?_⟩
    refine Phased.go ?_
    simp only [pick, List.map_cons, List.map_nil, List.getElem?_cons_zero, List.getElem?_cons_succ, Option.getD_some]
    repeat (go_big_quiet_step (fail))
    refine wpQuiet_nil ?_
    have hkd : BankAt w2.drew g h WS t := K2.out.ex (T := fun _ => False) (Ex.refl _ w2).drew (fun h => h) (fun h => h)
    go_wp2_with fail
    refine (Store_any g h WS t (32 + gn % D * W + (nx - 1)) (recW 1 gn (nx - 1)) w2.drew hkd HVR.out).mono ?_; rintro e w9 ⟨rfl, hk9, hx9⟩
    rw [errF_in HIN.out]
    have q1 : Ex (fun z => z = g ∨ z = h) w2 w9 := q0.trans (Ex.of_ex2 (T := fun z => z = g ∨ z = h) hx9 (.inl rfl) (.inr rfl))
    go_wp2_with fail
    refine behind_normal ⟨(Ex (fun z => z = g ∨ z = h) w2), fun W h => h, q1, ?_⟩
    refine Phased.end_ ?_
    have hne5 : Nonempty (Held (fun W => W = w9)) := ⟨⟨_, rfl⟩⟩
    simp only [pick, List.map_cons, List.map_nil, List.getElem?_cons_zero, List.getElem?_cons_succ, Option.getD_some]
    repeat (go_big_quiet_step (fail))
    refine wpQuiet_nil ?_
    clear hne hne5 q0 hx9 hkd n1 n2 n3 n4 n5 m1 m2 m3 m4 m5 m6 d2 d3 d4 e0 e1
    have ee : Ex (fun z => z = g ∨ z = h) w2 w9 := q1
    have R3 := Lib.hid (R2.out.ex ee (by have o_ := NEQ.out; omega))
    have X3 := Lib.hid (X2.out.trans (ee.mono (fun z hz => by have hz : z = g ∨ z = h := hz; omega)))
    have D3 := Lib.hid (D2.out.ex ee (by have o_ := NEQ.out; omega))
    have K3 := Lib.hid (hk9)
    clear ee K2 R2 X2 D2 q1 hk9
    have c2 := R3.out.cell 2
    simp only [List.getElem?_toArray, List.getElem?_cons_zero, List.getElem?_cons_succ] at c2
    have z2 := R3.out.frozen 2
    have m7 := HW1.out.2.2.2.2.2.2
    go_upto_region 9 with fail
    have bb := R3.out.set_ 2 (.int .i64 (nx + 1))
    simp only [List.setIfInBounds_toArray, List.set_cons_succ, List.set_cons_zero] at bb
    clear c2 z2 m7
    have ee : Ex (fun z => z = pb) w9 (w9.setCell ⟨pb, 2, none⟩ (.int .i64 (nx + 1))) := (Ex.refl (fun z => z = pb) w9).setCell (q := ⟨pb, 2, none⟩) (.inl rfl) (.int .i64 (nx + 1))
    have K4 := Lib.hid (K3.out.ex ee (by have o_ := NEQ.out; omega) (by have o_ := NEQ.out; omega))
    have X4 := Lib.hid (X3.out.trans (ee.mono (fun z hz => by have hz : z = pb := hz; omega)))
    have D4 := Lib.hid (D3.out.ex ee (by have o_ := NEQ.out; omega))
    have R4 := Lib.hid (bb)
    clear ee K3 R3 X3 D3 bb
    generalize w9.setCell ⟨pb, 2, none⟩ (.int .i64 (nx + 1)) = wz at *
    go_wp2_with fail
    go_ret
    refine ⟨congrArg (fun z => Ending.returned (Value.bool z)) HE.out.symm, ?_, HCC.out ▸ R4.out, X4.out⟩
    exact ⟨_, HAV.out.1 ▸ HAV.out.2 ▸ K4.out⟩
  · have k1 : decide (nx ≤ W) = false := decide_eq_false h1
    have HE := Lib.hid (show e9 = true from by rw [HPE.out]; exact decide_eq_true (by omega))
    have HAV := Lib.hid (show at9 = 31 ∧ v9 = 2 * gn from ⟨by rw [HPA.out, if_neg h0, if_neg h1]; rfl, by rw [HPV.out, if_neg h0, if_neg h1]⟩)
    have HCC := Lib.hid (show _ = c9 from by rw [← HC9.out, HPB.out, if_neg h0, if_neg h1, HUP.out])
    have HGW := Lib.hid (show IntKind.u64.wrap (2 * gn) = 2 * gn from by
      have h1 := HGR.out
      have h2 := HR.out
      simp only [IntKind.wrap_u64]
      omega)
    have HIN := Lib.hid (show inW WS (31) from by unfold inW; rw [HLEN.out]; omega)
    have HVR := Lib.hid (show 0 ≤ 2 * gn ∧ 2 * gn ≤ 18446744073709551615 from by have h1 := HGR.out; have h2 := HR.out; omega)
    clear h0 h1 HPE HPA HPV HPB HC9 HUP HDB
    have hne : Nonempty (Held (fun W => W = w1.drew)) := ⟨⟨_, rfl⟩⟩
    have e0 : ∀ y : Held (fun W => W = w1.drew), y.w.cell? ⟨pb, 2, none⟩ = some (.int .i64 nx) := fun y => by
      have e := (R1.out.ex (Ex.refl (fun _ => False) w1).drew (fun h => h)).cell 2
      simp only [List.getElem?_toArray, List.getElem?_cons_zero, List.getElem?_cons_succ] at e
      rw [y.ok]; exact e
    have d3 : ∀ y : Held (fun W => W = w1.drew), y.w.cell? ⟨sb, 3, none⟩ = some (.int .i64 W) := fun y => by
      have e := (D1.out.ex (Ex.refl (fun _ => False) w1).drew (fun h => h)).cell 3
      simp only [List.getElem?_toArray, List.getElem?_cons_zero, List.getElem?_cons_succ] at e
      rw [y.ok]; exact e
    refine drawn_bars (S := fun _ => True) [] [0, 1, 2, 3, 4, 5, 6] (by kernel_rfl) (by kernel_rfl) (by kernel_rfl) rfl trivial ?_
    refine Phased.end_ ?_
    simp only [pick, List.map_cons, List.map_nil, List.getElem?_cons_zero, List.getElem?_cons_succ, Option.getD_some]
    repeat (go_big_quiet_step (fail))
    refine wpQuiet_nil ?_
    clear hne e0 d3
    have ee : Ex (fun _ => False) w1 w1.drew := (Ex.refl (fun _ => False) w1).drew
    have K2 := Lib.hid (K1.out.ex ee (fun h => h) (fun h => h))
    have R2 := Lib.hid (R1.out.ex ee (fun h => h))
    have X2 := Lib.hid (X1.out.trans (ee.mono (fun z hz => hz.elim)))
    have D2 := Lib.hid (D1.out.ex ee (fun h => h))
    clear ee K1 R1 X1 D1
    generalize w1.drew = w2 at *
    go_upto_region 10 with fail
    clear k1
    have hne : Nonempty (Held (Ex (fun z => z = g ∨ z = h) w2)) := ⟨⟨w2, Ex.refl _ _⟩⟩
    have d1 : ∀ y : Held (Ex (fun z => z = g ∨ z = h) w2), y.w.cell? ⟨sb, 1, none⟩ = some (.int .i64 (31)) := fun y => by
      have e := (D2.out.ex y.ok (by have o_ := NEQ.out; omega)).cell 1
      simp only [List.getElem?_toArray, List.getElem?_cons_zero, List.getElem?_cons_succ] at e
      exact e
    have e0 : ∀ y : Held (Ex (fun z => z = g ∨ z = h) w2), y.w.cell? ⟨pb, 2, none⟩ = some (.int .i64 nx) := fun y => by
      have e := (R2.out.ex y.ok (by have o_ := NEQ.out; omega)).cell 2
      simp only [List.getElem?_toArray, List.getElem?_cons_zero, List.getElem?_cons_succ] at e
      exact e
    have e1 : ∀ y : Held (Ex (fun z => z = g ∨ z = h) w2), y.w.cell? ⟨pb, 3, none⟩ = some (.int .u64 gn) := fun y => by
      have e := (R2.out.ex y.ok (by have o_ := NEQ.out; omega)).cell 3
      simp only [List.getElem?_toArray, List.getElem?_cons_zero, List.getElem?_cons_succ] at e
      exact e
    have g1 := HGW.out
    refine drawn_bars (S := (Ex (fun z => z = g ∨ z = h) w2)) [([0, 1, 2, 3, 4, 5, 6, 7], 8)] [] (by kernel_rfl) (by kernel_rfl) (by kernel_rfl) rfl (Ex.refl _ _).drew ?_
    refine Phased.go ?_
    simp only [pick, List.map_cons, List.map_nil, List.getElem?_cons_zero, List.getElem?_cons_succ, Option.getD_some]
    repeat (go_big_quiet_step (fail))
    refine wpQuiet_nil ?_
    have q0 : Ex (fun z => z = g ∨ z = h) w2 w2.drew := (Ex.refl _ w2).drew

    have hkd : BankAt w2.drew g h WS t := K2.out.ex (T := fun _ => False) (Ex.refl _ w2).drew (fun h => h) (fun h => h)
    go_wp2_with fail
    refine (Store_any g h WS t (31) (2 * gn) w2.drew hkd HVR.out).mono ?_; rintro e w9 ⟨rfl, hk9, hx9⟩
    rw [errF_in HIN.out]
    have q1 : Ex (fun z => z = g ∨ z = h) w2 w9 := q0.trans (Ex.of_ex2 (T := fun z => z = g ∨ z = h) hx9 (.inl rfl) (.inr rfl))
    go_wp2_with fail
    refine behind_normal ⟨(Ex (fun z => z = g ∨ z = h) w2), fun W h => h, q1, ?_⟩
    refine Phased.end_ ?_
    have hne5 : Nonempty (Held (fun W => W = w9)) := ⟨⟨_, rfl⟩⟩
    simp only [pick, List.map_cons, List.map_nil, List.getElem?_cons_zero, List.getElem?_cons_succ, Option.getD_some]
    repeat (go_big_quiet_step (fail))
    refine wpQuiet_nil ?_
    clear hne hne5 q0 hx9 hkd d1 e0 e1
    have ee : Ex (fun z => z = g ∨ z = h) w2 w9 := q1
    have R3 := Lib.hid (R2.out.ex ee (by have o_ := NEQ.out; omega))
    have X3 := Lib.hid (X2.out.trans (ee.mono (fun z hz => by have hz : z = g ∨ z = h := hz; omega)))
    have D3 := Lib.hid (D2.out.ex ee (by have o_ := NEQ.out; omega))
    have K3 := Lib.hid (hk9)
    clear ee K2 R2 X2 D2 q1 hk9
    clear g1
    have c2 := R3.out.cell 2
    simp only [List.getElem?_toArray, List.getElem?_cons_zero, List.getElem?_cons_succ] at c2
    have z2 := R3.out.frozen 2
    go_upto_region 12 with fail
    have bb := R3.out.set_ 2 (.int .i64 0)
    simp only [List.setIfInBounds_toArray, List.set_cons_succ, List.set_cons_zero] at bb
    clear c2 z2
    have ee : Ex (fun z => z = pb) w9 (w9.setCell ⟨pb, 2, none⟩ (.int .i64 0)) := (Ex.refl (fun z => z = pb) w9).setCell (q := ⟨pb, 2, none⟩) (.inl rfl) (.int .i64 0)
    have K4 := Lib.hid (K3.out.ex ee (by have o_ := NEQ.out; omega) (by have o_ := NEQ.out; omega))
    have X4 := Lib.hid (X3.out.trans (ee.mono (fun z hz => by have hz : z = pb := hz; omega)))
    have D4 := Lib.hid (D3.out.ex ee (by have o_ := NEQ.out; omega))
    have R4 := Lib.hid (bb)
    clear ee K3 R3 X3 D3 bb
    generalize w9.setCell ⟨pb, 2, none⟩ (.int .i64 0) = wz at *
    go_wp2_with fail
    go_ret
    refine ⟨congrArg (fun z => Ending.returned (Value.bool z)) HE.out.symm, ?_, HCC.out ▸ R4.out, X4.out⟩
    exact ⟨_, HAV.out.1 ▸ HAV.out.2 ▸ K4.out⟩
end Go.Proofs.Ythcaagkgddeabaa.Bank
