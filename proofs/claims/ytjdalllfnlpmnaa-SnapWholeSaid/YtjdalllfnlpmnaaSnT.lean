/-
  Law 10: the branches of a snapshot's step, walked. Printed by wip/tools/mksnt.py. Conditions stand at each. By an AI agent.
-/
import Derived.Test.YtjdalllfnlpmnaaSnP
import Derived.Test.YtjdalllfnlpmnaaGoto
namespace Go.Proofs.Ytjdalllfnlpmnaa.Bank
set_option linter.unusedVariables false
set_option linter.unusedSimpArgs false
open Go Go.RowKit Go.Proofs.Ytjdalllfnlpmnaa.Base
/-- what holds of a snapshot that is under way -/
structure SInv (n m : Nat) (l : Nat → Spot) (tries steps : Int) (gl : List Int) : Prop where
  n1 : 1 ≤ n
  n64 : n ≤ 64
  m64 : m ≤ 4096
  right : allR l n = true
  width : widthF l n = (m : Int)
  gens : ∀ x ∈ gl, 0 ≤ x ∧ x ≤ 18446744073709551615
  tr : 1 ≤ tries ∧ tries ≤ 16
  st : 0 ≤ steps ∧ steps ≤ 1099511627776
theorem step_nums {n m : Nat} {steps kk : Int} (hn : n ≤ 64) (hm : m ≤ 4096) (hs : 0 ≤ steps ∧ steps ≤ 1099511627776) (hk : 0 ≤ kk ∧ kk ≤ 5000) :
    wrap64 (steps + 1) = steps + 1 ∧ wrap64 (2 * (n : Int)) = 2 * (n : Int) ∧ wrap64 (2 * (n : Int) + (m : Int)) = 2 * (n : Int) + (m : Int) ∧ wrap64 (kk + 1) = kk + 1 :=
  ⟨wrap64_in _ (by omega), wrap64_in _ (by omega), wrap64_in _ (by omega), wrap64_in _ (by omega)⟩

set_option maxRecDepth 100000 in
set_option maxHeartbeats 4000000 in
theorem SN_outA (g h o rs cs rg rw n m : Nat) (ws : List Int) (t : Int) (l : Nat → Spot) (tries kk begun steps : Int) (gl wl : List Int) (j : Nat) (w : World) (hb : BankAt w g h ws t) (ho : SnAt w o rs cs rg rw n m l tries kk begun steps 0 gl wl) (hi : SInv n m l tries steps gl)
    (ne : o ≠ g ∧ o ≠ h ∧ rs ≠ g ∧ rs ≠ h ∧ rg ≠ g ∧ rg ≠ h ∧ rw ≠ g ∧ rw ≠ h) (hj : j < n) (hk : kk = (j : Int)) (hin : ¬ inW ws ((l j).seq)) :
    Calls Try.prog 17 #[.pointer (some ⟨o, 0, none⟩), .pointer (some ⟨g, 0, none⟩)] w fun e w' => e = .returned (.int .i64 3) ∧ BankAt w' g h ws (tickF ws ((l j).seq) t) ∧ SnAt w' o rs cs rg rw n m l (tries) (kk) (begun) (steps) 3 (gl) (wl) ∧ Ex (fun k => k = g ∨ k = h ∨ k = o ∨ k = rg ∨ k = rw) w w' := by
  have B0 := Lib.hid ho.box
  have S0 := Lib.hid ho.spots
  have G0 := Lib.hid ho.gens
  have V0 := Lib.hid ho.words
  have GL := Lib.hid ho.glen
  have WL := Lib.hid ho.wlen
  have HO := Lib.hid ho
  have K0 := Lib.hid hb
  have X0 := Lib.hid (Ex.refl (fun k => k = g ∨ k = h ∨ k = o ∨ k = rg ∨ k = rw) w)
  have HI := Lib.hid hi
  have NE := Lib.hid (show (o ≠ g ∧ o ≠ h ∧ rs ≠ g ∧ rs ≠ h ∧ rg ≠ g ∧ rg ≠ h ∧ rw ≠ g ∧ rw ≠ h) ∧ rs ≠ o ∧ rg ≠ o ∧ rw ≠ o ∧ rs ≠ rg ∧ rs ≠ rw ∧ rg ≠ rw from ⟨ne, ho.apart⟩)
  have HRG := Lib.hid (fun i => wordF_range hb i)
  have hnm : wrap64 ((n : Int) + (m : Int)) = (n : Int) + (m : Int) := wrap64_in _ (by have := hi.n64; have := hi.m64; omega)
  have HIN := Lib.hid hin
  have HNUM := Lib.hid (step_nums (kk := (j : Int)) hi.n64 hi.m64 hi.st (by have := hi.n64; have := hi.m64; omega))
  have d1 : decide (kk < (n : Int)) = true := decide_eq_true (by omega)
  have i0 : (0 : Int) ≤ kk := by omega
  have i1 : kk < (n : Int) := by omega
  have JN := Lib.hid hj
  have HKK := Lib.hid hk
  clear ho hb hi ne hj hk hin
  have q0 := B0.out.cell 0
  have q7 := B0.out.cell 7
  simp only [List.getElem?_toArray, List.getElem?_cons_succ, List.getElem?_cons_zero] at q0 q7
  go_enter Try.func17, Try.ntmps17
  go_wp2_with fail
  refine wp_scope_ahead 2 (fun c0 HC => ?_)
  go_upto_region 5 with fail
  have hne : Nonempty (Held (fun W => W = w.drew)) := ⟨⟨_, rfl⟩⟩
  have p0 : ∀ y : Held (fun W => W = w.drew), y.w.cell? ⟨o, 0, none⟩ = some (.slice (some ⟨rs, 0, none⟩) n cs) := fun y => by rw [y.ok]; exact B0.out.cell 0
  have p4 : ∀ y : Held (fun W => W = w.drew), y.w.cell? ⟨o, 4, none⟩ = some (.slice (some ⟨rw, 0, none⟩) m m) := fun y => by rw [y.ok]; exact B0.out.cell 4
  refine drawn_bars (S := fun _ => True) [] [0, 1, 2, 3, 4, 5, 6, 7, 8, 9, 10, 11] (by kernel_rfl) (by kernel_rfl) (by kernel_rfl) rfl trivial ?_
  refine Phased.end_ ?_
  simp only [pick, List.map_cons, List.map_nil, List.getElem?_cons_zero, List.getElem?_cons_succ, Option.getD_some]
  repeat (go_big_quiet_step (fail))
  refine wpQuiet_nil ?_
  clear hne p0 p4
  clear q0 q7
  have HO1 := Lib.hid (HO.out.bl (Below.refl w.heap.size w).drew)
  clear HO
  have hdb := (Below.refl w.heap.size w).drew
  have Bw1 := Lib.hid (B0.out.bl hdb)
  have Sw1 := Lib.hid (S0.out.bl hdb)
  have Gw1 := Lib.hid (G0.out.bl hdb)
  have Vw1 := Lib.hid (V0.out.bl hdb)
  have Kw1 := Lib.hid (K0.out.below hdb)
  have Xw1 := Lib.hid (X0.out.trans (Ex.of_below hdb))
  clear hdb B0 S0 G0 V0 K0 X0
  generalize w.drew = w1 at *
  have q0 := Bw1.out.cell 0
  have q2 := Bw1.out.cell 2
  simp only [List.getElem?_toArray, List.getElem?_cons_succ, List.getElem?_cons_zero] at q0 q2
  obtain ⟨j0, hj0⟩ : ∃ j0 : Int, (j : Int) = j0 := ⟨_, rfl⟩
  obtain ⟨e0, e1, e2, e3, e4⟩ := Sw1.out.five JN.out
  have hkj := HKK.out
  subst hkj
  clear j0 hj0
  go_wp2_with fail
  clear HO1
  clear e0 e1 e2 e3 e4
  refine (Load_any g h ws t ((l j).seq) w1 Kw1.out).mono ?_; rintro e w3 ⟨rfl, hb1, hx1⟩
  rw [errF_out HIN.out, wordF_out HIN.out]
  clear q0 q2
  have ee := Ex.of_ex2 (T := fun k => k = g ∨ k = h) hx1 (.inl rfl) (.inr rfl)
  have Bw3 := Lib.hid (Bw1.out.ex ee (by have := NE.out; omega))
  have Sw3 := Lib.hid (Sw1.out.ex ee (by have := NE.out; omega))
  have Gw3 := Lib.hid (Gw1.out.ex ee (by have := NE.out; omega))
  have Vw3 := Lib.hid (Vw1.out.ex ee (by have := NE.out; omega))
  have Kw3 := Lib.hid (hb1)
  have Xw3 := Lib.hid (Xw1.out.trans (ee.mono (fun k hk => hk.elim .inl (fun h => .inr (.inl h)))))
  clear ee hb1 hx1 Bw1 Sw1 Gw1 Vw1 Kw1 Xw1
  have q0 := Bw3.out.cell 0
  have q7 := Bw3.out.cell 7
  simp only [List.getElem?_toArray, List.getElem?_cons_succ, List.getElem?_cons_zero] at q0 q7
  have f7 := Bw3.out.frozen 7
  go_wp2_with fail
  clear q0 q7 f7
  have ee := ((Ex.refl (fun k => k = o) w3).setCell (q := ⟨o, 7, none⟩) (.inl rfl) (.int .i64 3))
  have bb := (Bw3.out.set_ 7 (.int .i64 3))
  simp only [List.setIfInBounds_toArray, List.set_cons_succ, List.set_cons_zero] at bb
  have Bwz := Lib.hid (bb)
  have Swz := Lib.hid (Sw3.out.ex ee (by have := NE.out; omega))
  have Gwz := Lib.hid (Gw3.out.ex ee (by have := NE.out; omega))
  have Vwz := Lib.hid (Vw3.out.ex ee (by have := NE.out; omega))
  have Kwz := Lib.hid (Kw3.out.ex ee (by have := NE.out; omega) (by have := NE.out; omega))
  have Xwz := Lib.hid (Xw3.out.trans (ee.mono (fun k hk => .inr (.inr (.inl hk)))))
  clear ee bb Bw3 Sw3 Gw3 Vw3 Kw3 Xw3
  first | rw [goOn_ret] | skip
  go_ret
  exact ⟨rfl, Kwz.out, ⟨Bwz.out, Swz.out, Gwz.out, by first | exact GL.out | (rw [List.length_set]; exact GL.out), Vwz.out, by first | exact WL.out | (rw [List.length_set]; exact WL.out), NE.out.2⟩, Xwz.out⟩

set_option maxRecDepth 100000 in
set_option maxHeartbeats 4000000 in
theorem SN_outB (g h o rs cs rg rw n m : Nat) (ws : List Int) (t : Int) (l : Nat → Spot) (tries kk begun steps : Int) (gl wl : List Int) (j : Nat) (w : World) (hb : BankAt w g h ws t) (ho : SnAt w o rs cs rg rw n m l tries kk begun steps 0 gl wl) (hi : SInv n m l tries steps gl)
    (ne : o ≠ g ∧ o ≠ h ∧ rs ≠ g ∧ rs ≠ h ∧ rg ≠ g ∧ rg ≠ h ∧ rw ≠ g ∧ rw ≠ h) (hj : j < m) (hk : kk = (n : Int) + (j : Int)) (hin : ¬ inW ws (sPlace l gl n (j : Int))) :
    Calls Try.prog 17 #[.pointer (some ⟨o, 0, none⟩), .pointer (some ⟨g, 0, none⟩)] w fun e w' => e = .returned (.int .i64 3) ∧ BankAt w' g h ws (tickF ws (sPlace l gl n (j : Int)) t) ∧ SnAt w' o rs cs rg rw n m l (tries) (kk) (begun) (steps) 3 (gl) (wl) ∧ Ex (fun k => k = g ∨ k = h ∨ k = o ∨ k = rg ∨ k = rw) w w' := by
  have B0 := Lib.hid ho.box
  have S0 := Lib.hid ho.spots
  have G0 := Lib.hid ho.gens
  have V0 := Lib.hid ho.words
  have GL := Lib.hid ho.glen
  have WL := Lib.hid ho.wlen
  have HO := Lib.hid ho
  have K0 := Lib.hid hb
  have X0 := Lib.hid (Ex.refl (fun k => k = g ∨ k = h ∨ k = o ∨ k = rg ∨ k = rw) w)
  have HI := Lib.hid hi
  have NE := Lib.hid (show (o ≠ g ∧ o ≠ h ∧ rs ≠ g ∧ rs ≠ h ∧ rg ≠ g ∧ rg ≠ h ∧ rw ≠ g ∧ rw ≠ h) ∧ rs ≠ o ∧ rg ≠ o ∧ rw ≠ o ∧ rs ≠ rg ∧ rs ≠ rw ∧ rg ≠ rw from ⟨ne, ho.apart⟩)
  have HRG := Lib.hid (fun i => wordF_range hb i)
  have hnm : wrap64 ((n : Int) + (m : Int)) = (n : Int) + (m : Int) := wrap64_in _ (by have := hi.n64; have := hi.m64; omega)
  have HIN := Lib.hid hin
  have HNUM := Lib.hid (step_nums (kk := kk) hi.n64 hi.m64 hi.st (by have := hi.n64; have := hi.m64; omega))
  have d1 : decide (kk < (n : Int)) = false := decide_eq_false (by omega)
  have d2 : decide (kk < (n : Int) + (m : Int)) = true := decide_eq_true (by omega)
  have h1 : wrap64 (kk - (n : Int)) = (j : Int) := by rw [wrap64_in _ (by have := hi.n64; have := hi.m64; omega)]; omega
  have JN := Lib.hid hj
  have HKK := Lib.hid hk
  clear ho hb hi ne hj hk hin
  have q0 := B0.out.cell 0
  have q7 := B0.out.cell 7
  simp only [List.getElem?_toArray, List.getElem?_cons_succ, List.getElem?_cons_zero] at q0 q7
  go_enter Try.func17, Try.ntmps17
  go_wp2_with fail
  refine wp_scope_ahead 2 (fun c0 HC => ?_)
  go_upto_region 5 with fail
  have hne : Nonempty (Held (fun W => W = w.drew)) := ⟨⟨_, rfl⟩⟩
  have p0 : ∀ y : Held (fun W => W = w.drew), y.w.cell? ⟨o, 0, none⟩ = some (.slice (some ⟨rs, 0, none⟩) n cs) := fun y => by rw [y.ok]; exact B0.out.cell 0
  have p4 : ∀ y : Held (fun W => W = w.drew), y.w.cell? ⟨o, 4, none⟩ = some (.slice (some ⟨rw, 0, none⟩) m m) := fun y => by rw [y.ok]; exact B0.out.cell 4
  refine drawn_bars (S := fun _ => True) [] [0, 1, 2, 3, 4, 5, 6, 7, 8, 9, 10, 11] (by kernel_rfl) (by kernel_rfl) (by kernel_rfl) rfl trivial ?_
  refine Phased.end_ ?_
  simp only [pick, List.map_cons, List.map_nil, List.getElem?_cons_zero, List.getElem?_cons_succ, Option.getD_some]
  repeat (go_big_quiet_step (fail))
  refine wpQuiet_nil ?_
  clear hne p0 p4
  clear q0 q7
  have HO1 := Lib.hid (HO.out.bl (Below.refl w.heap.size w).drew)
  clear HO
  have hdb := (Below.refl w.heap.size w).drew
  have Bw1 := Lib.hid (B0.out.bl hdb)
  have Sw1 := Lib.hid (S0.out.bl hdb)
  have Gw1 := Lib.hid (G0.out.bl hdb)
  have Vw1 := Lib.hid (V0.out.bl hdb)
  have Kw1 := Lib.hid (K0.out.below hdb)
  have Xw1 := Lib.hid (X0.out.trans (Ex.of_below hdb))
  clear hdb B0 S0 G0 V0 K0 X0
  generalize w.drew = w1 at *
  have q0 := Bw1.out.cell 0
  have q2 := Bw1.out.cell 2
  simp only [List.getElem?_toArray, List.getElem?_cons_succ, List.getElem?_cons_zero] at q0 q2
  go_wp2_with fail
  refine (place_any o rs cs rg rw n m l tries kk begun steps 0 gl wl (j : Int) w1 HO1.out HI.out.right HI.out.n64 HI.out.gens (by omega) (by have := HI.out.width; have := JN.out; omega)).mono ?_; rintro e w2 ⟨rfl, hb1⟩
  clear HO1
  clear q0 q2
  have Bw2 := Lib.hid (Bw1.out.bl hb1)
  have Sw2 := Lib.hid (Sw1.out.bl hb1)
  have Gw2 := Lib.hid (Gw1.out.bl hb1)
  have Vw2 := Lib.hid (Vw1.out.bl hb1)
  have Kw2 := Lib.hid (Kw1.out.below hb1)
  have Xw2 := Lib.hid (Xw1.out.trans (Ex.of_below hb1))
  clear hb1 Bw1 Sw1 Gw1 Vw1 Kw1 Xw1
  go_wp2_with fail
  refine (Load_any g h ws t (sPlace l gl n (j : Int)) w2 Kw2.out).mono ?_; rintro e w3 ⟨rfl, hb1, hx1⟩
  rw [errF_out HIN.out, wordF_out HIN.out]
  have ee := Ex.of_ex2 (T := fun k => k = g ∨ k = h) hx1 (.inl rfl) (.inr rfl)
  have Bw3 := Lib.hid (Bw2.out.ex ee (by have := NE.out; omega))
  have Sw3 := Lib.hid (Sw2.out.ex ee (by have := NE.out; omega))
  have Gw3 := Lib.hid (Gw2.out.ex ee (by have := NE.out; omega))
  have Vw3 := Lib.hid (Vw2.out.ex ee (by have := NE.out; omega))
  have Kw3 := Lib.hid (hb1)
  have Xw3 := Lib.hid (Xw2.out.trans (ee.mono (fun k hk => hk.elim .inl (fun h => .inr (.inl h)))))
  clear ee hb1 hx1 Bw2 Sw2 Gw2 Vw2 Kw2 Xw2
  have q0 := Bw3.out.cell 0
  have q7 := Bw3.out.cell 7
  simp only [List.getElem?_toArray, List.getElem?_cons_succ, List.getElem?_cons_zero] at q0 q7
  have f7 := Bw3.out.frozen 7
  go_wp2_with fail
  clear q0 q7 f7
  have ee := ((Ex.refl (fun k => k = o) w3).setCell (q := ⟨o, 7, none⟩) (.inl rfl) (.int .i64 3))
  have bb := (Bw3.out.set_ 7 (.int .i64 3))
  simp only [List.setIfInBounds_toArray, List.set_cons_succ, List.set_cons_zero] at bb
  have Bwz := Lib.hid (bb)
  have Swz := Lib.hid (Sw3.out.ex ee (by have := NE.out; omega))
  have Gwz := Lib.hid (Gw3.out.ex ee (by have := NE.out; omega))
  have Vwz := Lib.hid (Vw3.out.ex ee (by have := NE.out; omega))
  have Kwz := Lib.hid (Kw3.out.ex ee (by have := NE.out; omega) (by have := NE.out; omega))
  have Xwz := Lib.hid (Xw3.out.trans (ee.mono (fun k hk => .inr (.inr (.inl hk)))))
  clear ee bb Bw3 Sw3 Gw3 Vw3 Kw3 Xw3
  first | rw [goOn_ret] | skip
  go_ret
  exact ⟨rfl, Kwz.out, ⟨Bwz.out, Swz.out, Gwz.out, by first | exact GL.out | (rw [List.length_set]; exact GL.out), Vwz.out, by first | exact WL.out | (rw [List.length_set]; exact WL.out), NE.out.2⟩, Xwz.out⟩

set_option maxRecDepth 100000 in
set_option maxHeartbeats 4000000 in
theorem SN_outC (g h o rs cs rg rw n m : Nat) (ws : List Int) (t : Int) (l : Nat → Spot) (tries kk begun steps : Int) (gl wl : List Int) (j : Nat) (w : World) (hb : BankAt w g h ws t) (ho : SnAt w o rs cs rg rw n m l tries kk begun steps 0 gl wl) (hi : SInv n m l tries steps gl)
    (ne : o ≠ g ∧ o ≠ h ∧ rs ≠ g ∧ rs ≠ h ∧ rg ≠ g ∧ rg ≠ h ∧ rw ≠ g ∧ rw ≠ h) (hj : j < n) (hk : kk = (n : Int) + (m : Int) + (j : Int)) (hin : ¬ inW ws ((l j).seq)) :
    Calls Try.prog 17 #[.pointer (some ⟨o, 0, none⟩), .pointer (some ⟨g, 0, none⟩)] w fun e w' => e = .returned (.int .i64 3) ∧ BankAt w' g h ws (tickF ws ((l j).seq) t) ∧ SnAt w' o rs cs rg rw n m l (tries) (kk) (begun) (steps) 3 (gl) (wl) ∧ Ex (fun k => k = g ∨ k = h ∨ k = o ∨ k = rg ∨ k = rw) w w' := by
  have B0 := Lib.hid ho.box
  have S0 := Lib.hid ho.spots
  have G0 := Lib.hid ho.gens
  have V0 := Lib.hid ho.words
  have GL := Lib.hid ho.glen
  have WL := Lib.hid ho.wlen
  have HO := Lib.hid ho
  have K0 := Lib.hid hb
  have X0 := Lib.hid (Ex.refl (fun k => k = g ∨ k = h ∨ k = o ∨ k = rg ∨ k = rw) w)
  have HI := Lib.hid hi
  have NE := Lib.hid (show (o ≠ g ∧ o ≠ h ∧ rs ≠ g ∧ rs ≠ h ∧ rg ≠ g ∧ rg ≠ h ∧ rw ≠ g ∧ rw ≠ h) ∧ rs ≠ o ∧ rg ≠ o ∧ rw ≠ o ∧ rs ≠ rg ∧ rs ≠ rw ∧ rg ≠ rw from ⟨ne, ho.apart⟩)
  have HRG := Lib.hid (fun i => wordF_range hb i)
  have hnm : wrap64 ((n : Int) + (m : Int)) = (n : Int) + (m : Int) := wrap64_in _ (by have := hi.n64; have := hi.m64; omega)
  have HIN := Lib.hid hin
  have HNUM := Lib.hid (step_nums (kk := kk) hi.n64 hi.m64 hi.st (by have := hi.n64; have := hi.m64; omega))
  have d1 : decide (kk < (n : Int)) = false := decide_eq_false (by omega)
  have d2 : decide (kk < (n : Int) + (m : Int)) = false := decide_eq_false (by omega)
  have h1 : wrap64 (kk - (n : Int)) = kk - (n : Int) := wrap64_in _ (by have := hi.n64; have := hi.m64; omega)
  have h2 : wrap64 (kk - (n : Int) - (m : Int)) = (j : Int) := by rw [wrap64_in _ (by have := hi.n64; have := hi.m64; omega)]; omega
  have i0 : (0 : Int) ≤ (j : Int) := by omega
  have i1 : (j : Int) < (n : Int) := by omega
  have JN := Lib.hid hj
  have HKK := Lib.hid hk
  clear ho hb hi ne hj hk hin
  have q0 := B0.out.cell 0
  have q7 := B0.out.cell 7
  simp only [List.getElem?_toArray, List.getElem?_cons_succ, List.getElem?_cons_zero] at q0 q7
  go_enter Try.func17, Try.ntmps17
  go_wp2_with fail
  refine wp_scope_ahead 2 (fun c0 HC => ?_)
  go_upto_region 5 with fail
  have hne : Nonempty (Held (fun W => W = w.drew)) := ⟨⟨_, rfl⟩⟩
  have p0 : ∀ y : Held (fun W => W = w.drew), y.w.cell? ⟨o, 0, none⟩ = some (.slice (some ⟨rs, 0, none⟩) n cs) := fun y => by rw [y.ok]; exact B0.out.cell 0
  have p4 : ∀ y : Held (fun W => W = w.drew), y.w.cell? ⟨o, 4, none⟩ = some (.slice (some ⟨rw, 0, none⟩) m m) := fun y => by rw [y.ok]; exact B0.out.cell 4
  refine drawn_bars (S := fun _ => True) [] [0, 1, 2, 3, 4, 5, 6, 7, 8, 9, 10, 11] (by kernel_rfl) (by kernel_rfl) (by kernel_rfl) rfl trivial ?_
  refine Phased.end_ ?_
  simp only [pick, List.map_cons, List.map_nil, List.getElem?_cons_zero, List.getElem?_cons_succ, Option.getD_some]
  repeat (go_big_quiet_step (fail))
  refine wpQuiet_nil ?_
  clear hne p0 p4
  clear q0 q7
  have HO1 := Lib.hid (HO.out.bl (Below.refl w.heap.size w).drew)
  clear HO
  have hdb := (Below.refl w.heap.size w).drew
  have Bw1 := Lib.hid (B0.out.bl hdb)
  have Sw1 := Lib.hid (S0.out.bl hdb)
  have Gw1 := Lib.hid (G0.out.bl hdb)
  have Vw1 := Lib.hid (V0.out.bl hdb)
  have Kw1 := Lib.hid (K0.out.below hdb)
  have Xw1 := Lib.hid (X0.out.trans (Ex.of_below hdb))
  clear hdb B0 S0 G0 V0 K0 X0
  generalize w.drew = w1 at *
  have q0 := Bw1.out.cell 0
  have q2 := Bw1.out.cell 2
  simp only [List.getElem?_toArray, List.getElem?_cons_succ, List.getElem?_cons_zero] at q0 q2
  obtain ⟨e0, e1, e2, e3, e4⟩ := Sw1.out.five JN.out
  go_wp2_with fail
  clear HO1
  clear e0 e1 e2 e3 e4
  refine (Load_any g h ws t ((l j).seq) w1 Kw1.out).mono ?_; rintro e w3 ⟨rfl, hb1, hx1⟩
  rw [errF_out HIN.out, wordF_out HIN.out]
  clear q0 q2
  have ee := Ex.of_ex2 (T := fun k => k = g ∨ k = h) hx1 (.inl rfl) (.inr rfl)
  have Bw3 := Lib.hid (Bw1.out.ex ee (by have := NE.out; omega))
  have Sw3 := Lib.hid (Sw1.out.ex ee (by have := NE.out; omega))
  have Gw3 := Lib.hid (Gw1.out.ex ee (by have := NE.out; omega))
  have Vw3 := Lib.hid (Vw1.out.ex ee (by have := NE.out; omega))
  have Kw3 := Lib.hid (hb1)
  have Xw3 := Lib.hid (Xw1.out.trans (ee.mono (fun k hk => hk.elim .inl (fun h => .inr (.inl h)))))
  clear ee hb1 hx1 Bw1 Sw1 Gw1 Vw1 Kw1 Xw1
  have q0 := Bw3.out.cell 0
  have q7 := Bw3.out.cell 7
  simp only [List.getElem?_toArray, List.getElem?_cons_succ, List.getElem?_cons_zero] at q0 q7
  have f7 := Bw3.out.frozen 7
  go_wp2_with fail
  clear q0 q7 f7
  have ee := ((Ex.refl (fun k => k = o) w3).setCell (q := ⟨o, 7, none⟩) (.inl rfl) (.int .i64 3))
  have bb := (Bw3.out.set_ 7 (.int .i64 3))
  simp only [List.setIfInBounds_toArray, List.set_cons_succ, List.set_cons_zero] at bb
  have Bwz := Lib.hid (bb)
  have Swz := Lib.hid (Sw3.out.ex ee (by have := NE.out; omega))
  have Gwz := Lib.hid (Gw3.out.ex ee (by have := NE.out; omega))
  have Vwz := Lib.hid (Vw3.out.ex ee (by have := NE.out; omega))
  have Kwz := Lib.hid (Kw3.out.ex ee (by have := NE.out; omega) (by have := NE.out; omega))
  have Xwz := Lib.hid (Xw3.out.trans (ee.mono (fun k hk => .inr (.inr (.inl hk)))))
  clear ee bb Bw3 Sw3 Gw3 Vw3 Kw3 Xw3
  first | rw [goOn_ret] | skip
  go_ret
  exact ⟨rfl, Kwz.out, ⟨Bwz.out, Swz.out, Gwz.out, by first | exact GL.out | (rw [List.length_set]; exact GL.out), Vwz.out, by first | exact WL.out | (rw [List.length_set]; exact WL.out), NE.out.2⟩, Xwz.out⟩

set_option maxRecDepth 100000 in
set_option maxHeartbeats 4000000 in
theorem SN_B (g h o rs cs rg rw n m : Nat) (ws : List Int) (t : Int) (l : Nat → Spot) (tries kk begun steps : Int) (gl wl : List Int) (j : Nat) (w : World) (hb : BankAt w g h ws t) (ho : SnAt w o rs cs rg rw n m l tries kk begun steps 0 gl wl) (hi : SInv n m l tries steps gl)
    (ne : o ≠ g ∧ o ≠ h ∧ rs ≠ g ∧ rs ≠ h ∧ rg ≠ g ∧ rg ≠ h ∧ rw ≠ g ∧ rw ≠ h) (hj : j < m) (hk : kk = (n : Int) + (j : Int)) (hin : inW ws (sPlace l gl n (j : Int))) :
    Calls Try.prog 17 #[.pointer (some ⟨o, 0, none⟩), .pointer (some ⟨g, 0, none⟩)] w fun e w' => e = .returned (.int .i64 0) ∧ BankAt w' g h ws (tickF ws (sPlace l gl n (j : Int)) t) ∧ SnAt w' o rs cs rg rw n m l (tries) (kk + 1) (begun) (steps + 1) 0 (gl) (wl.set j (wordF ws (sPlace l gl n (j : Int)))) ∧ Ex (fun k => k = g ∨ k = h ∨ k = o ∨ k = rg ∨ k = rw) w w' := by
  have B0 := Lib.hid ho.box
  have S0 := Lib.hid ho.spots
  have G0 := Lib.hid ho.gens
  have V0 := Lib.hid ho.words
  have GL := Lib.hid ho.glen
  have WL := Lib.hid ho.wlen
  have HO := Lib.hid ho
  have K0 := Lib.hid hb
  have X0 := Lib.hid (Ex.refl (fun k => k = g ∨ k = h ∨ k = o ∨ k = rg ∨ k = rw) w)
  have HI := Lib.hid hi
  have NE := Lib.hid (show (o ≠ g ∧ o ≠ h ∧ rs ≠ g ∧ rs ≠ h ∧ rg ≠ g ∧ rg ≠ h ∧ rw ≠ g ∧ rw ≠ h) ∧ rs ≠ o ∧ rg ≠ o ∧ rw ≠ o ∧ rs ≠ rg ∧ rs ≠ rw ∧ rg ≠ rw from ⟨ne, ho.apart⟩)
  have HRG := Lib.hid (fun i => wordF_range hb i)
  have hnm : wrap64 ((n : Int) + (m : Int)) = (n : Int) + (m : Int) := wrap64_in _ (by have := hi.n64; have := hi.m64; omega)
  have HIN := Lib.hid hin
  have HNUM := Lib.hid (step_nums (kk := kk) hi.n64 hi.m64 hi.st (by have := hi.n64; have := hi.m64; omega))
  have d1 : decide (kk < (n : Int)) = false := decide_eq_false (by omega)
  have d2 : decide (kk < (n : Int) + (m : Int)) = true := decide_eq_true (by omega)
  have h1 : wrap64 (kk - (n : Int)) = (j : Int) := by rw [wrap64_in _ (by have := hi.n64; have := hi.m64; omega)]; omega
  have JN := Lib.hid hj
  have HKK := Lib.hid hk
  clear ho hb hi ne hj hk hin
  have q0 := B0.out.cell 0
  have q7 := B0.out.cell 7
  simp only [List.getElem?_toArray, List.getElem?_cons_succ, List.getElem?_cons_zero] at q0 q7
  go_enter Try.func17, Try.ntmps17
  go_wp2_with fail
  refine wp_scope_ahead 2 (fun c0 HC => ?_)
  go_upto_region 5 with fail
  have hne : Nonempty (Held (fun W => W = w.drew)) := ⟨⟨_, rfl⟩⟩
  have p0 : ∀ y : Held (fun W => W = w.drew), y.w.cell? ⟨o, 0, none⟩ = some (.slice (some ⟨rs, 0, none⟩) n cs) := fun y => by rw [y.ok]; exact B0.out.cell 0
  have p4 : ∀ y : Held (fun W => W = w.drew), y.w.cell? ⟨o, 4, none⟩ = some (.slice (some ⟨rw, 0, none⟩) m m) := fun y => by rw [y.ok]; exact B0.out.cell 4
  refine drawn_bars (S := fun _ => True) [] [0, 1, 2, 3, 4, 5, 6, 7, 8, 9, 10, 11] (by kernel_rfl) (by kernel_rfl) (by kernel_rfl) rfl trivial ?_
  refine Phased.end_ ?_
  simp only [pick, List.map_cons, List.map_nil, List.getElem?_cons_zero, List.getElem?_cons_succ, Option.getD_some]
  repeat (go_big_quiet_step (fail))
  refine wpQuiet_nil ?_
  clear hne p0 p4
  clear q0 q7
  have HO1 := Lib.hid (HO.out.bl (Below.refl w.heap.size w).drew)
  clear HO
  have hdb := (Below.refl w.heap.size w).drew
  have Bw1 := Lib.hid (B0.out.bl hdb)
  have Sw1 := Lib.hid (S0.out.bl hdb)
  have Gw1 := Lib.hid (G0.out.bl hdb)
  have Vw1 := Lib.hid (V0.out.bl hdb)
  have Kw1 := Lib.hid (K0.out.below hdb)
  have Xw1 := Lib.hid (X0.out.trans (Ex.of_below hdb))
  clear hdb B0 S0 G0 V0 K0 X0
  generalize w.drew = w1 at *
  have q0 := Bw1.out.cell 0
  have q2 := Bw1.out.cell 2
  simp only [List.getElem?_toArray, List.getElem?_cons_succ, List.getElem?_cons_zero] at q0 q2
  go_wp2_with fail
  refine (place_any o rs cs rg rw n m l tries kk begun steps 0 gl wl (j : Int) w1 HO1.out HI.out.right HI.out.n64 HI.out.gens (by omega) (by have := HI.out.width; have := JN.out; omega)).mono ?_; rintro e w2 ⟨rfl, hb1⟩
  clear HO1
  clear q0 q2
  have Bw2 := Lib.hid (Bw1.out.bl hb1)
  have Sw2 := Lib.hid (Sw1.out.bl hb1)
  have Gw2 := Lib.hid (Gw1.out.bl hb1)
  have Vw2 := Lib.hid (Vw1.out.bl hb1)
  have Kw2 := Lib.hid (Kw1.out.below hb1)
  have Xw2 := Lib.hid (Xw1.out.trans (Ex.of_below hb1))
  clear hb1 Bw1 Sw1 Gw1 Vw1 Kw1 Xw1
  go_wp2_with fail
  refine (Load_any g h ws t (sPlace l gl n (j : Int)) w2 Kw2.out).mono ?_; rintro e w3 ⟨rfl, hb1, hx1⟩
  rw [errF_in HIN.out]
  have ee := Ex.of_ex2 (T := fun k => k = g ∨ k = h) hx1 (.inl rfl) (.inr rfl)
  have Bw3 := Lib.hid (Bw2.out.ex ee (by have := NE.out; omega))
  have Sw3 := Lib.hid (Sw2.out.ex ee (by have := NE.out; omega))
  have Gw3 := Lib.hid (Gw2.out.ex ee (by have := NE.out; omega))
  have Vw3 := Lib.hid (Vw2.out.ex ee (by have := NE.out; omega))
  have Kw3 := Lib.hid (hb1)
  have Xw3 := Lib.hid (Xw2.out.trans (ee.mono (fun k hk => hk.elim .inl (fun h => .inr (.inl h)))))
  clear ee hb1 hx1 Bw2 Sw2 Gw2 Vw2 Kw2 Xw2
  generalize hvv : wordF ws (sPlace l gl n (j : Int)) = v at *
  have HVV := Lib.hid hvv
  have HR := Lib.hid (show 0 ≤ v ∧ v ≤ 18446744073709551615 by rw [← hvv]; exact HRG.out _)
  clear hvv
  obtain ⟨hst, h2n, h2m, hk1⟩ := HNUM.out
  have q0 := Bw3.out.cell 0
  have q6 := Bw3.out.cell 6
  simp only [List.getElem?_toArray, List.getElem?_cons_succ, List.getElem?_cons_zero] at q0 q6
  have f6 := Bw3.out.frozen 6
  go_upto_region 23 with fail
  clear q0 q6 f6
  have ee := ((Ex.refl (fun k => k = o) w3).setCell (q := ⟨o, 6, none⟩) (.inl rfl) (.int .i64 (steps + 1)))
  have bb := (Bw3.out.set_ 6 (.int .i64 (steps + 1)))
  simp only [List.setIfInBounds_toArray, List.set_cons_succ, List.set_cons_zero] at bb
  have Bw4 := Lib.hid (bb)
  have Sw4 := Lib.hid (Sw3.out.ex ee (by have := NE.out; omega))
  have Gw4 := Lib.hid (Gw3.out.ex ee (by have := NE.out; omega))
  have Vw4 := Lib.hid (Vw3.out.ex ee (by have := NE.out; omega))
  have Kw4 := Lib.hid (Kw3.out.ex ee (by have := NE.out; omega) (by have := NE.out; omega))
  have Xw4 := Lib.hid (Xw3.out.trans (ee.mono (fun k hk => .inr (.inr (.inl hk)))))
  clear ee bb Bw3 Sw3 Gw3 Vw3 Kw3 Xw3
  generalize (w3.setCell ⟨o, 6, none⟩ (.int .i64 (steps + 1))) = w4 at *
  have j0 : (0 : Int) ≤ (j : Int) := by omega
  have j1 : (j : Int) < (m : Int) := by have := JN.out; omega
  have q0 := Bw4.out.cell 0
  have q4 := Bw4.out.cell 4
  simp only [List.getElem?_toArray, List.getElem?_cons_succ, List.getElem?_cons_zero] at q0 q4
  have qw := Vw4.out.word (by rw [WL.out]; exact JN.out)
  have fw := Blk.frozen Vw4.out j
  go_wp2_with fail
  clear q0 q4 qw fw
  have ee := ((Ex.refl (fun k => k = rw) w4).setCell (q := ⟨rw, j, none⟩) (.inl rfl) (.int .u64 v))
  have Bw5 := Lib.hid (Bw4.out.ex ee (by have := NE.out; omega))
  have Sw5 := Lib.hid (Sw4.out.ex ee (by have := NE.out; omega))
  have Gw5 := Lib.hid (Gw4.out.ex ee (by have := NE.out; omega))
  have Vw5 := Lib.hid (show URow (w4.setCell ⟨rw, j, none⟩ (.int .u64 v)) rw (wl.set j v) from Vw4.out.stored j v)
  have Kw5 := Lib.hid (Kw4.out.ex ee (by have := NE.out; omega) (by have := NE.out; omega))
  have Xw5 := Lib.hid (Xw4.out.trans (ee.mono (fun k hk => .inr (.inr (.inr (.inr hk))))))
  clear ee Bw4 Sw4 Gw4 Vw4 Kw4 Xw4
  generalize (w4.setCell ⟨rw, j, none⟩ (.int .u64 v)) = w5 at *
  refine wp_goto ?_
  show goOn Try.prog c0 _ 2 (.goto 0) _ _
  refine goOn_jump HC rfl ?_
  have kd : (kk + 1 == 2 * (n : Int) + (m : Int)) = false := beq_eq_false_iff_ne.2 (by have := JN.out; have := HKK.out; have := HI.out.n1; omega)
  have q0 := Bw5.out.cell 0
  have q2 := Bw5.out.cell 2
  have q7 := Bw5.out.cell 7
  simp only [List.getElem?_toArray, List.getElem?_cons_succ, List.getElem?_cons_zero] at q0 q2 q7
  have f2 := Bw5.out.frozen 2
  go_wp2_with fail
  clear q0 q2 q7 f2
  have ee := ((Ex.refl (fun k => k = o) w5).setCell (q := ⟨o, 2, none⟩) (.inl rfl) (.int .i64 (kk + 1)))
  have bb := (Bw5.out.set_ 2 (.int .i64 (kk + 1)))
  simp only [List.setIfInBounds_toArray, List.set_cons_succ, List.set_cons_zero] at bb
  have Bwz := Lib.hid (bb)
  have Swz := Lib.hid (Sw5.out.ex ee (by have := NE.out; omega))
  have Gwz := Lib.hid (Gw5.out.ex ee (by have := NE.out; omega))
  have Vwz := Lib.hid (Vw5.out.ex ee (by have := NE.out; omega))
  have Kwz := Lib.hid (Kw5.out.ex ee (by have := NE.out; omega) (by have := NE.out; omega))
  have Xwz := Lib.hid (Xw5.out.trans (ee.mono (fun k hk => .inr (.inr (.inl hk)))))
  clear ee bb Bw5 Sw5 Gw5 Vw5 Kw5 Xw5
  first | rw [goOn_ret] | skip
  go_ret
  rw [HVV.out]
  exact ⟨rfl, Kwz.out, ⟨Bwz.out, Swz.out, Gwz.out, by first | exact GL.out | (rw [List.length_set]; exact GL.out), Vwz.out, by first | exact WL.out | (rw [List.length_set]; exact WL.out), NE.out.2⟩, Xwz.out⟩

set_option maxRecDepth 100000 in
set_option maxHeartbeats 4000000 in
theorem SN_A (g h o rs cs rg rw n m : Nat) (ws : List Int) (t : Int) (l : Nat → Spot) (tries kk begun steps : Int) (gl wl : List Int) (j : Nat) (w : World) (hb : BankAt w g h ws t) (ho : SnAt w o rs cs rg rw n m l tries kk begun steps 0 gl wl) (hi : SInv n m l tries steps gl)
    (ne : o ≠ g ∧ o ≠ h ∧ rs ≠ g ∧ rs ≠ h ∧ rg ≠ g ∧ rg ≠ h ∧ rw ≠ g ∧ rw ≠ h) (hj : j < n) (hk : kk = (j : Int)) (hin : inW ws (l j).seq) (hv : ¬ (j : Int) + 1 = (n : Int)) :
    Calls Try.prog 17 #[.pointer (some ⟨o, 0, none⟩), .pointer (some ⟨g, 0, none⟩)] w fun e w' => e = .returned (.int .i64 0) ∧ BankAt w' g h ws (tickF ws ((l j).seq) t) ∧ SnAt w' o rs cs rg rw n m l (tries) (kk + 1) (begun) (steps + 1) 0 (gl.set j (wordF ws (l j).seq / 2)) (wl) ∧ Ex (fun k => k = g ∨ k = h ∨ k = o ∨ k = rg ∨ k = rw) w w' := by
  have B0 := Lib.hid ho.box
  have S0 := Lib.hid ho.spots
  have G0 := Lib.hid ho.gens
  have V0 := Lib.hid ho.words
  have GL := Lib.hid ho.glen
  have WL := Lib.hid ho.wlen
  have HO := Lib.hid ho
  have K0 := Lib.hid hb
  have X0 := Lib.hid (Ex.refl (fun k => k = g ∨ k = h ∨ k = o ∨ k = rg ∨ k = rw) w)
  have HI := Lib.hid hi
  have NE := Lib.hid (show (o ≠ g ∧ o ≠ h ∧ rs ≠ g ∧ rs ≠ h ∧ rg ≠ g ∧ rg ≠ h ∧ rw ≠ g ∧ rw ≠ h) ∧ rs ≠ o ∧ rg ≠ o ∧ rw ≠ o ∧ rs ≠ rg ∧ rs ≠ rw ∧ rg ≠ rw from ⟨ne, ho.apart⟩)
  have HRG := Lib.hid (fun i => wordF_range hb i)
  have hnm : wrap64 ((n : Int) + (m : Int)) = (n : Int) + (m : Int) := wrap64_in _ (by have := hi.n64; have := hi.m64; omega)
  have HIN := Lib.hid hin
  have HV := Lib.hid hv
  have HNUM := Lib.hid (step_nums (kk := (j : Int)) hi.n64 hi.m64 hi.st (by have := hi.n64; have := hi.m64; omega))
  have d1 : decide (kk < (n : Int)) = true := decide_eq_true (by omega)
  have i0 : (0 : Int) ≤ kk := by omega
  have i1 : kk < (n : Int) := by omega
  have JN := Lib.hid hj
  have HKK := Lib.hid hk
  clear ho hb hi ne hj hk hin hv
  have q0 := B0.out.cell 0
  have q7 := B0.out.cell 7
  simp only [List.getElem?_toArray, List.getElem?_cons_succ, List.getElem?_cons_zero] at q0 q7
  go_enter Try.func17, Try.ntmps17
  go_wp2_with fail
  refine wp_scope_ahead 2 (fun c0 HC => ?_)
  go_upto_region 5 with fail
  have hne : Nonempty (Held (fun W => W = w.drew)) := ⟨⟨_, rfl⟩⟩
  have p0 : ∀ y : Held (fun W => W = w.drew), y.w.cell? ⟨o, 0, none⟩ = some (.slice (some ⟨rs, 0, none⟩) n cs) := fun y => by rw [y.ok]; exact B0.out.cell 0
  have p4 : ∀ y : Held (fun W => W = w.drew), y.w.cell? ⟨o, 4, none⟩ = some (.slice (some ⟨rw, 0, none⟩) m m) := fun y => by rw [y.ok]; exact B0.out.cell 4
  refine drawn_bars (S := fun _ => True) [] [0, 1, 2, 3, 4, 5, 6, 7, 8, 9, 10, 11] (by kernel_rfl) (by kernel_rfl) (by kernel_rfl) rfl trivial ?_
  refine Phased.end_ ?_
  simp only [pick, List.map_cons, List.map_nil, List.getElem?_cons_zero, List.getElem?_cons_succ, Option.getD_some]
  repeat (go_big_quiet_step (fail))
  refine wpQuiet_nil ?_
  clear hne p0 p4
  clear q0 q7
  have HO1 := Lib.hid (HO.out.bl (Below.refl w.heap.size w).drew)
  clear HO
  have hdb := (Below.refl w.heap.size w).drew
  have Bw1 := Lib.hid (B0.out.bl hdb)
  have Sw1 := Lib.hid (S0.out.bl hdb)
  have Gw1 := Lib.hid (G0.out.bl hdb)
  have Vw1 := Lib.hid (V0.out.bl hdb)
  have Kw1 := Lib.hid (K0.out.below hdb)
  have Xw1 := Lib.hid (X0.out.trans (Ex.of_below hdb))
  clear hdb B0 S0 G0 V0 K0 X0
  generalize w.drew = w1 at *
  have q0 := Bw1.out.cell 0
  have q2 := Bw1.out.cell 2
  simp only [List.getElem?_toArray, List.getElem?_cons_succ, List.getElem?_cons_zero] at q0 q2
  obtain ⟨j0, hj0⟩ : ∃ j0 : Int, (j : Int) = j0 := ⟨_, rfl⟩
  obtain ⟨e0, e1, e2, e3, e4⟩ := Sw1.out.five JN.out
  have hkj := HKK.out
  subst hkj
  clear j0 hj0
  go_wp2_with fail
  clear HO1
  clear e0 e1 e2 e3 e4
  refine (Load_any g h ws t ((l j).seq) w1 Kw1.out).mono ?_; rintro e w3 ⟨rfl, hb1, hx1⟩
  rw [errF_in HIN.out]
  clear q0 q2
  have ee := Ex.of_ex2 (T := fun k => k = g ∨ k = h) hx1 (.inl rfl) (.inr rfl)
  have Bw3 := Lib.hid (Bw1.out.ex ee (by have := NE.out; omega))
  have Sw3 := Lib.hid (Sw1.out.ex ee (by have := NE.out; omega))
  have Gw3 := Lib.hid (Gw1.out.ex ee (by have := NE.out; omega))
  have Vw3 := Lib.hid (Vw1.out.ex ee (by have := NE.out; omega))
  have Kw3 := Lib.hid (hb1)
  have Xw3 := Lib.hid (Xw1.out.trans (ee.mono (fun k hk => hk.elim .inl (fun h => .inr (.inl h)))))
  clear ee hb1 hx1 Bw1 Sw1 Gw1 Vw1 Kw1 Xw1
  generalize hvv : wordF ws ((l j).seq) = v at *
  have HVV := Lib.hid hvv
  have HR := Lib.hid (show 0 ≤ v ∧ v ≤ 18446744073709551615 by rw [← hvv]; exact HRG.out _)
  clear hvv
  obtain ⟨hst, h2n, h2m, hk1⟩ := HNUM.out
  have q0 := Bw3.out.cell 0
  have q6 := Bw3.out.cell 6
  simp only [List.getElem?_toArray, List.getElem?_cons_succ, List.getElem?_cons_zero] at q0 q6
  have f6 := Bw3.out.frozen 6
  go_upto_region 19 with fail
  clear q0 q6 f6
  have ee := ((Ex.refl (fun k => k = o) w3).setCell (q := ⟨o, 6, none⟩) (.inl rfl) (.int .i64 (steps + 1)))
  have bb := (Bw3.out.set_ 6 (.int .i64 (steps + 1)))
  simp only [List.setIfInBounds_toArray, List.set_cons_succ, List.set_cons_zero] at bb
  have Bw4 := Lib.hid (bb)
  have Sw4 := Lib.hid (Sw3.out.ex ee (by have := NE.out; omega))
  have Gw4 := Lib.hid (Gw3.out.ex ee (by have := NE.out; omega))
  have Vw4 := Lib.hid (Vw3.out.ex ee (by have := NE.out; omega))
  have Kw4 := Lib.hid (Kw3.out.ex ee (by have := NE.out; omega) (by have := NE.out; omega))
  have Xw4 := Lib.hid (Xw3.out.trans (ee.mono (fun k hk => .inr (.inr (.inl hk)))))
  clear ee bb Bw3 Sw3 Gw3 Vw3 Kw3 Xw3
  generalize (w3.setCell ⟨o, 6, none⟩ (.int .i64 (steps + 1))) = w4 at *
  have hne : Nonempty (Held (fun W : World => W.cell? ⟨o, 0, none⟩ = some (.slice (some ⟨rs, 0, none⟩) n cs) ∧ W.cell? ⟨o, 3, none⟩ = some (.slice (some ⟨rg, 0, none⟩) n n))) := ⟨⟨w4, ⟨Bw4.out.cell 0, Bw4.out.cell 3⟩⟩⟩
  have p0 : ∀ y : Held (fun W : World => W.cell? ⟨o, 0, none⟩ = some (.slice (some ⟨rs, 0, none⟩) n cs) ∧ W.cell? ⟨o, 3, none⟩ = some (.slice (some ⟨rg, 0, none⟩) n n)), y.w.cell? ⟨o, 0, none⟩ = some (.slice (some ⟨rs, 0, none⟩) n cs) := fun y => y.ok.1
  have p3 : ∀ y : Held (fun W : World => W.cell? ⟨o, 0, none⟩ = some (.slice (some ⟨rs, 0, none⟩) n cs) ∧ W.cell? ⟨o, 3, none⟩ = some (.slice (some ⟨rg, 0, none⟩) n n)), y.w.cell? ⟨o, 3, none⟩ = some (.slice (some ⟨rg, 0, none⟩) n n) := fun y => y.ok.2
  refine drawn_bars (S := (fun W : World => W.cell? ⟨o, 0, none⟩ = some (.slice (some ⟨rs, 0, none⟩) n cs) ∧ W.cell? ⟨o, 3, none⟩ = some (.slice (some ⟨rg, 0, none⟩) n n))) [([0, 1, 2, 3, 4, 5], 6), ([7], 8)] [] (by kernel_rfl) (by kernel_rfl) (by kernel_rfl) rfl ⟨Bw4.out.cell 0, Bw4.out.cell 3⟩ ?_
  refine Phased.go ?_
  simp only [pick, List.map_cons, List.map_nil, List.getElem?_cons_zero, List.getElem?_cons_succ, Option.getD_some]
  repeat (go_big_quiet_step (fail))
  refine wpQuiet_nil ?_
  go_wp2_with fail
  refine (Gen_any _ _).mono ?_; rintro e w5 ⟨rfl, rfl⟩
  go_wp2_with fail
  have hdb := (Below.refl w4.heap.size w4).drew
  have Bw5 := Lib.hid (Bw4.out.bl hdb)
  have Sw5 := Lib.hid (Sw4.out.bl hdb)
  have Gw5 := Lib.hid (Gw4.out.bl hdb)
  have Vw5 := Lib.hid (Vw4.out.bl hdb)
  have Kw5 := Lib.hid (Kw4.out.below hdb)
  have Xw5 := Lib.hid (Xw4.out.trans (Ex.of_below hdb))
  clear hdb Bw4 Sw4 Gw4 Vw4 Kw4 Xw4
  generalize w4.drew = w5 at *
  refine behind_normal ⟨(fun W : World => W.cell? ⟨o, 0, none⟩ = some (.slice (some ⟨rs, 0, none⟩) n cs) ∧ W.cell? ⟨o, 3, none⟩ = some (.slice (some ⟨rg, 0, none⟩) n n)), fun W h => h, ⟨Bw5.out.cell 0, Bw5.out.cell 3⟩, ?_⟩
  refine Phased.go ?_
  simp only [pick, List.map_cons, List.map_nil, List.getElem?_cons_zero, List.getElem?_cons_succ, Option.getD_some]
  repeat (go_big_quiet_step (fail))
  refine wpQuiet_nil ?_
  have qw := Gw5.out.word (by rw [GL.out]; exact JN.out)
  have fw := Blk.frozen Gw5.out j
  go_wp2_with fail
  clear qw fw
  have ee := ((Ex.refl (fun k => k = rg) w5).setCell (q := ⟨rg, j, none⟩) (.inl rfl) (.int .u64 (v / 2)))
  have Bw6 := Lib.hid (Bw5.out.ex ee (by have := NE.out; omega))
  have Sw6 := Lib.hid (Sw5.out.ex ee (by have := NE.out; omega))
  have Gw6 := Lib.hid (show URow (w5.setCell ⟨rg, j, none⟩ (.int .u64 (v / 2))) rg (gl.set j (v / 2)) from Gw5.out.stored j (v / 2))
  have Vw6 := Lib.hid (Vw5.out.ex ee (by have := NE.out; omega))
  have Kw6 := Lib.hid (Kw5.out.ex ee (by have := NE.out; omega) (by have := NE.out; omega))
  have Xw6 := Lib.hid (Xw5.out.trans (ee.mono (fun k hk => .inr (.inr (.inr (.inl hk))))))
  clear ee Bw5 Sw5 Gw5 Vw5 Kw5 Xw5
  generalize (w5.setCell ⟨rg, j, none⟩ (.int .u64 (v / 2))) = w6 at *
  refine behind_normal ⟨(fun W : World => W.cell? ⟨o, 0, none⟩ = some (.slice (some ⟨rs, 0, none⟩) n cs) ∧ W.cell? ⟨o, 3, none⟩ = some (.slice (some ⟨rg, 0, none⟩) n n)), fun W h => h, ⟨Bw6.out.cell 0, Bw6.out.cell 3⟩, ?_⟩
  refine Phased.end_ ?_
  simp only [pick, List.map_cons, List.map_nil, List.getElem?_cons_zero, List.getElem?_cons_succ, Option.getD_some]
  repeat (go_big_quiet_step (fail))
  refine wpQuiet_nil ?_
  clear hne p0 p3
  have kl : ((j : Int) + 1 == (n : Int)) = false := beq_eq_false_iff_ne.2 HV.out
  have q0 := Bw6.out.cell 0
  simp only [List.getElem?_toArray, List.getElem?_cons_succ, List.getElem?_cons_zero] at q0
  go_wp2_with fail
  clear q0
  refine wp_goto ?_
  show goOn Try.prog c0 _ 2 (.goto 0) _ _
  refine goOn_jump HC rfl ?_
  have kd : ((j : Int) + 1 == 2 * (n : Int) + (m : Int)) = false := beq_eq_false_iff_ne.2 (by have := JN.out; have := HI.out.n1; omega)
  have q0 := Bw6.out.cell 0
  have q2 := Bw6.out.cell 2
  have q7 := Bw6.out.cell 7
  simp only [List.getElem?_toArray, List.getElem?_cons_succ, List.getElem?_cons_zero] at q0 q2 q7
  have f2 := Bw6.out.frozen 2
  go_wp2_with fail
  clear q0 q2 q7 f2
  have ee := ((Ex.refl (fun k => k = o) w6).setCell (q := ⟨o, 2, none⟩) (.inl rfl) (.int .i64 ((j : Int) + 1)))
  have bb := (Bw6.out.set_ 2 (.int .i64 ((j : Int) + 1)))
  simp only [List.setIfInBounds_toArray, List.set_cons_succ, List.set_cons_zero] at bb
  have Bwz := Lib.hid (bb)
  have Swz := Lib.hid (Sw6.out.ex ee (by have := NE.out; omega))
  have Gwz := Lib.hid (Gw6.out.ex ee (by have := NE.out; omega))
  have Vwz := Lib.hid (Vw6.out.ex ee (by have := NE.out; omega))
  have Kwz := Lib.hid (Kw6.out.ex ee (by have := NE.out; omega) (by have := NE.out; omega))
  have Xwz := Lib.hid (Xw6.out.trans (ee.mono (fun k hk => .inr (.inr (.inl hk)))))
  clear ee bb Bw6 Sw6 Gw6 Vw6 Kw6 Xw6
  first | rw [goOn_ret] | skip
  go_ret
  rw [HVV.out]
  exact ⟨rfl, Kwz.out, ⟨Bwz.out, Swz.out, Gwz.out, by first | exact GL.out | (rw [List.length_set]; exact GL.out), Vwz.out, by first | exact WL.out | (rw [List.length_set]; exact WL.out), NE.out.2⟩, Xwz.out⟩

set_option maxRecDepth 100000 in
set_option maxHeartbeats 4000000 in
theorem SN_Al (g h o rs cs rg rw n m : Nat) (ws : List Int) (t : Int) (l : Nat → Spot) (tries kk begun steps : Int) (gl wl : List Int) (j : Nat) (w : World) (hb : BankAt w g h ws t) (ho : SnAt w o rs cs rg rw n m l tries kk begun steps 0 gl wl) (hi : SInv n m l tries steps gl)
    (ne : o ≠ g ∧ o ≠ h ∧ rs ≠ g ∧ rs ≠ h ∧ rg ≠ g ∧ rg ≠ h ∧ rw ≠ g ∧ rw ≠ h) (hj : j < n) (hk : kk = (j : Int)) (hin : inW ws (l j).seq) (hv : (j : Int) + 1 = (n : Int)) :
    Calls Try.prog 17 #[.pointer (some ⟨o, 0, none⟩), .pointer (some ⟨g, 0, none⟩)] w fun e w' => e = .returned (.int .i64 0) ∧ BankAt w' g h ws (tickF ws ((l j).seq) t) ∧ SnAt w' o rs cs rg rw n m l (tries) (kk + 1) (steps + 1) (steps + 1) 0 (gl.set j (wordF ws (l j).seq / 2)) (wl) ∧ Ex (fun k => k = g ∨ k = h ∨ k = o ∨ k = rg ∨ k = rw) w w' := by
  have B0 := Lib.hid ho.box
  have S0 := Lib.hid ho.spots
  have G0 := Lib.hid ho.gens
  have V0 := Lib.hid ho.words
  have GL := Lib.hid ho.glen
  have WL := Lib.hid ho.wlen
  have HO := Lib.hid ho
  have K0 := Lib.hid hb
  have X0 := Lib.hid (Ex.refl (fun k => k = g ∨ k = h ∨ k = o ∨ k = rg ∨ k = rw) w)
  have HI := Lib.hid hi
  have NE := Lib.hid (show (o ≠ g ∧ o ≠ h ∧ rs ≠ g ∧ rs ≠ h ∧ rg ≠ g ∧ rg ≠ h ∧ rw ≠ g ∧ rw ≠ h) ∧ rs ≠ o ∧ rg ≠ o ∧ rw ≠ o ∧ rs ≠ rg ∧ rs ≠ rw ∧ rg ≠ rw from ⟨ne, ho.apart⟩)
  have HRG := Lib.hid (fun i => wordF_range hb i)
  have hnm : wrap64 ((n : Int) + (m : Int)) = (n : Int) + (m : Int) := wrap64_in _ (by have := hi.n64; have := hi.m64; omega)
  have HIN := Lib.hid hin
  have HV := Lib.hid hv
  have HNUM := Lib.hid (step_nums (kk := (j : Int)) hi.n64 hi.m64 hi.st (by have := hi.n64; have := hi.m64; omega))
  have d1 : decide (kk < (n : Int)) = true := decide_eq_true (by omega)
  have i0 : (0 : Int) ≤ kk := by omega
  have i1 : kk < (n : Int) := by omega
  have JN := Lib.hid hj
  have HKK := Lib.hid hk
  clear ho hb hi ne hj hk hin hv
  have q0 := B0.out.cell 0
  have q7 := B0.out.cell 7
  simp only [List.getElem?_toArray, List.getElem?_cons_succ, List.getElem?_cons_zero] at q0 q7
  go_enter Try.func17, Try.ntmps17
  go_wp2_with fail
  refine wp_scope_ahead 2 (fun c0 HC => ?_)
  go_upto_region 5 with fail
  have hne : Nonempty (Held (fun W => W = w.drew)) := ⟨⟨_, rfl⟩⟩
  have p0 : ∀ y : Held (fun W => W = w.drew), y.w.cell? ⟨o, 0, none⟩ = some (.slice (some ⟨rs, 0, none⟩) n cs) := fun y => by rw [y.ok]; exact B0.out.cell 0
  have p4 : ∀ y : Held (fun W => W = w.drew), y.w.cell? ⟨o, 4, none⟩ = some (.slice (some ⟨rw, 0, none⟩) m m) := fun y => by rw [y.ok]; exact B0.out.cell 4
  refine drawn_bars (S := fun _ => True) [] [0, 1, 2, 3, 4, 5, 6, 7, 8, 9, 10, 11] (by kernel_rfl) (by kernel_rfl) (by kernel_rfl) rfl trivial ?_
  refine Phased.end_ ?_
  simp only [pick, List.map_cons, List.map_nil, List.getElem?_cons_zero, List.getElem?_cons_succ, Option.getD_some]
  repeat (go_big_quiet_step (fail))
  refine wpQuiet_nil ?_
  clear hne p0 p4
  clear q0 q7
  have HO1 := Lib.hid (HO.out.bl (Below.refl w.heap.size w).drew)
  clear HO
  have hdb := (Below.refl w.heap.size w).drew
  have Bw1 := Lib.hid (B0.out.bl hdb)
  have Sw1 := Lib.hid (S0.out.bl hdb)
  have Gw1 := Lib.hid (G0.out.bl hdb)
  have Vw1 := Lib.hid (V0.out.bl hdb)
  have Kw1 := Lib.hid (K0.out.below hdb)
  have Xw1 := Lib.hid (X0.out.trans (Ex.of_below hdb))
  clear hdb B0 S0 G0 V0 K0 X0
  generalize w.drew = w1 at *
  have q0 := Bw1.out.cell 0
  have q2 := Bw1.out.cell 2
  simp only [List.getElem?_toArray, List.getElem?_cons_succ, List.getElem?_cons_zero] at q0 q2
  obtain ⟨j0, hj0⟩ : ∃ j0 : Int, (j : Int) = j0 := ⟨_, rfl⟩
  obtain ⟨e0, e1, e2, e3, e4⟩ := Sw1.out.five JN.out
  have hkj := HKK.out
  subst hkj
  clear j0 hj0
  go_wp2_with fail
  clear HO1
  clear e0 e1 e2 e3 e4
  refine (Load_any g h ws t ((l j).seq) w1 Kw1.out).mono ?_; rintro e w3 ⟨rfl, hb1, hx1⟩
  rw [errF_in HIN.out]
  clear q0 q2
  have ee := Ex.of_ex2 (T := fun k => k = g ∨ k = h) hx1 (.inl rfl) (.inr rfl)
  have Bw3 := Lib.hid (Bw1.out.ex ee (by have := NE.out; omega))
  have Sw3 := Lib.hid (Sw1.out.ex ee (by have := NE.out; omega))
  have Gw3 := Lib.hid (Gw1.out.ex ee (by have := NE.out; omega))
  have Vw3 := Lib.hid (Vw1.out.ex ee (by have := NE.out; omega))
  have Kw3 := Lib.hid (hb1)
  have Xw3 := Lib.hid (Xw1.out.trans (ee.mono (fun k hk => hk.elim .inl (fun h => .inr (.inl h)))))
  clear ee hb1 hx1 Bw1 Sw1 Gw1 Vw1 Kw1 Xw1
  generalize hvv : wordF ws ((l j).seq) = v at *
  have HVV := Lib.hid hvv
  have HR := Lib.hid (show 0 ≤ v ∧ v ≤ 18446744073709551615 by rw [← hvv]; exact HRG.out _)
  clear hvv
  obtain ⟨hst, h2n, h2m, hk1⟩ := HNUM.out
  have q0 := Bw3.out.cell 0
  have q6 := Bw3.out.cell 6
  simp only [List.getElem?_toArray, List.getElem?_cons_succ, List.getElem?_cons_zero] at q0 q6
  have f6 := Bw3.out.frozen 6
  go_upto_region 19 with fail
  clear q0 q6 f6
  have ee := ((Ex.refl (fun k => k = o) w3).setCell (q := ⟨o, 6, none⟩) (.inl rfl) (.int .i64 (steps + 1)))
  have bb := (Bw3.out.set_ 6 (.int .i64 (steps + 1)))
  simp only [List.setIfInBounds_toArray, List.set_cons_succ, List.set_cons_zero] at bb
  have Bw4 := Lib.hid (bb)
  have Sw4 := Lib.hid (Sw3.out.ex ee (by have := NE.out; omega))
  have Gw4 := Lib.hid (Gw3.out.ex ee (by have := NE.out; omega))
  have Vw4 := Lib.hid (Vw3.out.ex ee (by have := NE.out; omega))
  have Kw4 := Lib.hid (Kw3.out.ex ee (by have := NE.out; omega) (by have := NE.out; omega))
  have Xw4 := Lib.hid (Xw3.out.trans (ee.mono (fun k hk => .inr (.inr (.inl hk)))))
  clear ee bb Bw3 Sw3 Gw3 Vw3 Kw3 Xw3
  generalize (w3.setCell ⟨o, 6, none⟩ (.int .i64 (steps + 1))) = w4 at *
  have hne : Nonempty (Held (fun W : World => W.cell? ⟨o, 0, none⟩ = some (.slice (some ⟨rs, 0, none⟩) n cs) ∧ W.cell? ⟨o, 3, none⟩ = some (.slice (some ⟨rg, 0, none⟩) n n))) := ⟨⟨w4, ⟨Bw4.out.cell 0, Bw4.out.cell 3⟩⟩⟩
  have p0 : ∀ y : Held (fun W : World => W.cell? ⟨o, 0, none⟩ = some (.slice (some ⟨rs, 0, none⟩) n cs) ∧ W.cell? ⟨o, 3, none⟩ = some (.slice (some ⟨rg, 0, none⟩) n n)), y.w.cell? ⟨o, 0, none⟩ = some (.slice (some ⟨rs, 0, none⟩) n cs) := fun y => y.ok.1
  have p3 : ∀ y : Held (fun W : World => W.cell? ⟨o, 0, none⟩ = some (.slice (some ⟨rs, 0, none⟩) n cs) ∧ W.cell? ⟨o, 3, none⟩ = some (.slice (some ⟨rg, 0, none⟩) n n)), y.w.cell? ⟨o, 3, none⟩ = some (.slice (some ⟨rg, 0, none⟩) n n) := fun y => y.ok.2
  refine drawn_bars (S := (fun W : World => W.cell? ⟨o, 0, none⟩ = some (.slice (some ⟨rs, 0, none⟩) n cs) ∧ W.cell? ⟨o, 3, none⟩ = some (.slice (some ⟨rg, 0, none⟩) n n))) [([0, 1, 2, 3, 4, 5], 6), ([7], 8)] [] (by kernel_rfl) (by kernel_rfl) (by kernel_rfl) rfl ⟨Bw4.out.cell 0, Bw4.out.cell 3⟩ ?_
  refine Phased.go ?_
  simp only [pick, List.map_cons, List.map_nil, List.getElem?_cons_zero, List.getElem?_cons_succ, Option.getD_some]
  repeat (go_big_quiet_step (fail))
  refine wpQuiet_nil ?_
  go_wp2_with fail
  refine (Gen_any _ _).mono ?_; rintro e w5 ⟨rfl, rfl⟩
  go_wp2_with fail
  have hdb := (Below.refl w4.heap.size w4).drew
  have Bw5 := Lib.hid (Bw4.out.bl hdb)
  have Sw5 := Lib.hid (Sw4.out.bl hdb)
  have Gw5 := Lib.hid (Gw4.out.bl hdb)
  have Vw5 := Lib.hid (Vw4.out.bl hdb)
  have Kw5 := Lib.hid (Kw4.out.below hdb)
  have Xw5 := Lib.hid (Xw4.out.trans (Ex.of_below hdb))
  clear hdb Bw4 Sw4 Gw4 Vw4 Kw4 Xw4
  generalize w4.drew = w5 at *
  refine behind_normal ⟨(fun W : World => W.cell? ⟨o, 0, none⟩ = some (.slice (some ⟨rs, 0, none⟩) n cs) ∧ W.cell? ⟨o, 3, none⟩ = some (.slice (some ⟨rg, 0, none⟩) n n)), fun W h => h, ⟨Bw5.out.cell 0, Bw5.out.cell 3⟩, ?_⟩
  refine Phased.go ?_
  simp only [pick, List.map_cons, List.map_nil, List.getElem?_cons_zero, List.getElem?_cons_succ, Option.getD_some]
  repeat (go_big_quiet_step (fail))
  refine wpQuiet_nil ?_
  have qw := Gw5.out.word (by rw [GL.out]; exact JN.out)
  have fw := Blk.frozen Gw5.out j
  go_wp2_with fail
  clear qw fw
  have ee := ((Ex.refl (fun k => k = rg) w5).setCell (q := ⟨rg, j, none⟩) (.inl rfl) (.int .u64 (v / 2)))
  have Bw6 := Lib.hid (Bw5.out.ex ee (by have := NE.out; omega))
  have Sw6 := Lib.hid (Sw5.out.ex ee (by have := NE.out; omega))
  have Gw6 := Lib.hid (show URow (w5.setCell ⟨rg, j, none⟩ (.int .u64 (v / 2))) rg (gl.set j (v / 2)) from Gw5.out.stored j (v / 2))
  have Vw6 := Lib.hid (Vw5.out.ex ee (by have := NE.out; omega))
  have Kw6 := Lib.hid (Kw5.out.ex ee (by have := NE.out; omega) (by have := NE.out; omega))
  have Xw6 := Lib.hid (Xw5.out.trans (ee.mono (fun k hk => .inr (.inr (.inr (.inl hk))))))
  clear ee Bw5 Sw5 Gw5 Vw5 Kw5 Xw5
  generalize (w5.setCell ⟨rg, j, none⟩ (.int .u64 (v / 2))) = w6 at *
  refine behind_normal ⟨(fun W : World => W.cell? ⟨o, 0, none⟩ = some (.slice (some ⟨rs, 0, none⟩) n cs) ∧ W.cell? ⟨o, 3, none⟩ = some (.slice (some ⟨rg, 0, none⟩) n n)), fun W h => h, ⟨Bw6.out.cell 0, Bw6.out.cell 3⟩, ?_⟩
  refine Phased.end_ ?_
  simp only [pick, List.map_cons, List.map_nil, List.getElem?_cons_zero, List.getElem?_cons_succ, Option.getD_some]
  repeat (go_big_quiet_step (fail))
  refine wpQuiet_nil ?_
  clear hne p0 p3
  have kl : ((j : Int) + 1 == (n : Int)) = true := beq_iff_eq.2 HV.out
  have q0 := Bw6.out.cell 0
  have q5 := Bw6.out.cell 5
  have q6 := Bw6.out.cell 6
  simp only [List.getElem?_toArray, List.getElem?_cons_succ, List.getElem?_cons_zero] at q0 q5 q6
  have f5 := Bw6.out.frozen 5
  go_wp2_with fail
  clear q0 q5 q6 f5
  have ee := ((Ex.refl (fun k => k = o) w6).setCell (q := ⟨o, 5, none⟩) (.inl rfl) (.int .i64 (steps + 1)))
  have bb := (Bw6.out.set_ 5 (.int .i64 (steps + 1)))
  simp only [List.setIfInBounds_toArray, List.set_cons_succ, List.set_cons_zero] at bb
  have Bw7 := Lib.hid (bb)
  have Sw7 := Lib.hid (Sw6.out.ex ee (by have := NE.out; omega))
  have Gw7 := Lib.hid (Gw6.out.ex ee (by have := NE.out; omega))
  have Vw7 := Lib.hid (Vw6.out.ex ee (by have := NE.out; omega))
  have Kw7 := Lib.hid (Kw6.out.ex ee (by have := NE.out; omega) (by have := NE.out; omega))
  have Xw7 := Lib.hid (Xw6.out.trans (ee.mono (fun k hk => .inr (.inr (.inl hk)))))
  clear ee bb Bw6 Sw6 Gw6 Vw6 Kw6 Xw6
  generalize (w6.setCell ⟨o, 5, none⟩ (.int .i64 (steps + 1))) = w7 at *
  refine wp_goto ?_
  show goOn Try.prog c0 _ 2 (.goto 0) _ _
  refine goOn_jump HC rfl ?_
  have kd : ((j : Int) + 1 == 2 * (n : Int) + (m : Int)) = false := beq_eq_false_iff_ne.2 (by have := JN.out; have := HI.out.n1; omega)
  have q0 := Bw7.out.cell 0
  have q2 := Bw7.out.cell 2
  have q7 := Bw7.out.cell 7
  simp only [List.getElem?_toArray, List.getElem?_cons_succ, List.getElem?_cons_zero] at q0 q2 q7
  have f2 := Bw7.out.frozen 2
  go_wp2_with fail
  clear q0 q2 q7 f2
  have ee := ((Ex.refl (fun k => k = o) w7).setCell (q := ⟨o, 2, none⟩) (.inl rfl) (.int .i64 ((j : Int) + 1)))
  have bb := (Bw7.out.set_ 2 (.int .i64 ((j : Int) + 1)))
  simp only [List.setIfInBounds_toArray, List.set_cons_succ, List.set_cons_zero] at bb
  have Bwz := Lib.hid (bb)
  have Swz := Lib.hid (Sw7.out.ex ee (by have := NE.out; omega))
  have Gwz := Lib.hid (Gw7.out.ex ee (by have := NE.out; omega))
  have Vwz := Lib.hid (Vw7.out.ex ee (by have := NE.out; omega))
  have Kwz := Lib.hid (Kw7.out.ex ee (by have := NE.out; omega) (by have := NE.out; omega))
  have Xwz := Lib.hid (Xw7.out.trans (ee.mono (fun k hk => .inr (.inr (.inl hk)))))
  clear ee bb Bw7 Sw7 Gw7 Vw7 Kw7 Xw7
  first | rw [goOn_ret] | skip
  go_ret
  rw [HVV.out]
  exact ⟨rfl, Kwz.out, ⟨Bwz.out, Swz.out, Gwz.out, by first | exact GL.out | (rw [List.length_set]; exact GL.out), Vwz.out, by first | exact WL.out | (rw [List.length_set]; exact WL.out), NE.out.2⟩, Xwz.out⟩

set_option maxRecDepth 100000 in
set_option maxHeartbeats 4000000 in
theorem SN_Cm (g h o rs cs rg rw n m : Nat) (ws : List Int) (t : Int) (l : Nat → Spot) (tries kk begun steps : Int) (gl wl : List Int) (j : Nat) (w : World) (hb : BankAt w g h ws t) (ho : SnAt w o rs cs rg rw n m l tries kk begun steps 0 gl wl) (hi : SInv n m l tries steps gl)
    (ne : o ≠ g ∧ o ≠ h ∧ rs ≠ g ∧ rs ≠ h ∧ rg ≠ g ∧ rg ≠ h ∧ rw ≠ g ∧ rw ≠ h) (hj : j < n) (hk : kk = (n : Int) + (m : Int) + (j : Int)) (hin : inW ws (l j).seq) (hk2 : wordF ws (l j).seq / 2 = nth gl j) (hv : ¬ kk + 1 = 2 * (n : Int) + (m : Int)) :
    Calls Try.prog 17 #[.pointer (some ⟨o, 0, none⟩), .pointer (some ⟨g, 0, none⟩)] w fun e w' => e = .returned (.int .i64 0) ∧ BankAt w' g h ws (tickF ws ((l j).seq) t) ∧ SnAt w' o rs cs rg rw n m l (tries) (kk + 1) (begun) (steps + 1) 0 (gl) (wl) ∧ Ex (fun k => k = g ∨ k = h ∨ k = o ∨ k = rg ∨ k = rw) w w' := by
  have B0 := Lib.hid ho.box
  have S0 := Lib.hid ho.spots
  have G0 := Lib.hid ho.gens
  have V0 := Lib.hid ho.words
  have GL := Lib.hid ho.glen
  have WL := Lib.hid ho.wlen
  have HO := Lib.hid ho
  have K0 := Lib.hid hb
  have X0 := Lib.hid (Ex.refl (fun k => k = g ∨ k = h ∨ k = o ∨ k = rg ∨ k = rw) w)
  have HI := Lib.hid hi
  have NE := Lib.hid (show (o ≠ g ∧ o ≠ h ∧ rs ≠ g ∧ rs ≠ h ∧ rg ≠ g ∧ rg ≠ h ∧ rw ≠ g ∧ rw ≠ h) ∧ rs ≠ o ∧ rg ≠ o ∧ rw ≠ o ∧ rs ≠ rg ∧ rs ≠ rw ∧ rg ≠ rw from ⟨ne, ho.apart⟩)
  have HRG := Lib.hid (fun i => wordF_range hb i)
  have hnm : wrap64 ((n : Int) + (m : Int)) = (n : Int) + (m : Int) := wrap64_in _ (by have := hi.n64; have := hi.m64; omega)
  have HIN := Lib.hid hin
  have HK2 := Lib.hid hk2
  have HV := Lib.hid hv
  have HNUM := Lib.hid (step_nums (kk := kk) hi.n64 hi.m64 hi.st (by have := hi.n64; have := hi.m64; omega))
  have d1 : decide (kk < (n : Int)) = false := decide_eq_false (by omega)
  have d2 : decide (kk < (n : Int) + (m : Int)) = false := decide_eq_false (by omega)
  have h1 : wrap64 (kk - (n : Int)) = kk - (n : Int) := wrap64_in _ (by have := hi.n64; have := hi.m64; omega)
  have h2 : wrap64 (kk - (n : Int) - (m : Int)) = (j : Int) := by rw [wrap64_in _ (by have := hi.n64; have := hi.m64; omega)]; omega
  have i0 : (0 : Int) ≤ (j : Int) := by omega
  have i1 : (j : Int) < (n : Int) := by omega
  have JN := Lib.hid hj
  have HKK := Lib.hid hk
  clear ho hb hi ne hj hk hin hk2 hv
  have q0 := B0.out.cell 0
  have q7 := B0.out.cell 7
  simp only [List.getElem?_toArray, List.getElem?_cons_succ, List.getElem?_cons_zero] at q0 q7
  go_enter Try.func17, Try.ntmps17
  go_wp2_with fail
  refine wp_scope_ahead 2 (fun c0 HC => ?_)
  go_upto_region 5 with fail
  have hne : Nonempty (Held (fun W => W = w.drew)) := ⟨⟨_, rfl⟩⟩
  have p0 : ∀ y : Held (fun W => W = w.drew), y.w.cell? ⟨o, 0, none⟩ = some (.slice (some ⟨rs, 0, none⟩) n cs) := fun y => by rw [y.ok]; exact B0.out.cell 0
  have p4 : ∀ y : Held (fun W => W = w.drew), y.w.cell? ⟨o, 4, none⟩ = some (.slice (some ⟨rw, 0, none⟩) m m) := fun y => by rw [y.ok]; exact B0.out.cell 4
  refine drawn_bars (S := fun _ => True) [] [0, 1, 2, 3, 4, 5, 6, 7, 8, 9, 10, 11] (by kernel_rfl) (by kernel_rfl) (by kernel_rfl) rfl trivial ?_
  refine Phased.end_ ?_
  simp only [pick, List.map_cons, List.map_nil, List.getElem?_cons_zero, List.getElem?_cons_succ, Option.getD_some]
  repeat (go_big_quiet_step (fail))
  refine wpQuiet_nil ?_
  clear hne p0 p4
  clear q0 q7
  have HO1 := Lib.hid (HO.out.bl (Below.refl w.heap.size w).drew)
  clear HO
  have hdb := (Below.refl w.heap.size w).drew
  have Bw1 := Lib.hid (B0.out.bl hdb)
  have Sw1 := Lib.hid (S0.out.bl hdb)
  have Gw1 := Lib.hid (G0.out.bl hdb)
  have Vw1 := Lib.hid (V0.out.bl hdb)
  have Kw1 := Lib.hid (K0.out.below hdb)
  have Xw1 := Lib.hid (X0.out.trans (Ex.of_below hdb))
  clear hdb B0 S0 G0 V0 K0 X0
  generalize w.drew = w1 at *
  have q0 := Bw1.out.cell 0
  have q2 := Bw1.out.cell 2
  simp only [List.getElem?_toArray, List.getElem?_cons_succ, List.getElem?_cons_zero] at q0 q2
  obtain ⟨e0, e1, e2, e3, e4⟩ := Sw1.out.five JN.out
  go_wp2_with fail
  clear HO1
  clear e0 e1 e2 e3 e4
  refine (Load_any g h ws t ((l j).seq) w1 Kw1.out).mono ?_; rintro e w3 ⟨rfl, hb1, hx1⟩
  rw [errF_in HIN.out]
  clear q0 q2
  have ee := Ex.of_ex2 (T := fun k => k = g ∨ k = h) hx1 (.inl rfl) (.inr rfl)
  have Bw3 := Lib.hid (Bw1.out.ex ee (by have := NE.out; omega))
  have Sw3 := Lib.hid (Sw1.out.ex ee (by have := NE.out; omega))
  have Gw3 := Lib.hid (Gw1.out.ex ee (by have := NE.out; omega))
  have Vw3 := Lib.hid (Vw1.out.ex ee (by have := NE.out; omega))
  have Kw3 := Lib.hid (hb1)
  have Xw3 := Lib.hid (Xw1.out.trans (ee.mono (fun k hk => hk.elim .inl (fun h => .inr (.inl h)))))
  clear ee hb1 hx1 Bw1 Sw1 Gw1 Vw1 Kw1 Xw1
  generalize hvv : wordF ws ((l j).seq) = v at *
  have HVV := Lib.hid hvv
  have HR := Lib.hid (show 0 ≤ v ∧ v ≤ 18446744073709551615 by rw [← hvv]; exact HRG.out _)
  clear hvv
  obtain ⟨hst, h2n, h2m, hk1⟩ := HNUM.out
  have q0 := Bw3.out.cell 0
  have q6 := Bw3.out.cell 6
  simp only [List.getElem?_toArray, List.getElem?_cons_succ, List.getElem?_cons_zero] at q0 q6
  have f6 := Bw3.out.frozen 6
  go_upto_region 24 with fail
  clear q0 q6 f6
  have ee := ((Ex.refl (fun k => k = o) w3).setCell (q := ⟨o, 6, none⟩) (.inl rfl) (.int .i64 (steps + 1)))
  have bb := (Bw3.out.set_ 6 (.int .i64 (steps + 1)))
  simp only [List.setIfInBounds_toArray, List.set_cons_succ, List.set_cons_zero] at bb
  have Bw4 := Lib.hid (bb)
  have Sw4 := Lib.hid (Sw3.out.ex ee (by have := NE.out; omega))
  have Gw4 := Lib.hid (Gw3.out.ex ee (by have := NE.out; omega))
  have Vw4 := Lib.hid (Vw3.out.ex ee (by have := NE.out; omega))
  have Kw4 := Lib.hid (Kw3.out.ex ee (by have := NE.out; omega) (by have := NE.out; omega))
  have Xw4 := Lib.hid (Xw3.out.trans (ee.mono (fun k hk => .inr (.inr (.inl hk)))))
  clear ee bb Bw3 Sw3 Gw3 Vw3 Kw3 Xw3
  generalize (w3.setCell ⟨o, 6, none⟩ (.int .i64 (steps + 1))) = w4 at *
  have hne : Nonempty (Held (Below w4.heap.size w4)) := ⟨⟨w4, Below.refl _ _⟩⟩
  have p0 : ∀ y : Held (Below w4.heap.size w4), y.w.cell? ⟨o, 0, none⟩ = some (.slice (some ⟨rs, 0, none⟩) n cs) := fun y => (Bw4.out.bl y.ok).cell 0
  have p3 : ∀ y : Held (Below w4.heap.size w4), y.w.cell? ⟨o, 3, none⟩ = some (.slice (some ⟨rg, 0, none⟩) n n) := fun y => (Bw4.out.bl y.ok).cell 3
  have pg : ∀ y : Held (Below w4.heap.size w4), y.w.cell? ⟨rg, j, none⟩ = some (.int .u64 (nth gl j)) := fun y => (Gw4.out.bl y.ok).word (by rw [GL.out]; exact JN.out)
  refine drawn_bars (S := (Below w4.heap.size w4)) [([0, 2, 3, 4, 5, 6, 7, 8, 9, 10, 11, 12], 1)] [13, 14] (by kernel_rfl) (by kernel_rfl) (by kernel_rfl) rfl (Below.refl _ _).drew ?_
  refine Phased.go ?_
  simp only [pick, List.map_cons, List.map_nil, List.getElem?_cons_zero, List.getElem?_cons_succ, Option.getD_some]
  repeat (go_big_quiet_step (fail))
  refine wpQuiet_nil ?_
  go_wp2_with fail
  refine (Gen_any _ _).mono ?_; rintro e w5 ⟨rfl, rfl⟩
  go_wp2_with fail
  have ke : (v / 2 == nth gl j) = true := beq_iff_eq.2 HK2.out
  refine behind_normal ⟨(Below w4.heap.size w4), fun W h => h, (Below.refl _ _).drew, ?_⟩
  refine Phased.end_ ?_
  have hne4 : Nonempty (Held (fun W => W = w4.drew)) := ⟨⟨_, rfl⟩⟩
  simp only [pick, List.map_cons, List.map_nil, List.getElem?_cons_zero, List.getElem?_cons_succ, Option.getD_some]
  repeat (go_big_quiet_step (fail))
  refine wpQuiet_nil ?_
  clear hne4 hne p0 p3 pg
  have hdb := (Below.refl w4.heap.size w4).drew
  have Bw5 := Lib.hid (Bw4.out.bl hdb)
  have Sw5 := Lib.hid (Sw4.out.bl hdb)
  have Gw5 := Lib.hid (Gw4.out.bl hdb)
  have Vw5 := Lib.hid (Vw4.out.bl hdb)
  have Kw5 := Lib.hid (Kw4.out.below hdb)
  have Xw5 := Lib.hid (Xw4.out.trans (Ex.of_below hdb))
  clear hdb Bw4 Sw4 Gw4 Vw4 Kw4 Xw4
  generalize w4.drew = w5 at *
  have kd : (kk + 1 == 2 * (n : Int) + (m : Int)) = false := beq_eq_false_iff_ne.2 HV.out
  have q0 := Bw5.out.cell 0
  have q2 := Bw5.out.cell 2
  have q7 := Bw5.out.cell 7
  simp only [List.getElem?_toArray, List.getElem?_cons_succ, List.getElem?_cons_zero] at q0 q2 q7
  have f2 := Bw5.out.frozen 2
  go_wp2_with fail
  refine wp_goto ?_
  show goOn Try.prog c0 _ 2 (.goto 0) _ _
  refine goOn_jump HC rfl ?_
  go_wp2_with fail
  clear q0 q2 q7 f2
  have ee := ((Ex.refl (fun k => k = o) w5).setCell (q := ⟨o, 2, none⟩) (.inl rfl) (.int .i64 (kk + 1)))
  have bb := (Bw5.out.set_ 2 (.int .i64 (kk + 1)))
  simp only [List.setIfInBounds_toArray, List.set_cons_succ, List.set_cons_zero] at bb
  have Bwz := Lib.hid (bb)
  have Swz := Lib.hid (Sw5.out.ex ee (by have := NE.out; omega))
  have Gwz := Lib.hid (Gw5.out.ex ee (by have := NE.out; omega))
  have Vwz := Lib.hid (Vw5.out.ex ee (by have := NE.out; omega))
  have Kwz := Lib.hid (Kw5.out.ex ee (by have := NE.out; omega) (by have := NE.out; omega))
  have Xwz := Lib.hid (Xw5.out.trans (ee.mono (fun k hk => .inr (.inr (.inl hk)))))
  clear ee bb Bw5 Sw5 Gw5 Vw5 Kw5 Xw5
  first | rw [goOn_ret] | skip
  go_ret
  exact ⟨rfl, Kwz.out, ⟨Bwz.out, Swz.out, Gwz.out, by first | exact GL.out | (rw [List.length_set]; exact GL.out), Vwz.out, by first | exact WL.out | (rw [List.length_set]; exact WL.out), NE.out.2⟩, Xwz.out⟩

set_option maxRecDepth 100000 in
set_option maxHeartbeats 4000000 in
theorem SN_Cl (g h o rs cs rg rw n m : Nat) (ws : List Int) (t : Int) (l : Nat → Spot) (tries kk begun steps : Int) (gl wl : List Int) (j : Nat) (w : World) (hb : BankAt w g h ws t) (ho : SnAt w o rs cs rg rw n m l tries kk begun steps 0 gl wl) (hi : SInv n m l tries steps gl)
    (ne : o ≠ g ∧ o ≠ h ∧ rs ≠ g ∧ rs ≠ h ∧ rg ≠ g ∧ rg ≠ h ∧ rw ≠ g ∧ rw ≠ h) (hj : j < n) (hk : kk = (n : Int) + (m : Int) + (j : Int)) (hin : inW ws (l j).seq) (hk2 : wordF ws (l j).seq / 2 = nth gl j) (hv : kk + 1 = 2 * (n : Int) + (m : Int)) :
    Calls Try.prog 17 #[.pointer (some ⟨o, 0, none⟩), .pointer (some ⟨g, 0, none⟩)] w fun e w' => e = .returned (.int .i64 1) ∧ BankAt w' g h ws (tickF ws ((l j).seq) t) ∧ SnAt w' o rs cs rg rw n m l (tries) (kk + 1) (begun) (steps + 1) 1 (gl) (wl) ∧ Ex (fun k => k = g ∨ k = h ∨ k = o ∨ k = rg ∨ k = rw) w w' := by
  have B0 := Lib.hid ho.box
  have S0 := Lib.hid ho.spots
  have G0 := Lib.hid ho.gens
  have V0 := Lib.hid ho.words
  have GL := Lib.hid ho.glen
  have WL := Lib.hid ho.wlen
  have HO := Lib.hid ho
  have K0 := Lib.hid hb
  have X0 := Lib.hid (Ex.refl (fun k => k = g ∨ k = h ∨ k = o ∨ k = rg ∨ k = rw) w)
  have HI := Lib.hid hi
  have NE := Lib.hid (show (o ≠ g ∧ o ≠ h ∧ rs ≠ g ∧ rs ≠ h ∧ rg ≠ g ∧ rg ≠ h ∧ rw ≠ g ∧ rw ≠ h) ∧ rs ≠ o ∧ rg ≠ o ∧ rw ≠ o ∧ rs ≠ rg ∧ rs ≠ rw ∧ rg ≠ rw from ⟨ne, ho.apart⟩)
  have HRG := Lib.hid (fun i => wordF_range hb i)
  have hnm : wrap64 ((n : Int) + (m : Int)) = (n : Int) + (m : Int) := wrap64_in _ (by have := hi.n64; have := hi.m64; omega)
  have HIN := Lib.hid hin
  have HK2 := Lib.hid hk2
  have HV := Lib.hid hv
  have HNUM := Lib.hid (step_nums (kk := kk) hi.n64 hi.m64 hi.st (by have := hi.n64; have := hi.m64; omega))
  have d1 : decide (kk < (n : Int)) = false := decide_eq_false (by omega)
  have d2 : decide (kk < (n : Int) + (m : Int)) = false := decide_eq_false (by omega)
  have h1 : wrap64 (kk - (n : Int)) = kk - (n : Int) := wrap64_in _ (by have := hi.n64; have := hi.m64; omega)
  have h2 : wrap64 (kk - (n : Int) - (m : Int)) = (j : Int) := by rw [wrap64_in _ (by have := hi.n64; have := hi.m64; omega)]; omega
  have i0 : (0 : Int) ≤ (j : Int) := by omega
  have i1 : (j : Int) < (n : Int) := by omega
  have JN := Lib.hid hj
  have HKK := Lib.hid hk
  clear ho hb hi ne hj hk hin hk2 hv
  have q0 := B0.out.cell 0
  have q7 := B0.out.cell 7
  simp only [List.getElem?_toArray, List.getElem?_cons_succ, List.getElem?_cons_zero] at q0 q7
  go_enter Try.func17, Try.ntmps17
  go_wp2_with fail
  refine wp_scope_ahead 2 (fun c0 HC => ?_)
  go_upto_region 5 with fail
  have hne : Nonempty (Held (fun W => W = w.drew)) := ⟨⟨_, rfl⟩⟩
  have p0 : ∀ y : Held (fun W => W = w.drew), y.w.cell? ⟨o, 0, none⟩ = some (.slice (some ⟨rs, 0, none⟩) n cs) := fun y => by rw [y.ok]; exact B0.out.cell 0
  have p4 : ∀ y : Held (fun W => W = w.drew), y.w.cell? ⟨o, 4, none⟩ = some (.slice (some ⟨rw, 0, none⟩) m m) := fun y => by rw [y.ok]; exact B0.out.cell 4
  refine drawn_bars (S := fun _ => True) [] [0, 1, 2, 3, 4, 5, 6, 7, 8, 9, 10, 11] (by kernel_rfl) (by kernel_rfl) (by kernel_rfl) rfl trivial ?_
  refine Phased.end_ ?_
  simp only [pick, List.map_cons, List.map_nil, List.getElem?_cons_zero, List.getElem?_cons_succ, Option.getD_some]
  repeat (go_big_quiet_step (fail))
  refine wpQuiet_nil ?_
  clear hne p0 p4
  clear q0 q7
  have HO1 := Lib.hid (HO.out.bl (Below.refl w.heap.size w).drew)
  clear HO
  have hdb := (Below.refl w.heap.size w).drew
  have Bw1 := Lib.hid (B0.out.bl hdb)
  have Sw1 := Lib.hid (S0.out.bl hdb)
  have Gw1 := Lib.hid (G0.out.bl hdb)
  have Vw1 := Lib.hid (V0.out.bl hdb)
  have Kw1 := Lib.hid (K0.out.below hdb)
  have Xw1 := Lib.hid (X0.out.trans (Ex.of_below hdb))
  clear hdb B0 S0 G0 V0 K0 X0
  generalize w.drew = w1 at *
  have q0 := Bw1.out.cell 0
  have q2 := Bw1.out.cell 2
  simp only [List.getElem?_toArray, List.getElem?_cons_succ, List.getElem?_cons_zero] at q0 q2
  obtain ⟨e0, e1, e2, e3, e4⟩ := Sw1.out.five JN.out
  go_wp2_with fail
  clear HO1
  clear e0 e1 e2 e3 e4
  refine (Load_any g h ws t ((l j).seq) w1 Kw1.out).mono ?_; rintro e w3 ⟨rfl, hb1, hx1⟩
  rw [errF_in HIN.out]
  clear q0 q2
  have ee := Ex.of_ex2 (T := fun k => k = g ∨ k = h) hx1 (.inl rfl) (.inr rfl)
  have Bw3 := Lib.hid (Bw1.out.ex ee (by have := NE.out; omega))
  have Sw3 := Lib.hid (Sw1.out.ex ee (by have := NE.out; omega))
  have Gw3 := Lib.hid (Gw1.out.ex ee (by have := NE.out; omega))
  have Vw3 := Lib.hid (Vw1.out.ex ee (by have := NE.out; omega))
  have Kw3 := Lib.hid (hb1)
  have Xw3 := Lib.hid (Xw1.out.trans (ee.mono (fun k hk => hk.elim .inl (fun h => .inr (.inl h)))))
  clear ee hb1 hx1 Bw1 Sw1 Gw1 Vw1 Kw1 Xw1
  generalize hvv : wordF ws ((l j).seq) = v at *
  have HVV := Lib.hid hvv
  have HR := Lib.hid (show 0 ≤ v ∧ v ≤ 18446744073709551615 by rw [← hvv]; exact HRG.out _)
  clear hvv
  obtain ⟨hst, h2n, h2m, hk1⟩ := HNUM.out
  have q0 := Bw3.out.cell 0
  have q6 := Bw3.out.cell 6
  simp only [List.getElem?_toArray, List.getElem?_cons_succ, List.getElem?_cons_zero] at q0 q6
  have f6 := Bw3.out.frozen 6
  go_upto_region 24 with fail
  clear q0 q6 f6
  have ee := ((Ex.refl (fun k => k = o) w3).setCell (q := ⟨o, 6, none⟩) (.inl rfl) (.int .i64 (steps + 1)))
  have bb := (Bw3.out.set_ 6 (.int .i64 (steps + 1)))
  simp only [List.setIfInBounds_toArray, List.set_cons_succ, List.set_cons_zero] at bb
  have Bw4 := Lib.hid (bb)
  have Sw4 := Lib.hid (Sw3.out.ex ee (by have := NE.out; omega))
  have Gw4 := Lib.hid (Gw3.out.ex ee (by have := NE.out; omega))
  have Vw4 := Lib.hid (Vw3.out.ex ee (by have := NE.out; omega))
  have Kw4 := Lib.hid (Kw3.out.ex ee (by have := NE.out; omega) (by have := NE.out; omega))
  have Xw4 := Lib.hid (Xw3.out.trans (ee.mono (fun k hk => .inr (.inr (.inl hk)))))
  clear ee bb Bw3 Sw3 Gw3 Vw3 Kw3 Xw3
  generalize (w3.setCell ⟨o, 6, none⟩ (.int .i64 (steps + 1))) = w4 at *
  have hne : Nonempty (Held (Below w4.heap.size w4)) := ⟨⟨w4, Below.refl _ _⟩⟩
  have p0 : ∀ y : Held (Below w4.heap.size w4), y.w.cell? ⟨o, 0, none⟩ = some (.slice (some ⟨rs, 0, none⟩) n cs) := fun y => (Bw4.out.bl y.ok).cell 0
  have p3 : ∀ y : Held (Below w4.heap.size w4), y.w.cell? ⟨o, 3, none⟩ = some (.slice (some ⟨rg, 0, none⟩) n n) := fun y => (Bw4.out.bl y.ok).cell 3
  have pg : ∀ y : Held (Below w4.heap.size w4), y.w.cell? ⟨rg, j, none⟩ = some (.int .u64 (nth gl j)) := fun y => (Gw4.out.bl y.ok).word (by rw [GL.out]; exact JN.out)
  refine drawn_bars (S := (Below w4.heap.size w4)) [([0, 2, 3, 4, 5, 6, 7, 8, 9, 10, 11, 12], 1)] [13, 14] (by kernel_rfl) (by kernel_rfl) (by kernel_rfl) rfl (Below.refl _ _).drew ?_
  refine Phased.go ?_
  simp only [pick, List.map_cons, List.map_nil, List.getElem?_cons_zero, List.getElem?_cons_succ, Option.getD_some]
  repeat (go_big_quiet_step (fail))
  refine wpQuiet_nil ?_
  go_wp2_with fail
  refine (Gen_any _ _).mono ?_; rintro e w5 ⟨rfl, rfl⟩
  go_wp2_with fail
  have ke : (v / 2 == nth gl j) = true := beq_iff_eq.2 HK2.out
  refine behind_normal ⟨(Below w4.heap.size w4), fun W h => h, (Below.refl _ _).drew, ?_⟩
  refine Phased.end_ ?_
  have hne4 : Nonempty (Held (fun W => W = w4.drew)) := ⟨⟨_, rfl⟩⟩
  simp only [pick, List.map_cons, List.map_nil, List.getElem?_cons_zero, List.getElem?_cons_succ, Option.getD_some]
  repeat (go_big_quiet_step (fail))
  refine wpQuiet_nil ?_
  clear hne4 hne p0 p3 pg
  have hdb := (Below.refl w4.heap.size w4).drew
  have Bw5 := Lib.hid (Bw4.out.bl hdb)
  have Sw5 := Lib.hid (Sw4.out.bl hdb)
  have Gw5 := Lib.hid (Gw4.out.bl hdb)
  have Vw5 := Lib.hid (Vw4.out.bl hdb)
  have Kw5 := Lib.hid (Kw4.out.below hdb)
  have Xw5 := Lib.hid (Xw4.out.trans (Ex.of_below hdb))
  clear hdb Bw4 Sw4 Gw4 Vw4 Kw4 Xw4
  generalize w4.drew = w5 at *
  have kd : (kk + 1 == 2 * (n : Int) + (m : Int)) = true := beq_iff_eq.2 HV.out
  have q0 := Bw5.out.cell 0
  have q2 := Bw5.out.cell 2
  have q7 := Bw5.out.cell 7
  simp only [List.getElem?_toArray, List.getElem?_cons_succ, List.getElem?_cons_zero] at q0 q2 q7
  have f2 := Bw5.out.frozen 2
  have f7 := Bw5.out.frozen 7
  go_wp2_with fail
  refine wp_goto ?_
  show goOn Try.prog c0 _ 2 (.goto 0) _ _
  refine goOn_jump HC rfl ?_
  go_wp2_with fail
  clear q0 q2 q7 f2 f7
  have ee := (((Ex.refl (fun k => k = o) w5).setCell (q := ⟨o, 2, none⟩) (.inl rfl) (.int .i64 (kk + 1))).setCell (q := ⟨o, 7, none⟩) (.inl rfl) (.int .i64 1))
  have bb := ((Bw5.out.set_ 2 (.int .i64 (kk + 1))).set_ 7 (.int .i64 1))
  simp only [List.setIfInBounds_toArray, List.set_cons_succ, List.set_cons_zero] at bb
  have Bwz := Lib.hid (bb)
  have Swz := Lib.hid (Sw5.out.ex ee (by have := NE.out; omega))
  have Gwz := Lib.hid (Gw5.out.ex ee (by have := NE.out; omega))
  have Vwz := Lib.hid (Vw5.out.ex ee (by have := NE.out; omega))
  have Kwz := Lib.hid (Kw5.out.ex ee (by have := NE.out; omega) (by have := NE.out; omega))
  have Xwz := Lib.hid (Xw5.out.trans (ee.mono (fun k hk => .inr (.inr (.inl hk)))))
  clear ee bb Bw5 Sw5 Gw5 Vw5 Kw5 Xw5
  first | rw [goOn_ret] | skip
  go_ret
  exact ⟨rfl, Kwz.out, ⟨Bwz.out, Swz.out, Gwz.out, by first | exact GL.out | (rw [List.length_set]; exact GL.out), Vwz.out, by first | exact WL.out | (rw [List.length_set]; exact WL.out), NE.out.2⟩, Xwz.out⟩

set_option maxRecDepth 100000 in
set_option maxHeartbeats 4000000 in
theorem SN_Ca (g h o rs cs rg rw n m : Nat) (ws : List Int) (t : Int) (l : Nat → Spot) (tries kk begun steps : Int) (gl wl : List Int) (j : Nat) (w : World) (hb : BankAt w g h ws t) (ho : SnAt w o rs cs rg rw n m l tries kk begun steps 0 gl wl) (hi : SInv n m l tries steps gl)
    (ne : o ≠ g ∧ o ≠ h ∧ rs ≠ g ∧ rs ≠ h ∧ rg ≠ g ∧ rg ≠ h ∧ rw ≠ g ∧ rw ≠ h) (hj : j < n) (hk : kk = (n : Int) + (m : Int) + (j : Int)) (hin : inW ws (l j).seq) (hk2 : wordF ws (l j).seq / 2 ≠ nth gl j) (hv : ¬ tries - 1 = 0) :
    Calls Try.prog 17 #[.pointer (some ⟨o, 0, none⟩), .pointer (some ⟨g, 0, none⟩)] w fun e w' => e = .returned (.int .i64 0) ∧ BankAt w' g h ws (tickF ws ((l j).seq) t) ∧ SnAt w' o rs cs rg rw n m l (tries - 1) (0) (begun) (steps + 1) 0 (gl) (wl) ∧ Ex (fun k => k = g ∨ k = h ∨ k = o ∨ k = rg ∨ k = rw) w w' := by
  have B0 := Lib.hid ho.box
  have S0 := Lib.hid ho.spots
  have G0 := Lib.hid ho.gens
  have V0 := Lib.hid ho.words
  have GL := Lib.hid ho.glen
  have WL := Lib.hid ho.wlen
  have HO := Lib.hid ho
  have K0 := Lib.hid hb
  have X0 := Lib.hid (Ex.refl (fun k => k = g ∨ k = h ∨ k = o ∨ k = rg ∨ k = rw) w)
  have HI := Lib.hid hi
  have NE := Lib.hid (show (o ≠ g ∧ o ≠ h ∧ rs ≠ g ∧ rs ≠ h ∧ rg ≠ g ∧ rg ≠ h ∧ rw ≠ g ∧ rw ≠ h) ∧ rs ≠ o ∧ rg ≠ o ∧ rw ≠ o ∧ rs ≠ rg ∧ rs ≠ rw ∧ rg ≠ rw from ⟨ne, ho.apart⟩)
  have HRG := Lib.hid (fun i => wordF_range hb i)
  have hnm : wrap64 ((n : Int) + (m : Int)) = (n : Int) + (m : Int) := wrap64_in _ (by have := hi.n64; have := hi.m64; omega)
  have HIN := Lib.hid hin
  have HK2 := Lib.hid hk2
  have HV := Lib.hid hv
  have HNUM := Lib.hid (step_nums (kk := kk) hi.n64 hi.m64 hi.st (by have := hi.n64; have := hi.m64; omega))
  have d1 : decide (kk < (n : Int)) = false := decide_eq_false (by omega)
  have d2 : decide (kk < (n : Int) + (m : Int)) = false := decide_eq_false (by omega)
  have h1 : wrap64 (kk - (n : Int)) = kk - (n : Int) := wrap64_in _ (by have := hi.n64; have := hi.m64; omega)
  have h2 : wrap64 (kk - (n : Int) - (m : Int)) = (j : Int) := by rw [wrap64_in _ (by have := hi.n64; have := hi.m64; omega)]; omega
  have i0 : (0 : Int) ≤ (j : Int) := by omega
  have i1 : (j : Int) < (n : Int) := by omega
  have JN := Lib.hid hj
  have HKK := Lib.hid hk
  clear ho hb hi ne hj hk hin hk2 hv
  have q0 := B0.out.cell 0
  have q7 := B0.out.cell 7
  simp only [List.getElem?_toArray, List.getElem?_cons_succ, List.getElem?_cons_zero] at q0 q7
  go_enter Try.func17, Try.ntmps17
  go_wp2_with fail
  refine wp_scope_ahead 2 (fun c0 HC => ?_)
  go_upto_region 5 with fail
  have hne : Nonempty (Held (fun W => W = w.drew)) := ⟨⟨_, rfl⟩⟩
  have p0 : ∀ y : Held (fun W => W = w.drew), y.w.cell? ⟨o, 0, none⟩ = some (.slice (some ⟨rs, 0, none⟩) n cs) := fun y => by rw [y.ok]; exact B0.out.cell 0
  have p4 : ∀ y : Held (fun W => W = w.drew), y.w.cell? ⟨o, 4, none⟩ = some (.slice (some ⟨rw, 0, none⟩) m m) := fun y => by rw [y.ok]; exact B0.out.cell 4
  refine drawn_bars (S := fun _ => True) [] [0, 1, 2, 3, 4, 5, 6, 7, 8, 9, 10, 11] (by kernel_rfl) (by kernel_rfl) (by kernel_rfl) rfl trivial ?_
  refine Phased.end_ ?_
  simp only [pick, List.map_cons, List.map_nil, List.getElem?_cons_zero, List.getElem?_cons_succ, Option.getD_some]
  repeat (go_big_quiet_step (fail))
  refine wpQuiet_nil ?_
  clear hne p0 p4
  clear q0 q7
  have HO1 := Lib.hid (HO.out.bl (Below.refl w.heap.size w).drew)
  clear HO
  have hdb := (Below.refl w.heap.size w).drew
  have Bw1 := Lib.hid (B0.out.bl hdb)
  have Sw1 := Lib.hid (S0.out.bl hdb)
  have Gw1 := Lib.hid (G0.out.bl hdb)
  have Vw1 := Lib.hid (V0.out.bl hdb)
  have Kw1 := Lib.hid (K0.out.below hdb)
  have Xw1 := Lib.hid (X0.out.trans (Ex.of_below hdb))
  clear hdb B0 S0 G0 V0 K0 X0
  generalize w.drew = w1 at *
  have q0 := Bw1.out.cell 0
  have q2 := Bw1.out.cell 2
  simp only [List.getElem?_toArray, List.getElem?_cons_succ, List.getElem?_cons_zero] at q0 q2
  obtain ⟨e0, e1, e2, e3, e4⟩ := Sw1.out.five JN.out
  go_wp2_with fail
  clear HO1
  clear e0 e1 e2 e3 e4
  refine (Load_any g h ws t ((l j).seq) w1 Kw1.out).mono ?_; rintro e w3 ⟨rfl, hb1, hx1⟩
  rw [errF_in HIN.out]
  clear q0 q2
  have ee := Ex.of_ex2 (T := fun k => k = g ∨ k = h) hx1 (.inl rfl) (.inr rfl)
  have Bw3 := Lib.hid (Bw1.out.ex ee (by have := NE.out; omega))
  have Sw3 := Lib.hid (Sw1.out.ex ee (by have := NE.out; omega))
  have Gw3 := Lib.hid (Gw1.out.ex ee (by have := NE.out; omega))
  have Vw3 := Lib.hid (Vw1.out.ex ee (by have := NE.out; omega))
  have Kw3 := Lib.hid (hb1)
  have Xw3 := Lib.hid (Xw1.out.trans (ee.mono (fun k hk => hk.elim .inl (fun h => .inr (.inl h)))))
  clear ee hb1 hx1 Bw1 Sw1 Gw1 Vw1 Kw1 Xw1
  generalize hvv : wordF ws ((l j).seq) = v at *
  have HVV := Lib.hid hvv
  have HR := Lib.hid (show 0 ≤ v ∧ v ≤ 18446744073709551615 by rw [← hvv]; exact HRG.out _)
  clear hvv
  obtain ⟨hst, h2n, h2m, hk1⟩ := HNUM.out
  have q0 := Bw3.out.cell 0
  have q6 := Bw3.out.cell 6
  simp only [List.getElem?_toArray, List.getElem?_cons_succ, List.getElem?_cons_zero] at q0 q6
  have f6 := Bw3.out.frozen 6
  go_upto_region 24 with fail
  clear q0 q6 f6
  have ee := ((Ex.refl (fun k => k = o) w3).setCell (q := ⟨o, 6, none⟩) (.inl rfl) (.int .i64 (steps + 1)))
  have bb := (Bw3.out.set_ 6 (.int .i64 (steps + 1)))
  simp only [List.setIfInBounds_toArray, List.set_cons_succ, List.set_cons_zero] at bb
  have Bw4 := Lib.hid (bb)
  have Sw4 := Lib.hid (Sw3.out.ex ee (by have := NE.out; omega))
  have Gw4 := Lib.hid (Gw3.out.ex ee (by have := NE.out; omega))
  have Vw4 := Lib.hid (Vw3.out.ex ee (by have := NE.out; omega))
  have Kw4 := Lib.hid (Kw3.out.ex ee (by have := NE.out; omega) (by have := NE.out; omega))
  have Xw4 := Lib.hid (Xw3.out.trans (ee.mono (fun k hk => .inr (.inr (.inl hk)))))
  clear ee bb Bw3 Sw3 Gw3 Vw3 Kw3 Xw3
  generalize (w3.setCell ⟨o, 6, none⟩ (.int .i64 (steps + 1))) = w4 at *
  have hne : Nonempty (Held (Below w4.heap.size w4)) := ⟨⟨w4, Below.refl _ _⟩⟩
  have p0 : ∀ y : Held (Below w4.heap.size w4), y.w.cell? ⟨o, 0, none⟩ = some (.slice (some ⟨rs, 0, none⟩) n cs) := fun y => (Bw4.out.bl y.ok).cell 0
  have p3 : ∀ y : Held (Below w4.heap.size w4), y.w.cell? ⟨o, 3, none⟩ = some (.slice (some ⟨rg, 0, none⟩) n n) := fun y => (Bw4.out.bl y.ok).cell 3
  have pg : ∀ y : Held (Below w4.heap.size w4), y.w.cell? ⟨rg, j, none⟩ = some (.int .u64 (nth gl j)) := fun y => (Gw4.out.bl y.ok).word (by rw [GL.out]; exact JN.out)
  refine drawn_bars (S := (Below w4.heap.size w4)) [([0, 2, 3, 4, 5, 6, 7, 8, 9, 10, 11, 12], 1)] [13, 14] (by kernel_rfl) (by kernel_rfl) (by kernel_rfl) rfl (Below.refl _ _).drew ?_
  refine Phased.go ?_
  simp only [pick, List.map_cons, List.map_nil, List.getElem?_cons_zero, List.getElem?_cons_succ, Option.getD_some]
  repeat (go_big_quiet_step (fail))
  refine wpQuiet_nil ?_
  go_wp2_with fail
  refine (Gen_any _ _).mono ?_; rintro e w5 ⟨rfl, rfl⟩
  go_wp2_with fail
  have ke : (v / 2 == nth gl j) = false := beq_eq_false_iff_ne.2 HK2.out
  refine behind_normal ⟨(Below w4.heap.size w4), fun W h => h, (Below.refl _ _).drew, ?_⟩
  refine Phased.end_ ?_
  have hne4 : Nonempty (Held (fun W => W = w4.drew)) := ⟨⟨_, rfl⟩⟩
  simp only [pick, List.map_cons, List.map_nil, List.getElem?_cons_zero, List.getElem?_cons_succ, Option.getD_some]
  repeat (go_big_quiet_step (fail))
  refine wpQuiet_nil ?_
  clear hne4 hne p0 p3 pg
  have hdb := (Below.refl w4.heap.size w4).drew
  have Bw5 := Lib.hid (Bw4.out.bl hdb)
  have Sw5 := Lib.hid (Sw4.out.bl hdb)
  have Gw5 := Lib.hid (Gw4.out.bl hdb)
  have Vw5 := Lib.hid (Vw4.out.bl hdb)
  have Kw5 := Lib.hid (Kw4.out.below hdb)
  have Xw5 := Lib.hid (Xw4.out.trans (Ex.of_below hdb))
  clear hdb Bw4 Sw4 Gw4 Vw4 Kw4 Xw4
  generalize w4.drew = w5 at *
  have ht : wrap64 (tries - 1) = tries - 1 := wrap64_in _ (by have := HI.out.tr; omega)
  have kt : (tries - 1 == 0) = false := beq_eq_false_iff_ne.2 HV.out
  have q0 := Bw5.out.cell 0
  have q1 := Bw5.out.cell 1
  have q2 := Bw5.out.cell 2
  have q7 := Bw5.out.cell 7
  simp only [List.getElem?_toArray, List.getElem?_cons_succ, List.getElem?_cons_zero] at q0 q1 q2 q7
  have f1 := Bw5.out.frozen 1
  have f2 := Bw5.out.frozen 2
  go_wp2_with fail
  try go_step3
  try go_wp2_with fail
  clear q0 q1 q2 q7 f1 f2
  have ee := (((Ex.refl (fun k => k = o) w5).setCell (q := ⟨o, 2, none⟩) (.inl rfl) (.int .i64 0)).setCell (q := ⟨o, 1, none⟩) (.inl rfl) (.int .i64 (tries - 1)))
  have bb := ((Bw5.out.set_ 2 (.int .i64 0)).set_ 1 (.int .i64 (tries - 1)))
  simp only [List.setIfInBounds_toArray, List.set_cons_succ, List.set_cons_zero] at bb
  have Bwz := Lib.hid (bb)
  have Swz := Lib.hid (Sw5.out.ex ee (by have := NE.out; omega))
  have Gwz := Lib.hid (Gw5.out.ex ee (by have := NE.out; omega))
  have Vwz := Lib.hid (Vw5.out.ex ee (by have := NE.out; omega))
  have Kwz := Lib.hid (Kw5.out.ex ee (by have := NE.out; omega) (by have := NE.out; omega))
  have Xwz := Lib.hid (Xw5.out.trans (ee.mono (fun k hk => .inr (.inr (.inl hk)))))
  clear ee bb Bw5 Sw5 Gw5 Vw5 Kw5 Xw5
  first | rw [goOn_ret] | skip
  go_ret
  exact ⟨rfl, Kwz.out, ⟨Bwz.out, Swz.out, Gwz.out, by first | exact GL.out | (rw [List.length_set]; exact GL.out), Vwz.out, by first | exact WL.out | (rw [List.length_set]; exact WL.out), NE.out.2⟩, Xwz.out⟩

set_option maxRecDepth 100000 in
set_option maxHeartbeats 4000000 in
theorem SN_Cs (g h o rs cs rg rw n m : Nat) (ws : List Int) (t : Int) (l : Nat → Spot) (tries kk begun steps : Int) (gl wl : List Int) (j : Nat) (w : World) (hb : BankAt w g h ws t) (ho : SnAt w o rs cs rg rw n m l tries kk begun steps 0 gl wl) (hi : SInv n m l tries steps gl)
    (ne : o ≠ g ∧ o ≠ h ∧ rs ≠ g ∧ rs ≠ h ∧ rg ≠ g ∧ rg ≠ h ∧ rw ≠ g ∧ rw ≠ h) (hj : j < n) (hk : kk = (n : Int) + (m : Int) + (j : Int)) (hin : inW ws (l j).seq) (hk2 : wordF ws (l j).seq / 2 ≠ nth gl j) (hv : tries - 1 = 0) :
    Calls Try.prog 17 #[.pointer (some ⟨o, 0, none⟩), .pointer (some ⟨g, 0, none⟩)] w fun e w' => e = .returned (.int .i64 2) ∧ BankAt w' g h ws (tickF ws ((l j).seq) t) ∧ SnAt w' o rs cs rg rw n m l (tries - 1) (0) (begun) (steps + 1) 2 (gl) (wl) ∧ Ex (fun k => k = g ∨ k = h ∨ k = o ∨ k = rg ∨ k = rw) w w' := by
  have B0 := Lib.hid ho.box
  have S0 := Lib.hid ho.spots
  have G0 := Lib.hid ho.gens
  have V0 := Lib.hid ho.words
  have GL := Lib.hid ho.glen
  have WL := Lib.hid ho.wlen
  have HO := Lib.hid ho
  have K0 := Lib.hid hb
  have X0 := Lib.hid (Ex.refl (fun k => k = g ∨ k = h ∨ k = o ∨ k = rg ∨ k = rw) w)
  have HI := Lib.hid hi
  have NE := Lib.hid (show (o ≠ g ∧ o ≠ h ∧ rs ≠ g ∧ rs ≠ h ∧ rg ≠ g ∧ rg ≠ h ∧ rw ≠ g ∧ rw ≠ h) ∧ rs ≠ o ∧ rg ≠ o ∧ rw ≠ o ∧ rs ≠ rg ∧ rs ≠ rw ∧ rg ≠ rw from ⟨ne, ho.apart⟩)
  have HRG := Lib.hid (fun i => wordF_range hb i)
  have hnm : wrap64 ((n : Int) + (m : Int)) = (n : Int) + (m : Int) := wrap64_in _ (by have := hi.n64; have := hi.m64; omega)
  have HIN := Lib.hid hin
  have HK2 := Lib.hid hk2
  have HV := Lib.hid hv
  have HNUM := Lib.hid (step_nums (kk := kk) hi.n64 hi.m64 hi.st (by have := hi.n64; have := hi.m64; omega))
  have d1 : decide (kk < (n : Int)) = false := decide_eq_false (by omega)
  have d2 : decide (kk < (n : Int) + (m : Int)) = false := decide_eq_false (by omega)
  have h1 : wrap64 (kk - (n : Int)) = kk - (n : Int) := wrap64_in _ (by have := hi.n64; have := hi.m64; omega)
  have h2 : wrap64 (kk - (n : Int) - (m : Int)) = (j : Int) := by rw [wrap64_in _ (by have := hi.n64; have := hi.m64; omega)]; omega
  have i0 : (0 : Int) ≤ (j : Int) := by omega
  have i1 : (j : Int) < (n : Int) := by omega
  have JN := Lib.hid hj
  have HKK := Lib.hid hk
  clear ho hb hi ne hj hk hin hk2 hv
  have q0 := B0.out.cell 0
  have q7 := B0.out.cell 7
  simp only [List.getElem?_toArray, List.getElem?_cons_succ, List.getElem?_cons_zero] at q0 q7
  go_enter Try.func17, Try.ntmps17
  go_wp2_with fail
  refine wp_scope_ahead 2 (fun c0 HC => ?_)
  go_upto_region 5 with fail
  have hne : Nonempty (Held (fun W => W = w.drew)) := ⟨⟨_, rfl⟩⟩
  have p0 : ∀ y : Held (fun W => W = w.drew), y.w.cell? ⟨o, 0, none⟩ = some (.slice (some ⟨rs, 0, none⟩) n cs) := fun y => by rw [y.ok]; exact B0.out.cell 0
  have p4 : ∀ y : Held (fun W => W = w.drew), y.w.cell? ⟨o, 4, none⟩ = some (.slice (some ⟨rw, 0, none⟩) m m) := fun y => by rw [y.ok]; exact B0.out.cell 4
  refine drawn_bars (S := fun _ => True) [] [0, 1, 2, 3, 4, 5, 6, 7, 8, 9, 10, 11] (by kernel_rfl) (by kernel_rfl) (by kernel_rfl) rfl trivial ?_
  refine Phased.end_ ?_
  simp only [pick, List.map_cons, List.map_nil, List.getElem?_cons_zero, List.getElem?_cons_succ, Option.getD_some]
  repeat (go_big_quiet_step (fail))
  refine wpQuiet_nil ?_
  clear hne p0 p4
  clear q0 q7
  have HO1 := Lib.hid (HO.out.bl (Below.refl w.heap.size w).drew)
  clear HO
  have hdb := (Below.refl w.heap.size w).drew
  have Bw1 := Lib.hid (B0.out.bl hdb)
  have Sw1 := Lib.hid (S0.out.bl hdb)
  have Gw1 := Lib.hid (G0.out.bl hdb)
  have Vw1 := Lib.hid (V0.out.bl hdb)
  have Kw1 := Lib.hid (K0.out.below hdb)
  have Xw1 := Lib.hid (X0.out.trans (Ex.of_below hdb))
  clear hdb B0 S0 G0 V0 K0 X0
  generalize w.drew = w1 at *
  have q0 := Bw1.out.cell 0
  have q2 := Bw1.out.cell 2
  simp only [List.getElem?_toArray, List.getElem?_cons_succ, List.getElem?_cons_zero] at q0 q2
  obtain ⟨e0, e1, e2, e3, e4⟩ := Sw1.out.five JN.out
  go_wp2_with fail
  clear HO1
  clear e0 e1 e2 e3 e4
  refine (Load_any g h ws t ((l j).seq) w1 Kw1.out).mono ?_; rintro e w3 ⟨rfl, hb1, hx1⟩
  rw [errF_in HIN.out]
  clear q0 q2
  have ee := Ex.of_ex2 (T := fun k => k = g ∨ k = h) hx1 (.inl rfl) (.inr rfl)
  have Bw3 := Lib.hid (Bw1.out.ex ee (by have := NE.out; omega))
  have Sw3 := Lib.hid (Sw1.out.ex ee (by have := NE.out; omega))
  have Gw3 := Lib.hid (Gw1.out.ex ee (by have := NE.out; omega))
  have Vw3 := Lib.hid (Vw1.out.ex ee (by have := NE.out; omega))
  have Kw3 := Lib.hid (hb1)
  have Xw3 := Lib.hid (Xw1.out.trans (ee.mono (fun k hk => hk.elim .inl (fun h => .inr (.inl h)))))
  clear ee hb1 hx1 Bw1 Sw1 Gw1 Vw1 Kw1 Xw1
  generalize hvv : wordF ws ((l j).seq) = v at *
  have HVV := Lib.hid hvv
  have HR := Lib.hid (show 0 ≤ v ∧ v ≤ 18446744073709551615 by rw [← hvv]; exact HRG.out _)
  clear hvv
  obtain ⟨hst, h2n, h2m, hk1⟩ := HNUM.out
  have q0 := Bw3.out.cell 0
  have q6 := Bw3.out.cell 6
  simp only [List.getElem?_toArray, List.getElem?_cons_succ, List.getElem?_cons_zero] at q0 q6
  have f6 := Bw3.out.frozen 6
  go_upto_region 24 with fail
  clear q0 q6 f6
  have ee := ((Ex.refl (fun k => k = o) w3).setCell (q := ⟨o, 6, none⟩) (.inl rfl) (.int .i64 (steps + 1)))
  have bb := (Bw3.out.set_ 6 (.int .i64 (steps + 1)))
  simp only [List.setIfInBounds_toArray, List.set_cons_succ, List.set_cons_zero] at bb
  have Bw4 := Lib.hid (bb)
  have Sw4 := Lib.hid (Sw3.out.ex ee (by have := NE.out; omega))
  have Gw4 := Lib.hid (Gw3.out.ex ee (by have := NE.out; omega))
  have Vw4 := Lib.hid (Vw3.out.ex ee (by have := NE.out; omega))
  have Kw4 := Lib.hid (Kw3.out.ex ee (by have := NE.out; omega) (by have := NE.out; omega))
  have Xw4 := Lib.hid (Xw3.out.trans (ee.mono (fun k hk => .inr (.inr (.inl hk)))))
  clear ee bb Bw3 Sw3 Gw3 Vw3 Kw3 Xw3
  generalize (w3.setCell ⟨o, 6, none⟩ (.int .i64 (steps + 1))) = w4 at *
  have hne : Nonempty (Held (Below w4.heap.size w4)) := ⟨⟨w4, Below.refl _ _⟩⟩
  have p0 : ∀ y : Held (Below w4.heap.size w4), y.w.cell? ⟨o, 0, none⟩ = some (.slice (some ⟨rs, 0, none⟩) n cs) := fun y => (Bw4.out.bl y.ok).cell 0
  have p3 : ∀ y : Held (Below w4.heap.size w4), y.w.cell? ⟨o, 3, none⟩ = some (.slice (some ⟨rg, 0, none⟩) n n) := fun y => (Bw4.out.bl y.ok).cell 3
  have pg : ∀ y : Held (Below w4.heap.size w4), y.w.cell? ⟨rg, j, none⟩ = some (.int .u64 (nth gl j)) := fun y => (Gw4.out.bl y.ok).word (by rw [GL.out]; exact JN.out)
  refine drawn_bars (S := (Below w4.heap.size w4)) [([0, 2, 3, 4, 5, 6, 7, 8, 9, 10, 11, 12], 1)] [13, 14] (by kernel_rfl) (by kernel_rfl) (by kernel_rfl) rfl (Below.refl _ _).drew ?_
  refine Phased.go ?_
  simp only [pick, List.map_cons, List.map_nil, List.getElem?_cons_zero, List.getElem?_cons_succ, Option.getD_some]
  repeat (go_big_quiet_step (fail))
  refine wpQuiet_nil ?_
  go_wp2_with fail
  refine (Gen_any _ _).mono ?_; rintro e w5 ⟨rfl, rfl⟩
  go_wp2_with fail
  have ke : (v / 2 == nth gl j) = false := beq_eq_false_iff_ne.2 HK2.out
  refine behind_normal ⟨(Below w4.heap.size w4), fun W h => h, (Below.refl _ _).drew, ?_⟩
  refine Phased.end_ ?_
  have hne4 : Nonempty (Held (fun W => W = w4.drew)) := ⟨⟨_, rfl⟩⟩
  simp only [pick, List.map_cons, List.map_nil, List.getElem?_cons_zero, List.getElem?_cons_succ, Option.getD_some]
  repeat (go_big_quiet_step (fail))
  refine wpQuiet_nil ?_
  clear hne4 hne p0 p3 pg
  have hdb := (Below.refl w4.heap.size w4).drew
  have Bw5 := Lib.hid (Bw4.out.bl hdb)
  have Sw5 := Lib.hid (Sw4.out.bl hdb)
  have Gw5 := Lib.hid (Gw4.out.bl hdb)
  have Vw5 := Lib.hid (Vw4.out.bl hdb)
  have Kw5 := Lib.hid (Kw4.out.below hdb)
  have Xw5 := Lib.hid (Xw4.out.trans (Ex.of_below hdb))
  clear hdb Bw4 Sw4 Gw4 Vw4 Kw4 Xw4
  generalize w4.drew = w5 at *
  have ht : wrap64 (tries - 1) = tries - 1 := wrap64_in _ (by have := HI.out.tr; omega)
  have kt : (tries - 1 == 0) = true := beq_iff_eq.2 HV.out
  have q0 := Bw5.out.cell 0
  have q1 := Bw5.out.cell 1
  have q2 := Bw5.out.cell 2
  have q7 := Bw5.out.cell 7
  simp only [List.getElem?_toArray, List.getElem?_cons_succ, List.getElem?_cons_zero] at q0 q1 q2 q7
  have f1 := Bw5.out.frozen 1
  have f2 := Bw5.out.frozen 2
  have f7 := Bw5.out.frozen 7
  go_wp2_with fail
  try go_step3
  try go_wp2_with fail
  clear q0 q1 q2 q7 f1 f2 f7
  have ee := ((((Ex.refl (fun k => k = o) w5).setCell (q := ⟨o, 2, none⟩) (.inl rfl) (.int .i64 0)).setCell (q := ⟨o, 1, none⟩) (.inl rfl) (.int .i64 (tries - 1))).setCell (q := ⟨o, 7, none⟩) (.inl rfl) (.int .i64 2))
  have bb := (((Bw5.out.set_ 2 (.int .i64 0)).set_ 1 (.int .i64 (tries - 1))).set_ 7 (.int .i64 2))
  simp only [List.setIfInBounds_toArray, List.set_cons_succ, List.set_cons_zero] at bb
  have Bwz := Lib.hid (bb)
  have Swz := Lib.hid (Sw5.out.ex ee (by have := NE.out; omega))
  have Gwz := Lib.hid (Gw5.out.ex ee (by have := NE.out; omega))
  have Vwz := Lib.hid (Vw5.out.ex ee (by have := NE.out; omega))
  have Kwz := Lib.hid (Kw5.out.ex ee (by have := NE.out; omega) (by have := NE.out; omega))
  have Xwz := Lib.hid (Xw5.out.trans (ee.mono (fun k hk => .inr (.inr (.inl hk)))))
  clear ee bb Bw5 Sw5 Gw5 Vw5 Kw5 Xw5
  first | rw [goOn_ret] | skip
  go_ret
  exact ⟨rfl, Kwz.out, ⟨Bwz.out, Swz.out, Gwz.out, by first | exact GL.out | (rw [List.length_set]; exact GL.out), Vwz.out, by first | exact WL.out | (rw [List.length_set]; exact WL.out), NE.out.2⟩, Xwz.out⟩

set_option maxRecDepth 100000 in
set_option maxHeartbeats 4000000 in
theorem SN_nobank (g h o rs cs rg rw n m : Nat) (ws : List Int) (t : Int) (l : Nat → Spot) (tries kk begun steps : Int) (gl wl : List Int) (j : Nat) (w : World) (hb : BankAt w g h ws t) (ho : SnAt w o rs cs rg rw n m l tries kk begun steps 0 gl wl) (hi : SInv n m l tries steps gl)
    (ne : o ≠ g ∧ o ≠ h ∧ rs ≠ g ∧ rs ≠ h ∧ rg ≠ g ∧ rg ≠ h ∧ rw ≠ g ∧ rw ≠ h) (hj : j < n) (hk : kk = (j : Int)) :
    Calls Try.prog 17 #[.pointer (some ⟨o, 0, none⟩), .pointer none] w fun e w' => e = .returned (.int .i64 3) ∧ BankAt w' g h ws t ∧ SnAt w' o rs cs rg rw n m l (tries) (kk) (begun) (steps) 3 (gl) (wl) ∧ Ex (fun k => k = g ∨ k = h ∨ k = o ∨ k = rg ∨ k = rw) w w' := by
  have B0 := Lib.hid ho.box
  have S0 := Lib.hid ho.spots
  have G0 := Lib.hid ho.gens
  have V0 := Lib.hid ho.words
  have GL := Lib.hid ho.glen
  have WL := Lib.hid ho.wlen
  have HO := Lib.hid ho
  have K0 := Lib.hid hb
  have X0 := Lib.hid (Ex.refl (fun k => k = g ∨ k = h ∨ k = o ∨ k = rg ∨ k = rw) w)
  have HI := Lib.hid hi
  have NE := Lib.hid (show (o ≠ g ∧ o ≠ h ∧ rs ≠ g ∧ rs ≠ h ∧ rg ≠ g ∧ rg ≠ h ∧ rw ≠ g ∧ rw ≠ h) ∧ rs ≠ o ∧ rg ≠ o ∧ rw ≠ o ∧ rs ≠ rg ∧ rs ≠ rw ∧ rg ≠ rw from ⟨ne, ho.apart⟩)
  have HRG := Lib.hid (fun i => wordF_range hb i)
  have hnm : wrap64 ((n : Int) + (m : Int)) = (n : Int) + (m : Int) := wrap64_in _ (by have := hi.n64; have := hi.m64; omega)
  have HNUM := Lib.hid (step_nums (kk := (j : Int)) hi.n64 hi.m64 hi.st (by have := hi.n64; have := hi.m64; omega))
  have d1 : decide (kk < (n : Int)) = true := decide_eq_true (by omega)
  have i0 : (0 : Int) ≤ kk := by omega
  have i1 : kk < (n : Int) := by omega
  have JN := Lib.hid hj
  have HKK := Lib.hid hk
  clear ho hb hi ne hj hk 
  have q0 := B0.out.cell 0
  have q7 := B0.out.cell 7
  simp only [List.getElem?_toArray, List.getElem?_cons_succ, List.getElem?_cons_zero] at q0 q7
  go_enter Try.func17, Try.ntmps17
  go_wp2_with fail
  refine wp_scope_ahead 2 (fun c0 HC => ?_)
  go_upto_region 5 with fail
  have hne : Nonempty (Held (fun W => W = w.drew)) := ⟨⟨_, rfl⟩⟩
  have p0 : ∀ y : Held (fun W => W = w.drew), y.w.cell? ⟨o, 0, none⟩ = some (.slice (some ⟨rs, 0, none⟩) n cs) := fun y => by rw [y.ok]; exact B0.out.cell 0
  have p4 : ∀ y : Held (fun W => W = w.drew), y.w.cell? ⟨o, 4, none⟩ = some (.slice (some ⟨rw, 0, none⟩) m m) := fun y => by rw [y.ok]; exact B0.out.cell 4
  refine drawn_bars (S := fun _ => True) [] [0, 1, 2, 3, 4, 5, 6, 7, 8, 9, 10, 11] (by kernel_rfl) (by kernel_rfl) (by kernel_rfl) rfl trivial ?_
  refine Phased.end_ ?_
  simp only [pick, List.map_cons, List.map_nil, List.getElem?_cons_zero, List.getElem?_cons_succ, Option.getD_some]
  repeat (go_big_quiet_step (fail))
  refine wpQuiet_nil ?_
  clear hne p0 p4
  clear q0 q7
  have HO1 := Lib.hid (HO.out.bl (Below.refl w.heap.size w).drew)
  clear HO
  have hdb := (Below.refl w.heap.size w).drew
  have Bw1 := Lib.hid (B0.out.bl hdb)
  have Sw1 := Lib.hid (S0.out.bl hdb)
  have Gw1 := Lib.hid (G0.out.bl hdb)
  have Vw1 := Lib.hid (V0.out.bl hdb)
  have Kw1 := Lib.hid (K0.out.below hdb)
  have Xw1 := Lib.hid (X0.out.trans (Ex.of_below hdb))
  clear hdb B0 S0 G0 V0 K0 X0
  generalize w.drew = w1 at *
  have q0 := Bw1.out.cell 0
  have q2 := Bw1.out.cell 2
  simp only [List.getElem?_toArray, List.getElem?_cons_succ, List.getElem?_cons_zero] at q0 q2
  obtain ⟨j0, hj0⟩ : ∃ j0 : Int, (j : Int) = j0 := ⟨_, rfl⟩
  obtain ⟨e0, e1, e2, e3, e4⟩ := Sw1.out.five JN.out
  have hkj := HKK.out
  subst hkj
  clear j0 hj0
  go_wp2_with fail
  clear HO1
  clear e0 e1 e2 e3 e4
  refine (Load_nil (l j).seq w1).mono ?_; rintro e w3 ⟨rfl, hb2⟩
  clear q0 q2
  have Bw3 := Lib.hid (Bw1.out.bl hb2)
  have Sw3 := Lib.hid (Sw1.out.bl hb2)
  have Gw3 := Lib.hid (Gw1.out.bl hb2)
  have Vw3 := Lib.hid (Vw1.out.bl hb2)
  have Kw3 := Lib.hid (Kw1.out.below hb2)
  have Xw3 := Lib.hid (Xw1.out.trans (Ex.of_below hb2))
  clear hb2 Bw1 Sw1 Gw1 Vw1 Kw1 Xw1
  have q0 := Bw3.out.cell 0
  have q7 := Bw3.out.cell 7
  simp only [List.getElem?_toArray, List.getElem?_cons_succ, List.getElem?_cons_zero] at q0 q7
  have f7 := Bw3.out.frozen 7
  go_wp2_with fail
  clear q0 q7 f7
  have ee := ((Ex.refl (fun k => k = o) w3).setCell (q := ⟨o, 7, none⟩) (.inl rfl) (.int .i64 3))
  have bb := (Bw3.out.set_ 7 (.int .i64 3))
  simp only [List.setIfInBounds_toArray, List.set_cons_succ, List.set_cons_zero] at bb
  have Bwz := Lib.hid (bb)
  have Swz := Lib.hid (Sw3.out.ex ee (by have := NE.out; omega))
  have Gwz := Lib.hid (Gw3.out.ex ee (by have := NE.out; omega))
  have Vwz := Lib.hid (Vw3.out.ex ee (by have := NE.out; omega))
  have Kwz := Lib.hid (Kw3.out.ex ee (by have := NE.out; omega) (by have := NE.out; omega))
  have Xwz := Lib.hid (Xw3.out.trans (ee.mono (fun k hk => .inr (.inr (.inl hk)))))
  clear ee bb Bw3 Sw3 Gw3 Vw3 Kw3 Xw3
  first | rw [goOn_ret] | skip
  go_ret
  exact ⟨rfl, Kwz.out, ⟨Bwz.out, Swz.out, Gwz.out, by first | exact GL.out | (rw [List.length_set]; exact GL.out), Vwz.out, by first | exact WL.out | (rw [List.length_set]; exact WL.out), NE.out.2⟩, Xwz.out⟩

set_option maxRecDepth 100000 in
theorem SN_done (o rs cs rg rw n m : Nat) (l : Nat → Spot) (tries kk begun steps how : Int) (gl wl : List Int) (v : Value) (w : World) (ho : SnAt w o rs cs rg rw n m l tries kk begun steps how gl wl) (hh : how ≠ 0) :
    Calls Try.prog 17 #[.pointer (some ⟨o, 0, none⟩), v] w fun e w' => e = .returned (.int .i64 how) ∧ w = w' := by
  have q0 := ho.box.cell 0
  have q7 := ho.box.cell 7
  simp only [List.getElem?_toArray, List.getElem?_cons_succ, List.getElem?_cons_zero] at q0 q7
  have hd : (how != 0) = true := by simpa using hh
  clear ho hh
  go_enter Try.func17, Try.ntmps17
  go_wp2_with fail
  refine wp_scope_ahead 2 (fun c0 HC => ?_)
  go_wp2_with fail
  first | rw [goOn_ret] | skip
  go_ret
  exact ⟨rfl, rfl⟩
set_option maxRecDepth 100000 in
theorem SN_none (v : Value) (w : World) :
    Calls Try.prog 17 #[.pointer none, v] w fun e w' => e = .returned (.int .i64 3) ∧ w = w' := by
  go_enter Try.func17, Try.ntmps17
  go_wp2_with fail
  refine wp_scope_ahead 2 (fun c0 HC => ?_)
  go_wp2_with fail
  first | rw [goOn_ret] | skip
  go_ret
  exact ⟨rfl, rfl⟩

end Go.Proofs.Ytjdalllfnlpmnaa.Bank
