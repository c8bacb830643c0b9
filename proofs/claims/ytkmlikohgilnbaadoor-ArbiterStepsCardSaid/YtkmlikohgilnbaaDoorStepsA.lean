/-
  Law 15: ArbiterSteps. Printed by wip/tools/mkass.py. Conditions stand at each. By an AI agent.
-/
import Derived.Test.YtkmlikohgilnbaaDoorArbW
import Derived.Test.YtkmlikohgilnbaaDoorAnilA
import Derived.Test.YtkmlikohgilnbaaDoorArbY
import Derived.Deep.CutRange
namespace Go.Proofs.YtkmlikohgilnbaaDoor.Arb
set_option linter.unusedVariables false
set_option linter.unusedSimpArgs false
open Go Go.RowKit Go.Proofs.YtkmlikohgilnbaaDoor.Base Go.Proofs.YtkmlikohgilnbaaDoor.Reg
open Go.Proofs.YtkmlikohgilnbaaDoor.Bank (BankAt inW wordF setF tickF errF casB errF_in errF_out wordF_in wordF_out tickF_in tickF_out setF_in setF_out casB_out casB_in wordF_range Load_any CAS_any Load_nil New_in Store_any Peek_any Touches_any zeros)
open Go.Proofs.YtkmlikohgilnbaaDoor.Modes (Tab)
theorem ops_info : (Tryd.prog.info? 27).map (fun i => (i.zero, i.size, i.bytes)) = some (some (.pointer none), 1, 8) := by kernel_rfl
set_option maxRecDepth 100000 in
theorem make_ops (w : World) : (Instr.makeSlice 56 (.int .i64 3) (.int .i64 3)).run Tryd.prog w = .ok (.slice (some ⟨w.heap.size, 0, none⟩) 3 3) (w.alloc (.cells #[.pointer none, .pointer none, .pointer none] 27)) := by
  obtain ⟨i0, hi, hz0, hz1, hz2⟩ := info_parts ops_info
  have hr := run_make (P := Tryd.prog) w 56 27 i0 _ Tryd.underlying56 hi hz0 .i64 .i64 3 3 (by omega) (by omega) (by rw [hz2]; omega) (by omega)
  rw [hr, hz1, show madeCells (Value.pointer none).cells ((3 : Int).toNat * 1) = #[.pointer none, .pointer none, .pointer none] by
    apply Array.toList_inj.1
    rw [show (Value.pointer none).cells = #[.pointer none] from rfl, toList_madeCells_one]
    rfl]
  rfl
theorem refs_info : (Tryd.prog.info? 58).map (fun i => (i.zero, i.size, i.bytes)) = some (some (.pointer none), 1, 8) := by kernel_rfl
set_option maxRecDepth 100000 in
theorem make_refs (w : World) : (Instr.makeSlice 57 (.int .i64 3) (.int .i64 3)).run Tryd.prog w = .ok (.slice (some ⟨w.heap.size, 0, none⟩) 3 3) (w.alloc (.cells #[.pointer none, .pointer none, .pointer none] 58)) := by
  obtain ⟨i0, hi, hz0, hz1, hz2⟩ := info_parts refs_info
  have hr := run_make (P := Tryd.prog) w 57 58 i0 _ Tryd.underlying57 hi hz0 .i64 .i64 3 3 (by omega) (by omega) (by rw [hz2]; omega) (by omega)
  rw [hr, hz1, show madeCells (Value.pointer none).cells ((3 : Int).toNat * 1) = #[.pointer none, .pointer none, .pointer none] by
    apply Array.toList_inj.1
    rw [show (Value.pointer none).cells = #[.pointer none] from rfl, toList_madeCells_one]
    rfl]
  rfl
theorem in3 (u : Int) : inW [0, u, 0] 1 := ⟨by decide, by simp⟩
theorem word3 (u : Int) : wordF [0, u, 0] 1 = u ∧ wordF [0, u, 0] 0 = 0 ∧ wordF [0, u, 0] 2 = 0 := ⟨wordF_in (in3 u), wordF_in ⟨by decide, by simp⟩, wordF_in ⟨by decide, by simp⟩⟩
theorem set3 (u x : Int) : setF [0, u, 0] 1 x = [0, x, 0] := setF_in (in3 u)
theorem tick3 (u t : Int) (h : 0 ≤ t ∧ t < 1000) : tickF [0, u, 0] 1 t = t + 1 := by
  rw [tickF_in (in3 u), IntKind.wrap_i64]
  omega
theorem aWs3 (x : AX) (u : Int) : ∃ u2, aWs 1 [0, u, 0] x = [0, u2, 0] := by
  unfold aWs
  split
  · exact ⟨_, set3 _ _⟩
  · exact ⟨u, rfl⟩
theorem pick3 (p : Int) : ∃ k : Nat, k < 3 ∧ (p.tmod 3 + 3).tmod 3 = k ∧ -2 ≤ p.tmod 3 ∧ p.tmod 3 ≤ 2 := by
  have h1 : -2 ≤ p.tmod 3 ∧ p.tmod 3 ≤ 2 := by
    have := Int.tmod_lt_of_pos p (b := 3) (by omega)
    have := Int.lt_tmod_of_pos p (b := 3) (by omega)
    omega
  rw [Int.tmod_eq_emod_of_nonneg (by omega)]
  exact ⟨((p.tmod 3 + 3) % 3).toNat, by omega, by omega, h1⟩
theorem Ex.below_ {B : Nat} {T : Nat → Prop} {w a b : World} (h : Lo B w a) (q : Ex T a b) (hT : ∀ k, T k → B ≤ k) : Lo B w b := h.ex q hT
set_option maxRecDepth 100000 in
set_option maxHeartbeats 4000000 in
theorem ArbiterSteps_walk (v0 : Value) (ps : Nat → Pl) (v1 : Value) (ts : Nat → Int) (v2 : Value) (x : Int × Value × Nat × (Nat → Tn)) (w : World) (h0 : Plans v0 ps) (h1 : Tries v1 ts) (h2 : PlayAt w v2 x.1 x.2.1 x.2.2.1 x.2.2.2) (ht : Tab w) :
    Calls Tryd.prog 5 #[v0, v1, v2] w fun e w' => e = .returned (.bool true) ∧ Below w.heap.size w w' := by
  obtain ⟨z, va, na, l⟩ := x
  simp only at h2
  obtain ⟨rfl, hpo⟩ := h0
  have h1' : v1 = .agg (trArr ts) := h1
  subst h1'
  obtain ⟨rfl, hz, hac⟩ := h2
  obtain ⟨B, cb, rfl, -, hg⟩ := hac.form
  have HAO := Lib.hid hac.ok
  have HG := Lib.hid hg
  have HPO := Lib.hid hpo
  have HZ := Lib.hid hz
  clear hac hg hpo hz h1
  unfold plArr trArr
  have hq0 := (((blk_new' w (g := w.heap.size) (by simp) 50 #[.int .i64 (ps 0).kind, .int .i64 (ps 0).source, .int .i64 (ps 0).mode, .bool (ps 0).free, .int .i64 (ps 0).flags, .int .i64 (ps 1).kind, .int .i64 (ps 1).source, .int .i64 (ps 1).mode, .bool (ps 1).free, .int .i64 (ps 1).flags, .int .i64 (ps 2).kind, .int .i64 (ps 2).source, .int .i64 (ps 2).mode, .bool (ps 2).free, .int .i64 (ps 2).flags]).alloc (.cells #[.int .i64 (ts 0), .int .i64 (ts 1), .int .i64 (ts 2)] 51)).alloc (.cells #[.int .u64 z, .slice B na cb] 54))
  have hq1 := ((blk_new' (w.alloc (.cells #[.int .i64 (ps 0).kind, .int .i64 (ps 0).source, .int .i64 (ps 0).mode, .bool (ps 0).free, .int .i64 (ps 0).flags, .int .i64 (ps 1).kind, .int .i64 (ps 1).source, .int .i64 (ps 1).mode, .bool (ps 1).free, .int .i64 (ps 1).flags, .int .i64 (ps 2).kind, .int .i64 (ps 2).source, .int .i64 (ps 2).mode, .bool (ps 2).free, .int .i64 (ps 2).flags] 50)) (g := w.heap.size + 1) (by simp) 51 #[.int .i64 (ts 0), .int .i64 (ts 1), .int .i64 (ts 2)]).alloc (.cells #[.int .u64 z, .slice B na cb] 54))
  have hq2 := (blk_new' ((w.alloc (.cells #[.int .i64 (ps 0).kind, .int .i64 (ps 0).source, .int .i64 (ps 0).mode, .bool (ps 0).free, .int .i64 (ps 0).flags, .int .i64 (ps 1).kind, .int .i64 (ps 1).source, .int .i64 (ps 1).mode, .bool (ps 1).free, .int .i64 (ps 1).flags, .int .i64 (ps 2).kind, .int .i64 (ps 2).source, .int .i64 (ps 2).mode, .bool (ps 2).free, .int .i64 (ps 2).flags] 50)).alloc (.cells #[.int .i64 (ts 0), .int .i64 (ts 1), .int .i64 (ts 2)] 51)) (g := w.heap.size + 1 + 1) (by simp) 54 #[.int .u64 z, .slice B na cb])
  have hlo := ((((Below.refl w.heap.size w).alloc (by first | exact Nat.le_refl _ | (simp; done) | (simp; omega)) (.cells #[.int .i64 (ps 0).kind, .int .i64 (ps 0).source, .int .i64 (ps 0).mode, .bool (ps 0).free, .int .i64 (ps 0).flags, .int .i64 (ps 1).kind, .int .i64 (ps 1).source, .int .i64 (ps 1).mode, .bool (ps 1).free, .int .i64 (ps 1).flags, .int .i64 (ps 2).kind, .int .i64 (ps 2).source, .int .i64 (ps 2).mode, .bool (ps 2).free, .int .i64 (ps 2).flags] 50)).alloc (by first | exact Nat.le_refl _ | (simp; done) | (simp; omega)) (.cells #[.int .i64 (ts 0), .int .i64 (ts 1), .int .i64 (ts 2)] 51)).alloc (by first | exact Nat.le_refl _ | (simp; done) | (simp; omega)) (.cells #[.int .u64 z, .slice B na cb] 54))
  have hz0 : 0 < w.heap.size := lt_of_cell (ht 0 (by decide))
  have ht1 := ht.below hlo
  go_enter Tryd.func5, Tryd.ntmps5
  go_upto_region 1 with fail
  generalize (((w.alloc (.cells #[.int .i64 (ps 0).kind, .int .i64 (ps 0).source, .int .i64 (ps 0).mode, .bool (ps 0).free, .int .i64 (ps 0).flags, .int .i64 (ps 1).kind, .int .i64 (ps 1).source, .int .i64 (ps 1).mode, .bool (ps 1).free, .int .i64 (ps 1).flags, .int .i64 (ps 2).kind, .int .i64 (ps 2).source, .int .i64 (ps 2).mode, .bool (ps 2).free, .int .i64 (ps 2).flags] 50)).alloc (.cells #[.int .i64 (ts 0), .int .i64 (ts 1), .int .i64 (ts 2)] 51)).alloc (.cells #[.int .u64 z, .slice B na cb] 54)) = w1 at *
  obtain ⟨pb, hfb⟩ : ∃ pb, w.heap.size = pb := ⟨_, rfl⟩
  have hlo9 : Lo w.heap.size w w1 := ⟨hlo, hlo.size⟩
  have HBS := Lib.hid (Nat.le_of_eq hfb)
  simp only [hfb] at hlo9 hz0 hq0 hq1 hq2 ⊢
  obtain ⟨nb, hfb1⟩ : ∃ nb, pb + 1 = nb := ⟨_, rfl⟩
  simp only [hfb1] at hq1 hq2 ⊢
  obtain ⟨yb, hfb2⟩ : ∃ yb, nb + 1 = yb := ⟨_, rfl⟩
  simp only [hfb2] at hq2 ⊢
  have ORD0 := Lib.hid (show 0 < pb ∧ pb + 1 = nb ∧ nb + 1 = yb from ⟨hz0, hfb1, hfb2⟩)
  have T0 := Lib.hid ht1
  have L0 := Lib.hid hlo9
  have P0 := Lib.hid hq0
  have N0 := Lib.hid hq1
  have Y0 := Lib.hid hq2
  clear ht ht1 hlo hlo9 hz0 hfb hfb1 hfb2 hq0 hq1 hq2
  go_wp2_with fail
  refine (New_in 3 (by decide) (by decide) w1).mono ?_; rintro e w2 ⟨rfl, hb, hl, hsz⟩
  have hb : BankAt w2 (w1.heap.size + 1) w1.heap.size [0, 0, 0] 0 := hb
  obtain ⟨rr, hrr⟩ : ∃ rr, w1.heap.size = rr := ⟨_, rfl⟩
  have hlt : yb < rr := hrr ▸ Y0.out.lt
  simp only [hrr] at hb ⊢
  obtain ⟨g, hg⟩ : ∃ g, rr + 1 = g := ⟨_, rfl⟩
  simp only [hg] at hb ⊢
  have ORD1 := Lib.hid (show 0 < pb ∧ pb + 1 = nb ∧ nb + 1 = yb ∧ yb < rr ∧ rr + 1 = g from by have o_ := ORD0.out; omega)
  have ee : Ex (fun _ => False) w1 w2 := Ex.of_below hl
  have T_2 := Lib.hid (T0.out.ex ee (fun h => h))
  have L_2 := Lib.hid (L0.out.ex ee (fun b_ h_ => h_.elim))
  have P_2 := Lib.hid (P0.out.ex ee (fun h => h))
  have N_2 := Lib.hid (N0.out.ex ee (fun h => h))
  have Y_2 := Lib.hid (Y0.out.ex ee (fun h => h))
  have K_2 := Lib.hid (hb)
  clear ee T0 L0 P0 N0 Y0 hb hl hsz hrr hlt hg ORD0
  have Yq0 := (Y_2.out).cell 0
  have Yq1 := (Y_2.out).cell 1
  simp only [List.getElem?_toArray, List.getElem?_cons_succ, List.getElem?_cons_zero] at Yq0 Yq1
  go_wp2_with fail
  clear Yq0 Yq1
  refine (Store_any g rr [0, 0, 0] 0 1 (z) w2 K_2.out HZ.out).mono ?_; rintro e w3 ⟨rfl, hb, hx⟩
  have e1 : errF [0, 0, 0] 1 = 0 := rfl
  have e2 : setF [0, 0, 0] 1 (z) = [0, z, 0] := set3 _ _
  have e3 : tickF [0, 0, 0] 1 0 = 1 := tick3 _ _ (by decide)
  rw [e2, e3] at hb
  rw [e1]
  have ee : Ex (fun k => k = g ∨ k = rr) w2 w3 := Ex.of_ex2 (T := fun k => k = g ∨ k = rr) hx (.inl rfl) (.inr rfl)
  have T_3 := Lib.hid (T_2.out.ex ee (by have o_ := ORD1.out; omega))
  have L_3 := Lib.hid (L_2.out.ex ee (fun b_ h_ => by have o_ := ORD1.out; have h_ : b_ = g ∨ b_ = rr := h_; first | omega | (show _ ∨ _; omega)))
  have P_3 := Lib.hid (P_2.out.ex ee (by have o_ := ORD1.out; omega))
  have N_3 := Lib.hid (N_2.out.ex ee (by have o_ := ORD1.out; omega))
  have Y_3 := Lib.hid (Y_2.out.ex ee (by have o_ := ORD1.out; omega))
  have K_3 := Lib.hid (hb)
  clear ee T_2 L_2 P_2 N_2 Y_2 K_2 hb hx e1 e2 e3
  have Yq0 := (Y_3.out).cell 0
  have Yq1 := (Y_3.out).cell 1
  simp only [List.getElem?_toArray, List.getElem?_cons_succ, List.getElem?_cons_zero] at Yq0 Yq1
  by_cases hn : 200 < na
  · skip
    have kn : decide ((na : Int) > 200) = true := decide_eq_true (by omega)
    clear hn
    go_wp2_with fail
    clear Yq0 Yq1
    refine (awake_any w3 T_3.out).mono ?_; rintro e w4 ⟨rfl, hb⟩
    have ee : Ex (fun _ => False) w3 w4 := Ex.of_below hb
    have T_4 := Lib.hid (T_3.out.ex ee (fun h => h))
    have L_4 := Lib.hid (L_3.out.ex ee (fun b_ h_ => h_.elim))
    have P_4 := Lib.hid (P_3.out.ex ee (fun h => h))
    have N_4 := Lib.hid (N_3.out.ex ee (fun h => h))
    have Y_4 := Lib.hid (Y_3.out.ex ee (fun h => h))
    have K_4 := Lib.hid (K_3.out.ex ee (fun h => h) (fun h => h))
    clear ee T_3 L_3 P_3 N_3 Y_3 K_3 hb
    go_wp2_with fail
    go_ret
    exact ⟨rfl, L_4.out.low.mono HBS.out⟩
  have kn : decide ((na : Int) > 200) = false := decide_eq_false (by omega)
  have HNA := Lib.hid (show na ≤ 200 by omega)
  clear hn
  have hmk := make_ops w3
  go_upto_region 7 with fail
  clear hmk
  clear Yq0 Yq1
  have hq := Blk.new w3 27 #[.pointer none, .pointer none, .pointer none]
  obtain ⟨o3, hnm⟩ : ∃ o3, w3.heap.size = o3 := ⟨_, rfl⟩
  have hlt : g < o3 := hnm ▸ K_3.out.head.lt
  simp only [hnm] at hq ⊢
  have ORD4 := Lib.hid (show 0 < pb ∧ pb + 1 = nb ∧ nb + 1 = yb ∧ yb < rr ∧ rr + 1 = g ∧ g < o3 from by have o_ := ORD1.out; omega)
  have ee : Ex (fun _ => False) w3 (w3.alloc (.cells #[.pointer none, .pointer none, .pointer none] 27)) := (Ex.refl (fun _ => False) w3).alloc (.cells #[.pointer none, .pointer none, .pointer none] 27)
  have T_5 := Lib.hid (T_3.out.ex ee (fun h => h))
  have L_5 := Lib.hid (L_3.out.ex ee (fun b_ h_ => h_.elim))
  have P_5 := Lib.hid (P_3.out.ex ee (fun h => h))
  have N_5 := Lib.hid (N_3.out.ex ee (fun h => h))
  have Y_5 := Lib.hid (Y_3.out.ex ee (fun h => h))
  have K_5 := Lib.hid (K_3.out.ex ee (fun h => h) (fun h => h))
  have O_5 := Lib.hid (hq)
  clear ee T_3 L_3 P_3 N_3 Y_3 K_3 hq hlt hnm ORD1
  generalize w3.alloc (.cells #[.pointer none, .pointer none, .pointer none] 27) = w4 at *
  clear kn
  have hmk := make_refs w4
  go_upto_region 8 with fail
  clear hmk
  have hq := Blk.new w4 58 #[.pointer none, .pointer none, .pointer none]
  obtain ⟨r3, hnm⟩ : ∃ r3, w4.heap.size = r3 := ⟨_, rfl⟩
  have hlt : o3 < r3 := hnm ▸ O_5.out.lt
  simp only [hnm] at hq ⊢
  have ORD6 := Lib.hid (show 0 < pb ∧ pb + 1 = nb ∧ nb + 1 = yb ∧ yb < rr ∧ rr + 1 = g ∧ g < o3 ∧ o3 < r3 from by have o_ := ORD4.out; omega)
  have ee : Ex (fun _ => False) w4 (w4.alloc (.cells #[.pointer none, .pointer none, .pointer none] 58)) := (Ex.refl (fun _ => False) w4).alloc (.cells #[.pointer none, .pointer none, .pointer none] 58)
  have T_7 := Lib.hid (T_5.out.ex ee (fun h => h))
  have L_7 := Lib.hid (L_5.out.ex ee (fun b_ h_ => h_.elim))
  have P_7 := Lib.hid (P_5.out.ex ee (fun h => h))
  have N_7 := Lib.hid (N_5.out.ex ee (fun h => h))
  have Y_7 := Lib.hid (Y_5.out.ex ee (fun h => h))
  have K_7 := Lib.hid (K_5.out.ex ee (fun h => h) (fun h => h))
  have O_7 := Lib.hid (O_5.out.ex ee (fun h => h))
  have R_7 := Lib.hid (hq)
  clear ee T_5 L_5 P_5 N_5 Y_5 K_5 O_5 hq hlt hnm ORD4
  generalize w4.alloc (.cells #[.pointer none, .pointer none, .pointer none] 58) = w5 at *
  go_wp2_with fail
  obtain ⟨wk, rfl⟩ : ∃ wk : World, wk = w5 := ⟨_, rfl⟩
  go_loopw [11, 12, 13, 14] (fun kv s12 s13 s14 wr => ∃ (k : Nat) (q : Q3), k ≤ 3 ∧ kv = .int .i64 k ∧ BankAt wr g rr [0, z, 0] 1 ∧ Blk wr pb 50 (plArr ps) ∧ Blk wr nb 51 (trArr ts) ∧ Blk wr yb 54 #[.int .u64 z, .slice B na cb] ∧ Blk wr o3 27 (oArr q k) ∧ Blk wr r3 58 (rArr q k) ∧ Tab wr ∧ Lo pb w wr ∧ Trio wr r3 ps ts k q) (fun kv s12 s13 s14 _ => 3 - (intOf kv).toNat)
  case atStart => exact ⟨0, fun _ => ⟨0, 0, AX.zero 0, 0, RX.zero⟩, by omega, rfl, K_7.out, P_7.out, N_7.out, Y_7.out, O_7.out, R_7.out, T_7.out, L_7.out, Trio.empty⟩
  case round =>
    clear K_7 P_7 N_7 Y_7 O_7 R_7 T_7 L_7
    obtain ⟨k, q, hk3, rfl, hk, hp, hn, hy, ho, hr, ht, hl, hz⟩ := hrel
    have K0 := Lib.hid hk
    have P0 := Lib.hid hp
    have N0 := Lib.hid hn
    have Y0 := Lib.hid hy
    have O0 := Lib.hid ho
    have R0 := Lib.hid hr
    have T0 := Lib.hid ht
    have L0 := Lib.hid hl
    have Z0 := Lib.hid hz
    clear hk hp hn hy ho hr ht hl hz
    by_cases hlt : k < 3
    · have kd : decide ((k : Int) < 3) = true := decide_eq_true (by omega)
      have kk0 : (0 : Int) ≤ (k : Int) := by omega
      have kk3 : (k : Int) < 3 := by omega
      have HK3 := Lib.hid hlt
      clear hk3 hlt
      by_cases hm : (ps k).May (ts k)
      · skip
        have hbg := fun W hz => begin_in 1 (ts k) (ps k) W hz hm
        have HBG := Lib.hid hbg
        have HIV := Lib.hid (Pl.inv hm)
        clear hbg
        have hmy := fun W => May_any (ps k) (ts k) W
        have hpl := fun W => plain_any (ps k) (ts k) W
        simp only [decide_eq_true hm] at hmy
        obtain ⟨C, hC⟩ : ∃ C, RX.cells (ps k) (ts k) RX.zero = C := ⟨_, rfl⟩
        have HCS := Lib.hid (show C.size = 18 from hC ▸ RX.cells_size _ _ _)
        have HCO := Lib.hid (show C.all (·.oneCell') = true from hC ▸ RX.cells_one _ _ _)
        simp only [hC] at hpl hmy
        have HCC := Lib.hid hC
        have HPL := Lib.hid hpl
        have HMY := Lib.hid hmy
        clear hpl hmy hC hm
        unfold Pl.val at HBG HPL
        go_upto_region 11 with fail
        have hne : Nonempty (Held (Below wr.heap.size wr)) := ⟨⟨wr, (Below.refl _ _)⟩⟩
        have pl0 : ∀ x : Held (Below wr.heap.size wr), x.w.cell? ⟨pb, k * 5, none⟩ = some (.int .i64 (ps k).kind) := fun x => ((P0.out.bl x.ok).cell (k * 5)).trans (plArr_cell ps HK3.out).1
        have pl1 : ∀ x : Held (Below wr.heap.size wr), x.w.cell? ⟨pb, k * 5 + 1, none⟩ = some (.int .i64 (ps k).source) := fun x => ((P0.out.bl x.ok).cell (k * 5 + 1)).trans (plArr_cell ps HK3.out).2.1
        have pl2 : ∀ x : Held (Below wr.heap.size wr), x.w.cell? ⟨pb, k * 5 + 2, none⟩ = some (.int .i64 (ps k).mode) := fun x => ((P0.out.bl x.ok).cell (k * 5 + 2)).trans (plArr_cell ps HK3.out).2.2.1
        have pl3 : ∀ x : Held (Below wr.heap.size wr), x.w.cell? ⟨pb, k * 5 + 3, none⟩ = some (.bool (ps k).free) := fun x => ((P0.out.bl x.ok).cell (k * 5 + 3)).trans (plArr_cell ps HK3.out).2.2.2.1
        have pl4 : ∀ x : Held (Below wr.heap.size wr), x.w.cell? ⟨pb, k * 5 + 4, none⟩ = some (.int .i64 (ps k).flags) := fun x => ((P0.out.bl x.ok).cell (k * 5 + 4)).trans (plArr_cell ps HK3.out).2.2.2.2
        have tl : ∀ x : Held (Below wr.heap.size wr), x.w.cell? ⟨nb, k, none⟩ = some (.int .i64 (ts k)) := fun x => ((N0.out.bl x.ok).cell k).trans (trArr_cell ts HK3.out)
        refine drawn_bars (S := (Below wr.heap.size wr)) [([0, 1, 2, 3, 4, 5], 6)] [7, 8, 9, 10, 11] (by kernel_rfl) (by kernel_rfl) (by kernel_rfl) rfl (Below.refl _ _).drew ?_
        refine Phased.go ?_
        simp only [pick, List.map_cons, List.map_nil, List.getElem?_cons_zero, List.getElem?_cons_succ, Option.getD_some]
        repeat (go_big_quiet_step (fail))
        refine wpQuiet_nil ?_
        go_wp2_with fail
        refine (HBG.out wr.drew (by have := P0.out.lt; exact Nat.lt_of_le_of_lt (Nat.zero_le _) this)).mono ?_; rintro e w7 ⟨o, b, rfl, ha, q1, q2, q3, q4, hl4⟩
        have hl5 := bl ((Below.refl wr.heap.size wr).drew) hl4
        go_wp2_with fail
        refine behind_normal ⟨(Below wr.heap.size wr), fun W h => h, hl5, ?_⟩
        refine Phased.end_ ?_
        have hne5 : Nonempty (Held (fun W => W = w7)) := ⟨⟨_, rfl⟩⟩
        simp only [pick, List.map_cons, List.map_nil, List.getElem?_cons_zero, List.getElem?_cons_succ, Option.getD_some]
        repeat (go_big_quiet_step (fail))
        refine wpQuiet_nil ?_
        clear hne5 hne pl0 pl1 pl2 pl3 pl4 tl hl4
        have AA := Lib.hid ha
        have Q := Lib.hid (show wr.heap.size ≤ o ∧ (wr.heap.size ≤ b ∨ b = 0) ∧ o < w7.heap.size ∧ b < w7.heap.size from ⟨q1, q2, q3, q4⟩)
        clear ha q1 q2 q3 q4
        have E7 := Lib.hid hl5
        have Z00 := Lib.hid Z0.out
        have LT0 := Lib.hid (R0.out.lt)
        have ee : Ex (fun _ => False) wr w7 := Ex.of_below hl5
        have K_201 := Lib.hid (K0.out.ex ee (fun h => h) (fun h => h))
        have P_201 := Lib.hid (P0.out.ex ee (fun h => h))
        have N_201 := Lib.hid (N0.out.ex ee (fun h => h))
        have Y_201 := Lib.hid (Y0.out.ex ee (fun h => h))
        have O_201 := Lib.hid (O0.out.ex ee (fun h => h))
        have R_201 := Lib.hid (R0.out.ex ee (fun h => h))
        have T_201 := Lib.hid (T0.out.ex ee (fun h => h))
        have L_201 := Lib.hid (L0.out.ex ee (fun b_ h_ => h_.elim))
        have Z_201 := Lib.hid (Z0.out.ex ee (fun b_ h_ => h_.elim))
        clear ee K0 P0 N0 Y0 O0 R0 T0 L0 Z0 hl5
        go_upto_region 12 with fail
        go_cut [14] from 56 to 62 (fun s14 wx => ∃ r, s14 = .pointer (some ⟨r, 0, none⟩) ∧ Blk wx r 46 C ∧ w7.heap.size ≤ r ∧ Below w7.heap.size w7 wx)
        case first =>
          have hne : Nonempty (Held (Below w7.heap.size w7)) := ⟨⟨w7, Below.refl _ _⟩⟩
          have pl0 : ∀ x : Held (Below w7.heap.size w7), x.w.cell? ⟨pb, k * 5, none⟩ = some (.int .i64 (ps k).kind) := fun x => ((P_201.out.bl x.ok).cell (k * 5)).trans (plArr_cell ps HK3.out).1
          have pl1 : ∀ x : Held (Below w7.heap.size w7), x.w.cell? ⟨pb, k * 5 + 1, none⟩ = some (.int .i64 (ps k).source) := fun x => ((P_201.out.bl x.ok).cell (k * 5 + 1)).trans (plArr_cell ps HK3.out).2.1
          have pl2 : ∀ x : Held (Below w7.heap.size w7), x.w.cell? ⟨pb, k * 5 + 2, none⟩ = some (.int .i64 (ps k).mode) := fun x => ((P_201.out.bl x.ok).cell (k * 5 + 2)).trans (plArr_cell ps HK3.out).2.2.1
          have pl3 : ∀ x : Held (Below w7.heap.size w7), x.w.cell? ⟨pb, k * 5 + 3, none⟩ = some (.bool (ps k).free) := fun x => ((P_201.out.bl x.ok).cell (k * 5 + 3)).trans (plArr_cell ps HK3.out).2.2.2.1
          have pl4 : ∀ x : Held (Below w7.heap.size w7), x.w.cell? ⟨pb, k * 5 + 4, none⟩ = some (.int .i64 (ps k).flags) := fun x => ((P_201.out.bl x.ok).cell (k * 5 + 4)).trans (plArr_cell ps HK3.out).2.2.2.2
          have tl : ∀ x : Held (Below w7.heap.size w7), x.w.cell? ⟨nb, k, none⟩ = some (.int .i64 (ts k)) := fun x => ((N_201.out.bl x.ok).cell k).trans (trArr_cell ts HK3.out)
          refine drawn_sch (S := (Below w7.heap.size w7)) [] (.two [0, 1, 2, 3, 4, 5] 6 (.bar [] 7 (.bar [] 8 (.fin []))) 7 (.bar [] 6 (.bar [] 8 (.fin [])))) (by kernel_rfl) (by kernel_rfl) (by kernel_rfl) rfl (Below.refl _ _).drew ?_
          refine PhasedC.two_ ?_
          simp only [pick, List.map_cons, List.map_nil, List.getElem?_cons_zero, List.getElem?_cons_succ, Option.getD_some]
          repeat (go_big_quiet_step (fail))
          refine wpQuiet_nil ?_
          clear pl0 pl1 pl2 pl3 pl4 tl
          refine ⟨?_, ?_⟩
          · skip
            go_wp2_with fail
            refine (HPL.out w7.drew).mono ?_; rintro e w8 ⟨rfl, hb⟩
            have hb2 := bl (Below.refl w7.heap.size w7).drew hb
            go_wp2_with fail
            refine behind_normal ⟨(Below w7.heap.size w7), fun W h => h, by first | exact hb2 | exact fun _ => hb2, ?_⟩
            refine PhasedC.bar_ ?_
            simp only [pick, List.map_cons, List.map_nil, List.getElem?_cons_zero, List.getElem?_cons_succ, Option.getD_some]
            repeat (go_big_quiet_step (fail))
            refine wpQuiet_nil ?_
            go_wp2_with fail
            have LB := Lib.hid (hb2.alloc hb2.size (.cells #[.int .i64 0, .int .i64 0, .int .i64 0, .bool false, .int .i64 0, .int .i64 0, .int .i64 0, .int .i64 0, .int .u64 0, .int .i64 0, .int .i64 0, .int .i64 0, .bool false, .int .i64 0, .int .u64 0, .int .i64 0, .int .i64 0, .int .i64 0] 46))
            have BT := Lib.hid (Blk.new w8 46 #[.int .i64 0, .int .i64 0, .int .i64 0, .bool false, .int .i64 0, .int .i64 0, .int .i64 0, .int .i64 0, .int .u64 0, .int .i64 0, .int .i64 0, .int .i64 0, .bool false, .int .i64 0, .int .u64 0, .int .i64 0, .int .i64 0, .int .i64 0])
            have BS := Lib.hid hb2.size
            refine behind_normal ⟨(Below w7.heap.size w7), fun W h => h, by first | exact LB.out | exact fun _ => LB.out, ?_⟩
            refine PhasedC.bar_ ?_
            simp only [pick, List.map_cons, List.map_nil, List.getElem?_cons_zero, List.getElem?_cons_succ, Option.getD_some]
            repeat (go_big_quiet_step (fail))
            refine wpQuiet_nil ?_
            generalize hw4 : w8.alloc (.cells #[.int .i64 0, .int .i64 0, .int .i64 0, .bool false, .int .i64 0, .int .i64 0, .int .i64 0, .int .i64 0, .int .u64 0, .int .i64 0, .int .i64 0, .int .i64 0, .bool false, .int .i64 0, .int .u64 0, .int .i64 0, .int .i64 0, .int .i64 0] 46) = w9 at *
            generalize w8.heap.size = r at *
            clear hw4
            have hci : (Tryd.prog.info? 46).map (·.size) = some C.size := by rw [HCS.out]; kernel_rfl
            go_wp2_with (first | refine wpList_store_row rfl 46 _ _ rfl r C rfl rfl 46 #[.int .i64 0, .int .i64 0, .int .i64 0, .bool false, .int .i64 0, .int .i64 0, .int .i64 0, .int .i64 0, .int .u64 0, .int .i64 0, .int .i64 0, .int .i64 0, .bool false, .int .i64 0, .int .u64 0, .int .i64 0, .int .i64 0, .int .i64 0] BT.out hci HCS.out.symm HCO.out ?_)
            have LB2 := Lib.hid (below_setRow LB.out BS.out C)
            have BR := setRow_heap w9 r _ C _ _ BT.out
            refine behind_normal ⟨(Below w7.heap.size w7), fun W h => h, by first | exact LB2.out | exact fun _ => LB2.out, ?_⟩
            refine PhasedC.fin_ ?_
            simp only [pick, List.map_cons, List.map_nil, List.getElem?_cons_zero, List.getElem?_cons_succ, Option.getD_some]
            repeat (go_big_quiet_step (fail))
            refine wpQuiet_nil ?_
            go_wp2_with fail
            go_meet
            exact ⟨r, rfl, BR, BS.out, LB2.out⟩
          · skip
            go_wp2_with fail
            have LB0 := Lib.hid (((Below.refl w7.heap.size w7).alloc (Nat.le_refl _) (.cells #[.int .i64 0, .int .i64 0, .int .i64 0, .bool false, .int .i64 0, .int .i64 0, .int .i64 0, .int .i64 0, .int .u64 0, .int .i64 0, .int .i64 0, .int .i64 0, .bool false, .int .i64 0, .int .u64 0, .int .i64 0, .int .i64 0, .int .i64 0] 46)).drew)
            have BT0 := Lib.hid (show Blk (w7.alloc (.cells #[.int .i64 0, .int .i64 0, .int .i64 0, .bool false, .int .i64 0, .int .i64 0, .int .i64 0, .int .i64 0, .int .u64 0, .int .i64 0, .int .i64 0, .int .i64 0, .bool false, .int .i64 0, .int .u64 0, .int .i64 0, .int .i64 0, .int .i64 0] 46)).drew w7.heap.size 46 #[.int .i64 0, .int .i64 0, .int .i64 0, .bool false, .int .i64 0, .int .i64 0, .int .i64 0, .int .i64 0, .int .u64 0, .int .i64 0, .int .i64 0, .int .i64 0, .bool false, .int .i64 0, .int .u64 0, .int .i64 0, .int .i64 0, .int .i64 0] from (Blk.new w7 46 #[.int .i64 0, .int .i64 0, .int .i64 0, .bool false, .int .i64 0, .int .i64 0, .int .i64 0, .int .i64 0, .int .u64 0, .int .i64 0, .int .i64 0, .int .i64 0, .bool false, .int .i64 0, .int .u64 0, .int .i64 0, .int .i64 0, .int .i64 0]).drew)
            refine behind_normal ⟨(Below w7.heap.size w7), fun W h => h, by first | exact LB0.out | exact fun _ => LB0.out, ?_⟩
            refine PhasedC.bar_ ?_
            simp only [pick, List.map_cons, List.map_nil, List.getElem?_cons_zero, List.getElem?_cons_succ, Option.getD_some]
            repeat (go_big_quiet_step (fail))
            refine wpQuiet_nil ?_
            generalize hw3 : (w7.alloc (.cells #[.int .i64 0, .int .i64 0, .int .i64 0, .bool false, .int .i64 0, .int .i64 0, .int .i64 0, .int .i64 0, .int .u64 0, .int .i64 0, .int .i64 0, .int .i64 0, .bool false, .int .i64 0, .int .u64 0, .int .i64 0, .int .i64 0, .int .i64 0] 46)).drew = w8 at *
            clear hw3
            go_wp2_with fail
            refine (HPL.out w8).mono ?_; rintro e w9 ⟨rfl, hb⟩
            have LB := Lib.hid (bl LB0.out hb)
            have BT := Lib.hid (BT0.out.bl hb)
            clear hb
            go_wp2_with fail
            refine behind_normal ⟨(Below w7.heap.size w7), fun W h => h, by first | exact LB.out | exact fun _ => LB.out, ?_⟩
            refine PhasedC.bar_ ?_
            simp only [pick, List.map_cons, List.map_nil, List.getElem?_cons_zero, List.getElem?_cons_succ, Option.getD_some]
            repeat (go_big_quiet_step (fail))
            refine wpQuiet_nil ?_
            have hci : (Tryd.prog.info? 46).map (·.size) = some C.size := by rw [HCS.out]; kernel_rfl
            go_wp2_with (first | refine wpList_store_row rfl 46 _ _ rfl w7.heap.size C rfl rfl 46 #[.int .i64 0, .int .i64 0, .int .i64 0, .bool false, .int .i64 0, .int .i64 0, .int .i64 0, .int .i64 0, .int .u64 0, .int .i64 0, .int .i64 0, .int .i64 0, .bool false, .int .i64 0, .int .u64 0, .int .i64 0, .int .i64 0, .int .i64 0] BT.out hci HCS.out.symm HCO.out ?_)
            have LB2 := Lib.hid (below_setRow LB.out (Nat.le_refl _) C)
            have BR := setRow_heap w9 w7.heap.size _ C _ _ BT.out
            refine behind_normal ⟨(Below w7.heap.size w7), fun W h => h, by first | exact LB2.out | exact fun _ => LB2.out, ?_⟩
            refine PhasedC.fin_ ?_
            simp only [pick, List.map_cons, List.map_nil, List.getElem?_cons_zero, List.getElem?_cons_succ, Option.getD_some]
            repeat (go_big_quiet_step (fail))
            refine wpQuiet_nil ?_
            go_wp2_with fail
            go_meet
            exact ⟨w7.heap.size, rfl, BR, Nat.le_refl _, LB2.out⟩
        case rest =>
          obtain ⟨r, rfl, hbr, hrr, hbl⟩ := hcut
          have HRR := Lib.hid hrr
          obtain ⟨w8, rfl⟩ : ∃ W : World, W = wc := ⟨_, rfl⟩
          have E8 := Lib.hid hbl
          have ee : Ex (fun _ => False) w7 w8 := Ex.of_below hbl
          have K_202 := Lib.hid (K_201.out.ex ee (fun h => h) (fun h => h))
          have P_202 := Lib.hid (P_201.out.ex ee (fun h => h))
          have N_202 := Lib.hid (N_201.out.ex ee (fun h => h))
          have Y_202 := Lib.hid (Y_201.out.ex ee (fun h => h))
          have O_202 := Lib.hid (O_201.out.ex ee (fun h => h))
          have R_202 := Lib.hid (R_201.out.ex ee (fun h => h))
          have T_202 := Lib.hid (T_201.out.ex ee (fun h => h))
          have L_202 := Lib.hid (L_201.out.ex ee (fun b_ h_ => h_.elim))
          have Z_202 := Lib.hid (Z_201.out.ex ee (fun b_ h_ => h_.elim))
          have C_202 := Lib.hid (hbr)
          clear ee K_201 P_201 N_201 Y_201 O_201 R_201 T_201 L_201 Z_201 hbl hrr hbr
          have hci : (Tryd.prog.info? 46).map (·.size) = some C.size := by rw [HCS.out]; kernel_rfl
          have hcb := C_202.out
          go_wp2_with (first | refine wpList_load_row rfl 46 _ rfl r rfl 46 C (0, 0) _ hcb Tryd.underlying46 rfl hci ?_)
          clear hcb hci
          refine (HMY.out w8).mono ?_; rintro e w9 ⟨rfl, hb⟩
          have E9 := Lib.hid hb
          have ee : Ex (fun _ => False) w8 w9 := Ex.of_below hb
          have K_203 := Lib.hid (K_202.out.ex ee (fun h => h) (fun h => h))
          have P_203 := Lib.hid (P_202.out.ex ee (fun h => h))
          have N_203 := Lib.hid (N_202.out.ex ee (fun h => h))
          have Y_203 := Lib.hid (Y_202.out.ex ee (fun h => h))
          have O_203 := Lib.hid (O_202.out.ex ee (fun h => h))
          have R_203 := Lib.hid (R_202.out.ex ee (fun h => h))
          have T_203 := Lib.hid (T_202.out.ex ee (fun h => h))
          have L_203 := Lib.hid (L_202.out.ex ee (fun b_ h_ => h_.elim))
          have Z_203 := Lib.hid (Z_202.out.ex ee (fun b_ h_ => h_.elim))
          have C_203 := Lib.hid (C_202.out.ex ee (fun h => h))
          clear ee K_202 P_202 N_202 Y_202 O_202 R_202 T_202 L_202 Z_202 C_202 hb
          go_upto_region 17 with fail
          have ZB := Lib.hid (bl (bl E7.out E8.out) E9.out)
          have HX0 : Ex (fun _ => False) w7 w8 := Ex.of_below E8.out
          have HX1 : Ex (fun _ => False) w8 w9 := Ex.of_below E9.out
          have hsz := Nat.le_trans E8.out.size E9.out.size
          have AN := Lib.hid ((AA.out.ex HX0 (fun h => h) (fun h => h)).ex HX1 (fun h => h) (fun h => h))
          have BN := Lib.hid (show wr.heap.size ≤ o ∧ (wr.heap.size ≤ b ∨ b = 0) ∧ wr.heap.size ≤ r ∧ r ≠ o ∧ b ≠ r ∧ b < w9.heap.size ∧ r3 < wr.heap.size from by have := Q.out; have := HRR.out; have := E7.out.size; have := LT0.out; omega)
          have ZN := Lib.hid (Z00.out.new (y := ⟨o, b, AX.zero ((ps k).n (ts k)), r, RX.zero⟩) ZB.out LT0.out AN.out HIV.out (by rw [HCC.out]; exact C_203.out) (Link.zero _ _) BN.out.2.2.2.2.2.1 BN.out.1 BN.out.2.1 BN.out.2.2.1 BN.out.2.2.2.1 BN.out.2.2.2.2.1)
          have ONE := Lib.hid (show r3 < o ∧ r3 < r from by have := BN.out; omega)
          clear HX0 HX1 hsz AA AN Q HRR E7 E8 E9 ZB BN HIV Z00 LT0 Z_203 C_203 HBG HPL HMY HCC HCS HCO
          have oq := (O_203.out.cell k).trans (oArr_cell q k HK3.out)
          have rq := (R_203.out.cell k).trans (rArr_cell q k HK3.out)
          rw [show oV q k k = .pointer none from if_neg (by omega)] at oq
          rw [show rV q k k = .pointer none from if_neg (by omega)] at rq
          have of_ := O_203.out.frozen k
          have rf := R_203.out.frozen k
          go_upto_region 18 with fail
          clear oq of_
          have bb := O_203.out.set_ k (.pointer (some ⟨o, 0, none⟩))
          rw [oArr_new q HK3.out ⟨o, b, AX.zero ((ps k).n (ts k)), r, RX.zero⟩] at bb
          have BB := Lib.hid bb
          clear bb rq rf
          have ee : Ex (fun k => k = o3) w9 (w9.setCell ⟨o3, k, none⟩ (.pointer (some ⟨o, 0, none⟩))) := (Ex.refl (fun q => q = o3) w9).setCell (q := ⟨o3, k, none⟩) (.inl rfl) (.pointer (some ⟨o, 0, none⟩))
          have K_204 := Lib.hid (K_203.out.ex ee (by have o_ := ORD6.out; omega) (by have o_ := ORD6.out; omega))
          have P_204 := Lib.hid (P_203.out.ex ee (by have o_ := ORD6.out; omega))
          have N_204 := Lib.hid (N_203.out.ex ee (by have o_ := ORD6.out; omega))
          have Y_204 := Lib.hid (Y_203.out.ex ee (by have o_ := ORD6.out; omega))
          have R_204 := Lib.hid (R_203.out.ex ee (by have o_ := ORD6.out; omega))
          have T_204 := Lib.hid (T_203.out.ex ee (by have o_ := ORD6.out; omega))
          have L_204 := Lib.hid (L_203.out.ex ee (fun b_ h_ => by have o_ := ORD6.out; have h_ : b_ = o3 := h_; first | omega | (show _ ∨ _; omega)))
          have Z_204 := Lib.hid (ZN.out.ex ee (fun b_ h_ => by have o_ := ORD6.out; have h_ : b_ = o3 := h_; first | omega | (show _ ∨ _; omega)))
          have O_204 := Lib.hid (BB.out)
          clear ee K_203 P_203 N_203 Y_203 O_203 R_203 T_203 L_203 ZN BB
          generalize (w9.setCell ⟨o3, k, none⟩ (.pointer (some ⟨o, 0, none⟩))) = w10 at *
          have rq := (R_204.out.cell k).trans (rArr_cell q k HK3.out)
          rw [show rV q k k = .pointer none from if_neg (by omega)] at rq
          have rf := R_204.out.frozen k
          go_upto_region 10 with fail
          have bb := R_204.out.set_ k (.pointer (some ⟨r, 0, none⟩))
          rw [rArr_new q HK3.out ⟨o, b, AX.zero ((ps k).n (ts k)), r, RX.zero⟩] at bb
          have BB := Lib.hid bb
          clear bb rq rf
          have ee : Ex (fun k => k = r3) w10 (w10.setCell ⟨r3, k, none⟩ (.pointer (some ⟨r, 0, none⟩))) := (Ex.refl (fun q => q = r3) w10).setCell (q := ⟨r3, k, none⟩) (.inl rfl) (.pointer (some ⟨r, 0, none⟩))
          have K_205 := Lib.hid (K_204.out.ex ee (by have o_ := ORD6.out; omega) (by have o_ := ORD6.out; omega))
          have P_205 := Lib.hid (P_204.out.ex ee (by have o_ := ORD6.out; omega))
          have N_205 := Lib.hid (N_204.out.ex ee (by have o_ := ORD6.out; omega))
          have Y_205 := Lib.hid (Y_204.out.ex ee (by have o_ := ORD6.out; omega))
          have O_205 := Lib.hid (O_204.out.ex ee (by have o_ := ORD6.out; omega))
          have T_205 := Lib.hid (T_204.out.ex ee (by have o_ := ORD6.out; omega))
          have L_205 := Lib.hid (L_204.out.ex ee (fun b_ h_ => by have o_ := ORD6.out; have h_ : b_ = r3 := h_; first | omega | (show _ ∨ _; omega)))
          have Z_205 := Lib.hid (Z_204.out.ex ee (fun b_ h_ => by have o_ := ORD6.out; have h_ : b_ = r3 := h_; first | omega | (show _ ∨ _; omega)))
          have R_205 := Lib.hid (BB.out)
          clear ee K_204 P_204 N_204 Y_204 O_204 R_204 T_204 L_204 Z_204 BB
          generalize (w10.setCell ⟨r3, k, none⟩ (.pointer (some ⟨r, 0, none⟩))) = w11 at *
          go_wp2_with fail
          exact ⟨⟨k + 1, updQ q k ⟨o, b, AX.zero ((ps k).n (ts k)), r, RX.zero⟩, by have := HK3.out; omega, by go_num, K_205.out, P_205.out, N_205.out, Y_205.out, O_205.out, R_205.out, T_205.out, L_205.out, Z_205.out⟩, by have := HK3.out; simp [intOf]; omega⟩
      · skip
        have hbg := fun W => begin_bad 1 (ts k) (ps k) W hm
        have HBG := Lib.hid hbg
        clear hbg
        have hmy := fun W => May_any (ps k) (ts k) W
        have hpl := fun W => plain_any (ps k) (ts k) W
        simp only [decide_eq_false hm] at hmy
        obtain ⟨C, hC⟩ : ∃ C, RX.cells (ps k) (ts k) RX.zero = C := ⟨_, rfl⟩
        have HCS := Lib.hid (show C.size = 18 from hC ▸ RX.cells_size _ _ _)
        have HCO := Lib.hid (show C.all (·.oneCell') = true from hC ▸ RX.cells_one _ _ _)
        simp only [hC] at hpl hmy
        have HCC := Lib.hid hC
        have HPL := Lib.hid hpl
        have HMY := Lib.hid hmy
        clear hpl hmy hC hm
        unfold Pl.val at HBG HPL
        go_upto_region 11 with fail
        have hne : Nonempty (Held (Below wr.heap.size wr)) := ⟨⟨wr, (Below.refl _ _)⟩⟩
        have pl0 : ∀ x : Held (Below wr.heap.size wr), x.w.cell? ⟨pb, k * 5, none⟩ = some (.int .i64 (ps k).kind) := fun x => ((P0.out.bl x.ok).cell (k * 5)).trans (plArr_cell ps HK3.out).1
        have pl1 : ∀ x : Held (Below wr.heap.size wr), x.w.cell? ⟨pb, k * 5 + 1, none⟩ = some (.int .i64 (ps k).source) := fun x => ((P0.out.bl x.ok).cell (k * 5 + 1)).trans (plArr_cell ps HK3.out).2.1
        have pl2 : ∀ x : Held (Below wr.heap.size wr), x.w.cell? ⟨pb, k * 5 + 2, none⟩ = some (.int .i64 (ps k).mode) := fun x => ((P0.out.bl x.ok).cell (k * 5 + 2)).trans (plArr_cell ps HK3.out).2.2.1
        have pl3 : ∀ x : Held (Below wr.heap.size wr), x.w.cell? ⟨pb, k * 5 + 3, none⟩ = some (.bool (ps k).free) := fun x => ((P0.out.bl x.ok).cell (k * 5 + 3)).trans (plArr_cell ps HK3.out).2.2.2.1
        have pl4 : ∀ x : Held (Below wr.heap.size wr), x.w.cell? ⟨pb, k * 5 + 4, none⟩ = some (.int .i64 (ps k).flags) := fun x => ((P0.out.bl x.ok).cell (k * 5 + 4)).trans (plArr_cell ps HK3.out).2.2.2.2
        have tl : ∀ x : Held (Below wr.heap.size wr), x.w.cell? ⟨nb, k, none⟩ = some (.int .i64 (ts k)) := fun x => ((N0.out.bl x.ok).cell k).trans (trArr_cell ts HK3.out)
        refine drawn_bars (S := (Below wr.heap.size wr)) [([0, 1, 2, 3, 4, 5], 6)] [7, 8, 9, 10, 11] (by kernel_rfl) (by kernel_rfl) (by kernel_rfl) rfl (Below.refl _ _).drew ?_
        refine Phased.go ?_
        simp only [pick, List.map_cons, List.map_nil, List.getElem?_cons_zero, List.getElem?_cons_succ, Option.getD_some]
        repeat (go_big_quiet_step (fail))
        refine wpQuiet_nil ?_
        go_wp2_with fail
        refine (HBG.out wr.drew).mono ?_; rintro e w7 ⟨rfl, hl4⟩
        have hl5 := bl ((Below.refl wr.heap.size wr).drew) hl4
        go_wp2_with fail
        refine behind_normal ⟨(Below wr.heap.size wr), fun W h => h, hl5, ?_⟩
        refine Phased.end_ ?_
        have hne5 : Nonempty (Held (fun W => W = w7)) := ⟨⟨_, rfl⟩⟩
        simp only [pick, List.map_cons, List.map_nil, List.getElem?_cons_zero, List.getElem?_cons_succ, Option.getD_some]
        repeat (go_big_quiet_step (fail))
        refine wpQuiet_nil ?_
        clear hne5 hne pl0 pl1 pl2 pl3 pl4 tl hl4
        have E7 := Lib.hid hl5
        have Z00 := Lib.hid Z0.out
        have LT0 := Lib.hid (R0.out.lt)
        have ee : Ex (fun _ => False) wr w7 := Ex.of_below hl5
        have K_201 := Lib.hid (K0.out.ex ee (fun h => h) (fun h => h))
        have P_201 := Lib.hid (P0.out.ex ee (fun h => h))
        have N_201 := Lib.hid (N0.out.ex ee (fun h => h))
        have Y_201 := Lib.hid (Y0.out.ex ee (fun h => h))
        have O_201 := Lib.hid (O0.out.ex ee (fun h => h))
        have R_201 := Lib.hid (R0.out.ex ee (fun h => h))
        have T_201 := Lib.hid (T0.out.ex ee (fun h => h))
        have L_201 := Lib.hid (L0.out.ex ee (fun b_ h_ => h_.elim))
        have Z_201 := Lib.hid (Z0.out.ex ee (fun b_ h_ => h_.elim))
        clear ee K0 P0 N0 Y0 O0 R0 T0 L0 Z0 hl5
        go_upto_region 12 with fail
        go_cut [14] from 56 to 62 (fun s14 wx => ∃ r, s14 = .pointer (some ⟨r, 0, none⟩) ∧ Blk wx r 46 C ∧ w7.heap.size ≤ r ∧ Below w7.heap.size w7 wx)
        case first =>
          have hne : Nonempty (Held (Below w7.heap.size w7)) := ⟨⟨w7, Below.refl _ _⟩⟩
          have pl0 : ∀ x : Held (Below w7.heap.size w7), x.w.cell? ⟨pb, k * 5, none⟩ = some (.int .i64 (ps k).kind) := fun x => ((P_201.out.bl x.ok).cell (k * 5)).trans (plArr_cell ps HK3.out).1
          have pl1 : ∀ x : Held (Below w7.heap.size w7), x.w.cell? ⟨pb, k * 5 + 1, none⟩ = some (.int .i64 (ps k).source) := fun x => ((P_201.out.bl x.ok).cell (k * 5 + 1)).trans (plArr_cell ps HK3.out).2.1
          have pl2 : ∀ x : Held (Below w7.heap.size w7), x.w.cell? ⟨pb, k * 5 + 2, none⟩ = some (.int .i64 (ps k).mode) := fun x => ((P_201.out.bl x.ok).cell (k * 5 + 2)).trans (plArr_cell ps HK3.out).2.2.1
          have pl3 : ∀ x : Held (Below w7.heap.size w7), x.w.cell? ⟨pb, k * 5 + 3, none⟩ = some (.bool (ps k).free) := fun x => ((P_201.out.bl x.ok).cell (k * 5 + 3)).trans (plArr_cell ps HK3.out).2.2.2.1
          have pl4 : ∀ x : Held (Below w7.heap.size w7), x.w.cell? ⟨pb, k * 5 + 4, none⟩ = some (.int .i64 (ps k).flags) := fun x => ((P_201.out.bl x.ok).cell (k * 5 + 4)).trans (plArr_cell ps HK3.out).2.2.2.2
          have tl : ∀ x : Held (Below w7.heap.size w7), x.w.cell? ⟨nb, k, none⟩ = some (.int .i64 (ts k)) := fun x => ((N_201.out.bl x.ok).cell k).trans (trArr_cell ts HK3.out)
          refine drawn_sch (S := (Below w7.heap.size w7)) [] (.two [0, 1, 2, 3, 4, 5] 6 (.bar [] 7 (.bar [] 8 (.fin []))) 7 (.bar [] 6 (.bar [] 8 (.fin [])))) (by kernel_rfl) (by kernel_rfl) (by kernel_rfl) rfl (Below.refl _ _).drew ?_
          refine PhasedC.two_ ?_
          simp only [pick, List.map_cons, List.map_nil, List.getElem?_cons_zero, List.getElem?_cons_succ, Option.getD_some]
          repeat (go_big_quiet_step (fail))
          refine wpQuiet_nil ?_
          clear pl0 pl1 pl2 pl3 pl4 tl
          refine ⟨?_, ?_⟩
          · skip
            go_wp2_with fail
            refine (HPL.out w7.drew).mono ?_; rintro e w8 ⟨rfl, hb⟩
            have hb2 := bl (Below.refl w7.heap.size w7).drew hb
            go_wp2_with fail
            refine behind_normal ⟨(Below w7.heap.size w7), fun W h => h, by first | exact hb2 | exact fun _ => hb2, ?_⟩
            refine PhasedC.bar_ ?_
            simp only [pick, List.map_cons, List.map_nil, List.getElem?_cons_zero, List.getElem?_cons_succ, Option.getD_some]
            repeat (go_big_quiet_step (fail))
            refine wpQuiet_nil ?_
            go_wp2_with fail
            have LB := Lib.hid (hb2.alloc hb2.size (.cells #[.int .i64 0, .int .i64 0, .int .i64 0, .bool false, .int .i64 0, .int .i64 0, .int .i64 0, .int .i64 0, .int .u64 0, .int .i64 0, .int .i64 0, .int .i64 0, .bool false, .int .i64 0, .int .u64 0, .int .i64 0, .int .i64 0, .int .i64 0] 46))
            have BT := Lib.hid (Blk.new w8 46 #[.int .i64 0, .int .i64 0, .int .i64 0, .bool false, .int .i64 0, .int .i64 0, .int .i64 0, .int .i64 0, .int .u64 0, .int .i64 0, .int .i64 0, .int .i64 0, .bool false, .int .i64 0, .int .u64 0, .int .i64 0, .int .i64 0, .int .i64 0])
            have BS := Lib.hid hb2.size
            refine behind_normal ⟨(Below w7.heap.size w7), fun W h => h, by first | exact LB.out | exact fun _ => LB.out, ?_⟩
            refine PhasedC.bar_ ?_
            simp only [pick, List.map_cons, List.map_nil, List.getElem?_cons_zero, List.getElem?_cons_succ, Option.getD_some]
            repeat (go_big_quiet_step (fail))
            refine wpQuiet_nil ?_
            generalize hw4 : w8.alloc (.cells #[.int .i64 0, .int .i64 0, .int .i64 0, .bool false, .int .i64 0, .int .i64 0, .int .i64 0, .int .i64 0, .int .u64 0, .int .i64 0, .int .i64 0, .int .i64 0, .bool false, .int .i64 0, .int .u64 0, .int .i64 0, .int .i64 0, .int .i64 0] 46) = w9 at *
            generalize w8.heap.size = r at *
            clear hw4
            have hci : (Tryd.prog.info? 46).map (·.size) = some C.size := by rw [HCS.out]; kernel_rfl
            go_wp2_with (first | refine wpList_store_row rfl 46 _ _ rfl r C rfl rfl 46 #[.int .i64 0, .int .i64 0, .int .i64 0, .bool false, .int .i64 0, .int .i64 0, .int .i64 0, .int .i64 0, .int .u64 0, .int .i64 0, .int .i64 0, .int .i64 0, .bool false, .int .i64 0, .int .u64 0, .int .i64 0, .int .i64 0, .int .i64 0] BT.out hci HCS.out.symm HCO.out ?_)
            have LB2 := Lib.hid (below_setRow LB.out BS.out C)
            have BR := setRow_heap w9 r _ C _ _ BT.out
            refine behind_normal ⟨(Below w7.heap.size w7), fun W h => h, by first | exact LB2.out | exact fun _ => LB2.out, ?_⟩
            refine PhasedC.fin_ ?_
            simp only [pick, List.map_cons, List.map_nil, List.getElem?_cons_zero, List.getElem?_cons_succ, Option.getD_some]
            repeat (go_big_quiet_step (fail))
            refine wpQuiet_nil ?_
            go_wp2_with fail
            go_meet
            exact ⟨r, rfl, BR, BS.out, LB2.out⟩
          · skip
            go_wp2_with fail
            have LB0 := Lib.hid (((Below.refl w7.heap.size w7).alloc (Nat.le_refl _) (.cells #[.int .i64 0, .int .i64 0, .int .i64 0, .bool false, .int .i64 0, .int .i64 0, .int .i64 0, .int .i64 0, .int .u64 0, .int .i64 0, .int .i64 0, .int .i64 0, .bool false, .int .i64 0, .int .u64 0, .int .i64 0, .int .i64 0, .int .i64 0] 46)).drew)
            have BT0 := Lib.hid (show Blk (w7.alloc (.cells #[.int .i64 0, .int .i64 0, .int .i64 0, .bool false, .int .i64 0, .int .i64 0, .int .i64 0, .int .i64 0, .int .u64 0, .int .i64 0, .int .i64 0, .int .i64 0, .bool false, .int .i64 0, .int .u64 0, .int .i64 0, .int .i64 0, .int .i64 0] 46)).drew w7.heap.size 46 #[.int .i64 0, .int .i64 0, .int .i64 0, .bool false, .int .i64 0, .int .i64 0, .int .i64 0, .int .i64 0, .int .u64 0, .int .i64 0, .int .i64 0, .int .i64 0, .bool false, .int .i64 0, .int .u64 0, .int .i64 0, .int .i64 0, .int .i64 0] from (Blk.new w7 46 #[.int .i64 0, .int .i64 0, .int .i64 0, .bool false, .int .i64 0, .int .i64 0, .int .i64 0, .int .i64 0, .int .u64 0, .int .i64 0, .int .i64 0, .int .i64 0, .bool false, .int .i64 0, .int .u64 0, .int .i64 0, .int .i64 0, .int .i64 0]).drew)
            refine behind_normal ⟨(Below w7.heap.size w7), fun W h => h, by first | exact LB0.out | exact fun _ => LB0.out, ?_⟩
            refine PhasedC.bar_ ?_
            simp only [pick, List.map_cons, List.map_nil, List.getElem?_cons_zero, List.getElem?_cons_succ, Option.getD_some]
            repeat (go_big_quiet_step (fail))
            refine wpQuiet_nil ?_
            generalize hw3 : (w7.alloc (.cells #[.int .i64 0, .int .i64 0, .int .i64 0, .bool false, .int .i64 0, .int .i64 0, .int .i64 0, .int .i64 0, .int .u64 0, .int .i64 0, .int .i64 0, .int .i64 0, .bool false, .int .i64 0, .int .u64 0, .int .i64 0, .int .i64 0, .int .i64 0] 46)).drew = w8 at *
            clear hw3
            go_wp2_with fail
            refine (HPL.out w8).mono ?_; rintro e w9 ⟨rfl, hb⟩
            have LB := Lib.hid (bl LB0.out hb)
            have BT := Lib.hid (BT0.out.bl hb)
            clear hb
            go_wp2_with fail
            refine behind_normal ⟨(Below w7.heap.size w7), fun W h => h, by first | exact LB.out | exact fun _ => LB.out, ?_⟩
            refine PhasedC.bar_ ?_
            simp only [pick, List.map_cons, List.map_nil, List.getElem?_cons_zero, List.getElem?_cons_succ, Option.getD_some]
            repeat (go_big_quiet_step (fail))
            refine wpQuiet_nil ?_
            have hci : (Tryd.prog.info? 46).map (·.size) = some C.size := by rw [HCS.out]; kernel_rfl
            go_wp2_with (first | refine wpList_store_row rfl 46 _ _ rfl w7.heap.size C rfl rfl 46 #[.int .i64 0, .int .i64 0, .int .i64 0, .bool false, .int .i64 0, .int .i64 0, .int .i64 0, .int .i64 0, .int .u64 0, .int .i64 0, .int .i64 0, .int .i64 0, .bool false, .int .i64 0, .int .u64 0, .int .i64 0, .int .i64 0, .int .i64 0] BT.out hci HCS.out.symm HCO.out ?_)
            have LB2 := Lib.hid (below_setRow LB.out (Nat.le_refl _) C)
            have BR := setRow_heap w9 w7.heap.size _ C _ _ BT.out
            refine behind_normal ⟨(Below w7.heap.size w7), fun W h => h, by first | exact LB2.out | exact fun _ => LB2.out, ?_⟩
            refine PhasedC.fin_ ?_
            simp only [pick, List.map_cons, List.map_nil, List.getElem?_cons_zero, List.getElem?_cons_succ, Option.getD_some]
            repeat (go_big_quiet_step (fail))
            refine wpQuiet_nil ?_
            go_wp2_with fail
            go_meet
            exact ⟨w7.heap.size, rfl, BR, Nat.le_refl _, LB2.out⟩
        case rest =>
          obtain ⟨r, rfl, hbr, hrr, hbl⟩ := hcut
          have HRR := Lib.hid hrr
          obtain ⟨w8, rfl⟩ : ∃ W : World, W = wc := ⟨_, rfl⟩
          have E8 := Lib.hid hbl
          have ee : Ex (fun _ => False) w7 w8 := Ex.of_below hbl
          have K_202 := Lib.hid (K_201.out.ex ee (fun h => h) (fun h => h))
          have P_202 := Lib.hid (P_201.out.ex ee (fun h => h))
          have N_202 := Lib.hid (N_201.out.ex ee (fun h => h))
          have Y_202 := Lib.hid (Y_201.out.ex ee (fun h => h))
          have O_202 := Lib.hid (O_201.out.ex ee (fun h => h))
          have R_202 := Lib.hid (R_201.out.ex ee (fun h => h))
          have T_202 := Lib.hid (T_201.out.ex ee (fun h => h))
          have L_202 := Lib.hid (L_201.out.ex ee (fun b_ h_ => h_.elim))
          have Z_202 := Lib.hid (Z_201.out.ex ee (fun b_ h_ => h_.elim))
          have C_202 := Lib.hid (hbr)
          clear ee K_201 P_201 N_201 Y_201 O_201 R_201 T_201 L_201 Z_201 hbl hrr hbr
          have hci : (Tryd.prog.info? 46).map (·.size) = some C.size := by rw [HCS.out]; kernel_rfl
          have hcb := C_202.out
          go_wp2_with (first | refine wpList_load_row rfl 46 _ rfl r rfl 46 C (0, 0) _ hcb Tryd.underlying46 rfl hci ?_)
          clear hcb hci
          refine (HMY.out w8).mono ?_; rintro e w9 ⟨rfl, hb⟩
          have E9 := Lib.hid hb
          have ee : Ex (fun _ => False) w8 w9 := Ex.of_below hb
          have K_203 := Lib.hid (K_202.out.ex ee (fun h => h) (fun h => h))
          have P_203 := Lib.hid (P_202.out.ex ee (fun h => h))
          have N_203 := Lib.hid (N_202.out.ex ee (fun h => h))
          have Y_203 := Lib.hid (Y_202.out.ex ee (fun h => h))
          have O_203 := Lib.hid (O_202.out.ex ee (fun h => h))
          have R_203 := Lib.hid (R_202.out.ex ee (fun h => h))
          have T_203 := Lib.hid (T_202.out.ex ee (fun h => h))
          have L_203 := Lib.hid (L_202.out.ex ee (fun b_ h_ => h_.elim))
          have Z_203 := Lib.hid (Z_202.out.ex ee (fun b_ h_ => h_.elim))
          have C_203 := Lib.hid (C_202.out.ex ee (fun h => h))
          clear ee K_202 P_202 N_202 Y_202 O_202 R_202 T_202 L_202 Z_202 C_202 hb
          go_wp2_with fail
          refine (awake_any w9 T_203.out).mono ?_; rintro e w10 ⟨rfl, hb⟩
          have ee : Ex (fun _ => False) w9 w10 := Ex.of_below hb
          have K_204 := Lib.hid (K_203.out.ex ee (fun h => h) (fun h => h))
          have P_204 := Lib.hid (P_203.out.ex ee (fun h => h))
          have N_204 := Lib.hid (N_203.out.ex ee (fun h => h))
          have Y_204 := Lib.hid (Y_203.out.ex ee (fun h => h))
          have O_204 := Lib.hid (O_203.out.ex ee (fun h => h))
          have R_204 := Lib.hid (R_203.out.ex ee (fun h => h))
          have T_204 := Lib.hid (T_203.out.ex ee (fun h => h))
          have L_204 := Lib.hid (L_203.out.ex ee (fun b_ h_ => h_.elim))
          have Z_204 := Lib.hid (Z_203.out.ex ee (fun b_ h_ => h_.elim))
          have C_204 := Lib.hid (C_203.out.ex ee (fun h => h))
          clear ee K_203 P_203 N_203 Y_203 O_203 R_203 T_203 L_203 Z_203 C_203 hb
          go_wp2_with fail
          go_ret
          exact ⟨rfl, L_204.out.low.mono HBS.out⟩
    · have hk : k = 3 := by omega
      have kd : decide ((k : Int) < 3) = false := decide_eq_false (by omega)
      have O1 := Lib.hid (show Blk wr o3 27 (oArr q 3) from hk ▸ O0.out)
      have R1 := Lib.hid (show Blk wr r3 58 (rArr q 3) from hk ▸ R0.out)
      have Z1 := Lib.hid (show Trio wr r3 ps ts 3 q from hk ▸ Z0.out)
      clear O0 R0 Z0 hk hlt hk3
      have Yq0 := (Y0.out).cell 0
      have Yq1 := (Y0.out).cell 1
      simp only [List.getElem?_toArray, List.getElem?_cons_succ, List.getElem?_cons_zero] at Yq0 Yq1
      go_wp2_with fail
      clear Yq0 Yq1
      clear kd
      obtain ⟨wk2, rfl⟩ : ∃ wk : World, wk = wr := ⟨_, rfl⟩
      go_loopw [15, 16, 17, 18, 19, 20, 21] (fun s15 s16 s17 s18 s19 s20 s21 wr => ∃ (i : Nat) (q : Q3) (u t : Int), i ≤ na ∧ s17 = .int .i64 i ∧ s15 = .int .u64 u ∧ s16 = .int .i64 t ∧ 1 ≤ t ∧ t ≤ (i : Int) + 1 ∧ BankAt wr g rr [0, u, 0] t ∧ Blk wr pb 50 (plArr ps) ∧ Blk wr nb 51 (trArr ts) ∧ Blk wr yb 54 #[.int .u64 z, .slice B na cb] ∧ Blk wr o3 27 (oArr q 3) ∧ Blk wr r3 58 (rArr q 3) ∧ Tab wr ∧ Lo pb w wr ∧ Trio wr r3 ps ts 3 q) (fun s15 s16 s17 s18 s19 s20 s21 _ => na - (intOf s17).toNat)
      case atStart => exact ⟨0, q, z, 1, by omega, rfl, rfl, rfl, by omega, by omega, K0.out, P0.out, N0.out, Y0.out, O1.out, R1.out, T0.out, L0.out, Z1.out⟩
      case round =>
        clear K0 P0 N0 Y0 O1 R1 T0 L0 Z1
        obtain ⟨i, q, u, t, hi, rfl, rfl, rfl, ht1, ht2, hk, hp, hn, hy, ho, hr, ht, hl, hz⟩ := hrel
        have K0 := Lib.hid hk
        have P0 := Lib.hid hp
        have N0 := Lib.hid hn
        have Y0 := Lib.hid hy
        have O0 := Lib.hid ho
        have R0 := Lib.hid hr
        have T0 := Lib.hid ht
        have L0 := Lib.hid hl
        have Z0 := Lib.hid hz
        have HT := Lib.hid (show 1 ≤ t ∧ t ≤ (i : Int) + 1 from ⟨ht1, ht2⟩)
        have HUR := Lib.hid (show 0 ≤ u ∧ u ≤ 18446744073709551615 from (word3 u).1 ▸ wordF_range hk 1)
        clear hk hp hn hy ho hr ht hl hz ht1 ht2
        by_cases hlt : i < na
        · have kd : decide ((i : Int) < (na : Int)) = true := decide_eq_true (by omega)
          have ki0 : (0 : Int) ≤ (i : Int) := by omega
          have ki1 : (i : Int) < (na : Int) := by omega
          have ki5 : (i : Int) ≤ 200 := by have := HNA.out; omega
          have HI := Lib.hid hlt
          have HT5 := Lib.hid (show 1 ≤ t ∧ t ≤ 201 by have := HT.out; omega)
          clear hi hlt
          obtain ⟨bb, ob, rfl, hbb, hcb⟩ := HG.out (by have := HI.out; omega)
          have p0 := (L0.out.low.cell (p := ⟨bb, ob + i * 3, none⟩) (Nat.lt_of_lt_of_le hbb HBS.out)).trans (hcb i HI.out).1
          have p1 := (L0.out.low.cell (p := ⟨bb, ob + i * 3 + 1, none⟩) (Nat.lt_of_lt_of_le hbb HBS.out)).trans (hcb i HI.out).2.1
          have p2 := (L0.out.low.cell (p := ⟨bb, ob + i * 3 + 2, none⟩) (Nat.lt_of_lt_of_le hbb HBS.out)).trans (hcb i HI.out).2.2
          have HAI := Lib.hid (HAO.out i HI.out)
          have HBL := Lib.hid (Nat.lt_of_lt_of_le hbb HBS.out)
          generalize l i = a at *
          obtain ⟨who, sto, ax⟩ := a
          simp only at p0 p1 p2
          obtain ⟨k, hk3, hke, hp1, hp2⟩ := pick3 who
          have HK3 := Lib.hid hk3
          have kk0 : (0 : Int) ≤ (k : Int) := by omega
          have kk3 : (k : Int) < 3 := by omega
          clear hcb hk3 hbb
          have HAX := Lib.hid (show 0 ≤ ax ∧ ax ≤ 18446744073709551615 from HAI.out)
          clear HAI
          cases sto with
          | true =>
            have HPX := Lib.hid ((L0.out.low.cell (p := ⟨bb, ob + i * 3 + 2, none⟩) HBL.out).symm.trans p2)
            have w5 : wrap64 (t + 1) = t + 1 := by unfold wrap64; have := HT5.out; omega
            have Yq0 := (Y0.out).cell 0
            have Yq1 := (Y0.out).cell 1
            simp only [List.getElem?_toArray, List.getElem?_cons_succ, List.getElem?_cons_zero] at Yq0 Yq1
            go_wp2_with fail
            clear Yq0 Yq1
            refine (Store_any g rr [0, u, 0] t 1 (ax) wr K0.out HAX.out).mono ?_; rintro e w2 ⟨rfl, hb, hx⟩
            have e1 : errF [0, u, 0] 1 = 0 := errF_in (in3 u)
            have e2 : setF [0, u, 0] 1 (ax) = [0, ax, 0] := set3 _ _
            have e3 : tickF [0, u, 0] 1 t = (t + 1) := tick3 _ _ (by have := HT5.out; omega)
            rw [e2, e3] at hb
            rw [e1]
            have ee : Ex (fun k => k = g ∨ k = rr) wr w2 := Ex.of_ex2 (T := fun k => k = g ∨ k = rr) hx (.inl rfl) (.inr rfl)
            have P_401 := Lib.hid (P0.out.ex ee (by have o_ := ORD6.out; omega))
            have N_401 := Lib.hid (N0.out.ex ee (by have o_ := ORD6.out; omega))
            have Y_401 := Lib.hid (Y0.out.ex ee (by have o_ := ORD6.out; omega))
            have O_401 := Lib.hid (O0.out.ex ee (by have o_ := ORD6.out; omega))
            have R_401 := Lib.hid (R0.out.ex ee (by have o_ := ORD6.out; omega))
            have T_401 := Lib.hid (T0.out.ex ee (by have o_ := ORD6.out; omega))
            have L_401 := Lib.hid (L0.out.ex ee (fun b_ h_ => by have o_ := ORD6.out; have h_ : b_ = g ∨ b_ = rr := h_; first | omega | (show _ ∨ _; omega)))
            have Z_401 := Lib.hid (Z0.out.ex ee (fun b_ h_ => by have o_ := ORD6.out; have h_ : b_ = g ∨ b_ = rr := h_; first | omega | (show _ ∨ _; omega)))
            have K_401 := Lib.hid (hb)
            skip
            clear ee K0 P0 N0 Y0 O0 R0 T0 L0 Z0 hb hx e1 e2 e3
            have p5 := ((L_401.out.low.cell (p := ⟨bb, ob + i * 3 + 2, none⟩) HBL.out)).trans (HPX.out)
            have Yq0 := (Y_401.out).cell 0
            have Yq1 := (Y_401.out).cell 1
            simp only [List.getElem?_toArray, List.getElem?_cons_succ, List.getElem?_cons_zero] at Yq0 Yq1
            have W5 := Lib.hid w5
            go_upto_region 23 with fail
            clear Yq0 Yq1
            clear p0 p1 p2 p5 hke hp1 hp2 w5
            go_wp2_with fail
            exact ⟨⟨i + 1, q, ax, t + 1, by have := HI.out; omega, by go_num, rfl, by rw [W5.out], by have := HT.out; omega, by have := HT.out; omega, K_401.out, P_401.out, N_401.out, Y_401.out, O_401.out, R_401.out, T_401.out, L_401.out, Z_401.out⟩, by have := HI.out; simp [intOf]; omega⟩
          | false =>
            obtain ⟨o, b, x, r, y, hqk⟩ : ∃ o b x r y, q k = ⟨o, b, x, r, y⟩ := ⟨_, _, _, _, _, rfl⟩
            have hzo := Z0.out.ops k HK3.out
            have hzl := Z0.out.low k HK3.out
            have hco : oV q 3 k = .pointer (some ⟨o, 0, none⟩) := by unfold oV; rw [if_pos HK3.out, hqk]
            have hcr : rV q 3 k = .pointer (some ⟨r, 0, none⟩) := by unfold rV; rw [if_pos HK3.out, hqk]
            rw [hqk] at hzo hzl
            have A0 := Lib.hid hzo.1
            have F0 := Lib.hid hzo.2.2.1
            have HIV := Lib.hid hzo.2.1
            have HLK := Lib.hid hzo.2.2.2.1
            have HPK := Lib.hid (HPO.out k HK3.out)
            have HQ := Lib.hid hqk
            have ORK := Lib.hid (show (0 < pb ∧ pb + 1 = nb ∧ nb + 1 = yb ∧ yb < rr ∧ rr + 1 = g ∧ g < o3 ∧ o3 < r3) ∧ r3 < o ∧ r3 < r ∧ (r3 < b ∨ b = 0) ∧ r ≠ o ∧ b ≠ r ∧ b ≠ o from ⟨ORD6.out, hzl.1, hzl.2.1, hzl.2.2.1, hzl.2.2.2.1, hzl.2.2.2.2, hzo.1.ne⟩)
            have HCO := Lib.hid hco
            have HCR := Lib.hid hcr
            have hle := hzo.2.2.2.1.how
            simp only at hle
            clear hzo hzl hqk hco hcr
            by_cases hh : x.how = 0
            · skip
              have kh : (y.how == 0) = true := by rw [hle]; simpa using hh
              have w5 : wrap64 (t + 1) = t + 1 := by unfold wrap64; have := HT5.out; omega
              have HAT := Lib.hid (show aT 1 [0, u, 0] x t = t + 1 by unfold aT; rw [if_pos hh]; exact tick3 _ _ (by have := HT5.out; omega))
              clear hh hle
              have W5 := Lib.hid w5
              have oq := (O0.out.cell k).trans (oArr_cell q 3 HK3.out)
              have rq := (R0.out.cell k).trans (rArr_cell q 3 HK3.out)
              rw [HCO.out] at oq
              rw [HCR.out] at rq
              have r0 : wr.cell? ⟨r, 0, none⟩ = some (.int .i64 (ps k).rk) := F0.out.cell 0
              have r9 : wr.cell? ⟨r, 9, none⟩ = some (.int .i64 y.how) := F0.out.cell 9
              have Yq0 := (Y0.out).cell 0
              have Yq1 := (Y0.out).cell 1
              simp only [List.getElem?_toArray, List.getElem?_cons_succ, List.getElem?_cons_zero] at Yq0 Yq1
              go_wp2_with fail
              clear Yq0 Yq1
              clear p0 p1 p2 hke hp1 hp2 oq rq r0 r9 kh w5
              refine (Step_any g rr o b [0, u, 0] t (ps k).kd (Pl.kd_ok HPK.out) _ 1 x HIV.out wr A0.out K0.out T0.out (by have o_ := ORK.out; omega)).mono ?_; rintro e w2 ⟨rfl, hb, ha, hx⟩
              have hrs := RStep_any r (ps k) HPK.out (ts k) x y HIV.out HLK.out [0, u, 0] 1 (in3 u) (by rw [(word3 u).1]; exact HUR.out) w2 (Blk.ex F0.out hx (by have o_ := ORK.out; omega))
              have hi2 := HIV.out.step (at_ := 1) (ws := [0, u, 0]) (by rw [(word3 u).1]; exact HUR.out)
              obtain ⟨u2, hu2⟩ := aWs3 x u
              rw [hu2, HAT.out] at hb
              rw [hu2, (word3 u).1, (word3 u2).1] at hrs
              obtain ⟨x2, hx2⟩ : ∃ x2, aStep (ps k).kd 1 [0, u, 0] x = x2 := ⟨_, rfl⟩
              rw [hx2] at ha hrs hi2 ⊢
              have HRS := Lib.hid hrs
              have HI2 := Lib.hid hi2
              have E1 := Lib.hid hx
              clear hrs hi2 hu2 hx2 HAT
              have ee : Ex (fun k => k = g ∨ k = rr ∨ k = o) wr w2 := hx
              have P_301 := Lib.hid (P0.out.ex ee (by have o_ := ORK.out; omega))
              have N_301 := Lib.hid (N0.out.ex ee (by have o_ := ORK.out; omega))
              have Y_301 := Lib.hid (Y0.out.ex ee (by have o_ := ORK.out; omega))
              have O_301 := Lib.hid (O0.out.ex ee (by have o_ := ORK.out; omega))
              have R_301 := Lib.hid (R0.out.ex ee (by have o_ := ORK.out; omega))
              have T_301 := Lib.hid (T0.out.ex ee (by have o_ := ORK.out; omega))
              have L_301 := Lib.hid (L0.out.ex ee (fun b_ h_ => by have o_ := ORK.out; have h_ : b_ = g ∨ b_ = rr ∨ b_ = o := h_; first | omega | (show _ ∨ _; omega)))
              have F_301 := Lib.hid (F0.out.ex ee (by have o_ := ORK.out; omega))
              have K_301 := Lib.hid (hb)
              have A_301 := Lib.hid (ha)
              clear ee K0 P0 N0 Y0 O0 R0 T0 L0 F0 A0 hb ha hx
              have rq := (R_301.out.cell k).trans (rArr_cell q 3 HK3.out)
              rw [HCR.out] at rq
              go_wp2_with fail
              clear rq
              have A1W := Lib.hid (show ArbAt w2 o b (ps k).kd 1 x2 from A_301.out)
              refine HRS.out.mono ?_; rintro e w3 ⟨y2, rfl, hf, hlk, hx⟩
              have HL2 := Lib.hid hlk
              have E2 := Lib.hid hx
              clear HRS hlk
              have ee : Ex (fun k => k = r) w2 w3 := hx
              have K_302 := Lib.hid (K_301.out.ex ee (by have o_ := ORK.out; omega) (by have o_ := ORK.out; omega))
              have P_302 := Lib.hid (P_301.out.ex ee (by have o_ := ORK.out; omega))
              have N_302 := Lib.hid (N_301.out.ex ee (by have o_ := ORK.out; omega))
              have Y_302 := Lib.hid (Y_301.out.ex ee (by have o_ := ORK.out; omega))
              have O_302 := Lib.hid (O_301.out.ex ee (by have o_ := ORK.out; omega))
              have R_302 := Lib.hid (R_301.out.ex ee (by have o_ := ORK.out; omega))
              have T_302 := Lib.hid (T_301.out.ex ee (by have o_ := ORK.out; omega))
              have L_302 := Lib.hid (L_301.out.ex ee (fun b_ h_ => by have o_ := ORK.out; have h_ : b_ = r := h_; first | omega | (show _ ∨ _; omega)))
              have A_302 := Lib.hid (A_301.out.ex ee (by have o_ := ORK.out; omega) (by have o_ := ORK.out; omega))
              have F_302 := Lib.hid (hf)
              clear ee K_301 P_301 N_301 Y_301 O_301 R_301 T_301 L_301 F_301 A_301 hf hx HLK HIV
              have ZN := Lib.hid (Z0.out.turn HK3.out (by rw [HQ.out]; exact E1.out) (by rw [HQ.out]; exact E2.out) (by have o_ := ORK.out; omega) (by have o_ := ORK.out; omega) (by rw [HQ.out]; exact A1W.out) HI2.out (by rw [HQ.out]; exact F_302.out) HL2.out)
              have SAME := Lib.hid (arr_same q HK3.out x2 y2)
              clear Z0 E1 E2 A1W
              have oq := (O_302.out.cell k).trans (oArr_cell q 3 HK3.out)
              rw [HCO.out] at oq
              go_wp2_with fail
              clear oq
              have HG2 := Lib.hid (Got_any o b (ps k).kd 1 x2 w3 A_302.out)
              unfold St.val at HG2
              refine (HG2.out).mono ?_; rintro e w4 ⟨rfl, hb⟩
              clear HG2
              have ee : Ex (fun _ => False) w3 w4 := Ex.of_below hb
              have K_303 := Lib.hid (K_302.out.ex ee (fun h => h) (fun h => h))
              have P_303 := Lib.hid (P_302.out.ex ee (fun h => h))
              have N_303 := Lib.hid (N_302.out.ex ee (fun h => h))
              have Y_303 := Lib.hid (Y_302.out.ex ee (fun h => h))
              have O_303 := Lib.hid (O_302.out.ex ee (fun h => h))
              have R_303 := Lib.hid (R_302.out.ex ee (fun h => h))
              have T_303 := Lib.hid (T_302.out.ex ee (fun h => h))
              have L_303 := Lib.hid (L_302.out.ex ee (fun b_ h_ => h_.elim))
              have F_303 := Lib.hid (F_302.out.ex ee (fun h => h))
              have A_303 := Lib.hid (A_302.out.ex ee (fun h => h) (fun h => h))
              have Z_303 := Lib.hid (ZN.out.ex ee (fun b_ h_ => h_.elim))
              clear ee K_302 P_302 N_302 Y_302 O_302 R_302 T_302 L_302 F_302 A_302 ZN hb
              go_upto_region 35 with fail
              have hq := Blk.new w4 34 #[.int .i64 x2.st.mode, .int .i64 x2.st.source, .bool x2.st.hold, .int .i64 x2.st.flags, .int .u64 x2.st.epoch]
              obtain ⟨sb, hsb⟩ : ∃ sb, w4.heap.size = sb := ⟨_, rfl⟩
              simp only [hsb] at hq ⊢
              have ee : Ex (fun _ => False) w4 (w4.alloc (.cells #[.int .i64 x2.st.mode, .int .i64 x2.st.source, .bool x2.st.hold, .int .i64 x2.st.flags, .int .u64 x2.st.epoch] 34)) := (Ex.refl (fun _ => False) w4).alloc (.cells #[.int .i64 x2.st.mode, .int .i64 x2.st.source, .bool x2.st.hold, .int .i64 x2.st.flags, .int .u64 x2.st.epoch] 34)
              have K_304 := Lib.hid (K_303.out.ex ee (fun h => h) (fun h => h))
              have P_304 := Lib.hid (P_303.out.ex ee (fun h => h))
              have N_304 := Lib.hid (N_303.out.ex ee (fun h => h))
              have Y_304 := Lib.hid (Y_303.out.ex ee (fun h => h))
              have O_304 := Lib.hid (O_303.out.ex ee (fun h => h))
              have R_304 := Lib.hid (R_303.out.ex ee (fun h => h))
              have T_304 := Lib.hid (T_303.out.ex ee (fun h => h))
              have L_304 := Lib.hid (L_303.out.ex ee (fun b_ h_ => h_.elim))
              have F_304 := Lib.hid (F_303.out.ex ee (fun h => h))
              have A_304 := Lib.hid (A_303.out.ex ee (fun h => h) (fun h => h))
              have Z_304 := Lib.hid (Z_303.out.ex ee (fun b_ h_ => h_.elim))
              have S_304 := Lib.hid (hq)
              clear ee K_303 P_303 N_303 Y_303 O_303 R_303 T_303 L_303 F_303 A_303 Z_303 hq hsb
              generalize w4.alloc (.cells #[.int .i64 x2.st.mode, .int .i64 x2.st.source, .bool x2.st.hold, .int .i64 x2.st.flags, .int .u64 x2.st.epoch] 34) = w5 at *
              have eq0 : (x2.st.mode == x2.st.mode) = true := by simp
              have eq1 : (x2.st.source == x2.st.source) = true := by simp
              have eq2 : (x2.st.hold == x2.st.hold) = true := by simp
              have eq3 : (x2.st.flags == x2.st.flags) = true := by simp
              have eq4 : (x2.st.epoch == x2.st.epoch) = true := by simp
              have kh : (x2.how != x2.how) = false := by simp
              have ke : (x2.err != x2.err) = false := by simp
              have ks : (x2.steps != x2.steps) = false := by simp
              have ku : (u2 != u2) = false := by simp
              have kt : (t + 1 != t + 1) = false := by simp
              obtain ⟨av, hav⟩ : ∃ av : Int, (if x2.how = 1 then x2.steps else 0) = av := ⟨_, rfl⟩
              have ka : (av != av) = false := by simp
              have HAV := Lib.hid hav
              clear hav
              simp only [List.append_eq, List.cons_append, List.nil_append]
              have hne : Nonempty (Held (Below w5.heap.size w5)) := ⟨⟨w5, (Below.refl _ _)⟩⟩
              have r0 : ∀ x : Held (Below w5.heap.size w5), x.w.cell? ⟨r, 0, none⟩ = some (.int .i64 (ps k).rk) := fun x => (Blk.cell (F_304.out.bl x.ok) 0)
              have r9 : ∀ x : Held (Below w5.heap.size w5), x.w.cell? ⟨r, 9, none⟩ = some (.int .i64 x2.how) := fun x => (Blk.cell (F_304.out.bl x.ok) 9).trans (show (RX.cells (ps k) (ts k) y2)[9]? = some (.int .i64 x2.how) by rw [← HL2.out.how]; rfl)
              have r10 : ∀ x : Held (Below w5.heap.size w5), x.w.cell? ⟨r, 10, none⟩ = some (.int .i64 x2.st.mode) := fun x => (Blk.cell (F_304.out.bl x.ok) 10).trans (show (RX.cells (ps k) (ts k) y2)[10]? = some (.int .i64 x2.st.mode) by rw [← HL2.out.st]; rfl)
              have r11 : ∀ x : Held (Below w5.heap.size w5), x.w.cell? ⟨r, 11, none⟩ = some (.int .i64 x2.st.source) := fun x => (Blk.cell (F_304.out.bl x.ok) 11).trans (show (RX.cells (ps k) (ts k) y2)[11]? = some (.int .i64 x2.st.source) by rw [← HL2.out.st]; rfl)
              have r12 : ∀ x : Held (Below w5.heap.size w5), x.w.cell? ⟨r, 12, none⟩ = some (.bool x2.st.hold) := fun x => (Blk.cell (F_304.out.bl x.ok) 12).trans (show (RX.cells (ps k) (ts k) y2)[12]? = some (.bool x2.st.hold) by rw [← HL2.out.st]; rfl)
              have r13 : ∀ x : Held (Below w5.heap.size w5), x.w.cell? ⟨r, 13, none⟩ = some (.int .i64 x2.st.flags) := fun x => (Blk.cell (F_304.out.bl x.ok) 13).trans (show (RX.cells (ps k) (ts k) y2)[13]? = some (.int .i64 x2.st.flags) by rw [← HL2.out.st]; rfl)
              have r14 : ∀ x : Held (Below w5.heap.size w5), x.w.cell? ⟨r, 14, none⟩ = some (.int .u64 x2.st.epoch) := fun x => (Blk.cell (F_304.out.bl x.ok) 14).trans (show (RX.cells (ps k) (ts k) y2)[14]? = some (.int .u64 x2.st.epoch) by rw [← HL2.out.st]; rfl)
              have r15 : ∀ x : Held (Below w5.heap.size w5), x.w.cell? ⟨r, 15, none⟩ = some (.int .i64 x2.err) := fun x => (Blk.cell (F_304.out.bl x.ok) 15).trans (show (RX.cells (ps k) (ts k) y2)[15]? = some (.int .i64 x2.err) by rw [← HL2.out.err]; rfl)
              have r16 : ∀ x : Held (Below w5.heap.size w5), x.w.cell? ⟨r, 16, none⟩ = some (.int .i64 x2.steps) := fun x => (Blk.cell (F_304.out.bl x.ok) 16).trans (show (RX.cells (ps k) (ts k) y2)[16]? = some (.int .i64 x2.steps) by rw [← HL2.out.steps]; rfl)
              have r17 : ∀ x : Held (Below w5.heap.size w5), x.w.cell? ⟨r, 17, none⟩ = some (.int .i64 av) := fun x => (Blk.cell (F_304.out.bl x.ok) 17).trans (show (RX.cells (ps k) (ts k) y2)[17]? = some (.int .i64 av) by rw [← HAV.out, ← HL2.out.at_]; rfl)
              have s0 : ∀ x : Held (Below w5.heap.size w5), x.w.cell? ⟨sb, 0, none⟩ = some (.int .i64 x2.st.mode) := fun x => (Blk.cell (S_304.out.bl x.ok) 0)
              have s1 : ∀ x : Held (Below w5.heap.size w5), x.w.cell? ⟨sb, 1, none⟩ = some (.int .i64 x2.st.source) := fun x => (Blk.cell (S_304.out.bl x.ok) 1)
              have s2 : ∀ x : Held (Below w5.heap.size w5), x.w.cell? ⟨sb, 2, none⟩ = some (.bool x2.st.hold) := fun x => (Blk.cell (S_304.out.bl x.ok) 2)
              have s3 : ∀ x : Held (Below w5.heap.size w5), x.w.cell? ⟨sb, 3, none⟩ = some (.int .i64 x2.st.flags) := fun x => (Blk.cell (S_304.out.bl x.ok) 3)
              have s4 : ∀ x : Held (Below w5.heap.size w5), x.w.cell? ⟨sb, 4, none⟩ = some (.int .u64 x2.st.epoch) := fun x => (Blk.cell (S_304.out.bl x.ok) 4)
              have oq : ∀ x : Held (Below w5.heap.size w5), x.w.cell? ⟨o3, k, none⟩ = some (.pointer (some ⟨o, 0, none⟩)) := fun x => ((Blk.cell (O_304.out.bl x.ok) k).trans (oArr_cell q 3 HK3.out)).trans (congrArg some HCO.out)
              have rq : ∀ x : Held (Below w5.heap.size w5), x.w.cell? ⟨r3, k, none⟩ = some (.pointer (some ⟨r, 0, none⟩)) := fun x => ((Blk.cell (R_304.out.bl x.ok) k).trans (rArr_cell q 3 HK3.out)).trans (congrArg some HCR.out)
              refine drawn_bars (S := (Below w5.heap.size w5)) [([0, 1, 2, 3, 4, 5, 6, 7, 8, 9, 10, 11, 12, 13, 14, 15, 16, 17, 18, 19, 20, 21, 22, 23, 24, 25, 26, 27, 28, 29, 30, 31, 32, 33, 34, 35, 37, 38, 39, 40, 41, 42, 43], 36), ([44, 45, 46, 47, 48, 49, 50, 52, 53, 54, 55, 56, 57, 58], 51), ([59, 60, 61, 62, 64], 63), ([65, 66, 67, 68], 69), ([70, 71, 72, 73], 74), ([75, 76, 77, 78, 80], 79)] [81, 82] (by kernel_rfl) (by kernel_rfl) s35 rfl (Below.refl _ _).drew ?_
              refine Phased.go ?_
              simp only [pick, List.map_cons, List.map_nil, List.getElem?_cons_zero, List.getElem?_cons_succ, Option.getD_some]
              repeat (go_big_quiet_step (fail))
              refine wpQuiet_nil ?_
              go_wp2_with fail
              have ha8 : ArbAt w5.drew o b (ps k).kd 1 x2 := A_304.out.ex (T := fun _ => False) (Ex.refl _ w5).drew (fun h => h) (fun h => h)
              have hat := At_any o b (ps k).kd 1 x2 w5.drew ha8
              rw [HAV.out] at hat
              refine hat.mono ?_; rintro e w6 ⟨rfl, rfl⟩
              have hb0 := (Below.refl w5.heap.size w5).drew
              go_wp2_with fail
              refine behind_normal ⟨(Below w5.heap.size w5), fun W h => h, hb0, ?_⟩
              refine Phased.go ?_
              simp only [pick, List.map_cons, List.map_nil, List.getElem?_cons_zero, List.getElem?_cons_succ, Option.getD_some]
              repeat (go_big_quiet_step (fail))
              refine wpQuiet_nil ?_
              go_wp2_with fail
              refine (Steps_any o b (ps k).kd 1 x2 w5.drew ha8).mono ?_; rintro e w6 ⟨rfl, rfl⟩
              go_wp2_with fail
              refine behind_normal ⟨(Below w5.heap.size w5), fun W h => h, hb0, ?_⟩
              refine Phased.go ?_
              simp only [pick, List.map_cons, List.map_nil, List.getElem?_cons_zero, List.getElem?_cons_succ, Option.getD_some]
              repeat (go_big_quiet_step (fail))
              refine wpQuiet_nil ?_
              go_wp2_with fail
              have hk_ : BankAt w5.drew g rr [0, u2, 0] (t + 1) := K_304.out.ex (T := fun _ => False) (Ex.of_below hb0) (fun h => h) (fun h => h)
              refine (Peek_any g rr [0, u2, 0] (t + 1) 1 w5.drew hk_).mono ?_; rintro e w6 ⟨rfl, hb⟩
              rw [(word3 u2).1]
              have hb1 := bl hb0 hb
              clear hk_
              go_wp2_with fail
              refine behind_normal ⟨(Below w5.heap.size w5), fun W h => h, hb1, ?_⟩
              refine Phased.go ?_
              simp only [pick, List.map_cons, List.map_nil, List.getElem?_cons_zero, List.getElem?_cons_succ, Option.getD_some]
              repeat (go_big_quiet_step (fail))
              refine wpQuiet_nil ?_
              go_wp2_with fail
              have hk_ : BankAt w6 g rr [0, u2, 0] (t + 1) := K_304.out.ex (T := fun _ => False) (Ex.of_below hb1) (fun h => h) (fun h => h)
              refine (Peek_any g rr [0, u2, 0] (t + 1) 0 w6 hk_).mono ?_; rintro e w7 ⟨rfl, hb⟩
              rw [(word3 u2).2.1]
              have hb2 := bl hb1 hb
              clear hk_
              go_wp2_with fail
              refine behind_normal ⟨(Below w5.heap.size w5), fun W h => h, hb2, ?_⟩
              refine Phased.go ?_
              simp only [pick, List.map_cons, List.map_nil, List.getElem?_cons_zero, List.getElem?_cons_succ, Option.getD_some]
              repeat (go_big_quiet_step (fail))
              refine wpQuiet_nil ?_
              go_wp2_with fail
              have hk_ : BankAt w7 g rr [0, u2, 0] (t + 1) := K_304.out.ex (T := fun _ => False) (Ex.of_below hb2) (fun h => h) (fun h => h)
              refine (Peek_any g rr [0, u2, 0] (t + 1) 2 w7 hk_).mono ?_; rintro e w8 ⟨rfl, hb⟩
              rw [(word3 u2).2.2]
              have hb3 := bl hb2 hb
              clear hk_
              go_wp2_with fail
              refine behind_normal ⟨(Below w5.heap.size w5), fun W h => h, hb3, ?_⟩
              refine Phased.go ?_
              simp only [pick, List.map_cons, List.map_nil, List.getElem?_cons_zero, List.getElem?_cons_succ, Option.getD_some]
              repeat (go_big_quiet_step (fail))
              refine wpQuiet_nil ?_
              go_wp2_with fail
              have hk_ : BankAt w8 g rr [0, u2, 0] (t + 1) := K_304.out.ex (T := fun _ => False) (Ex.of_below hb3) (fun h => h) (fun h => h)
              refine (Touches_any g rr [0, u2, 0] (t + 1) w8 hk_).mono ?_; rintro e w9 ⟨rfl, rfl⟩
              clear hk_
              go_wp2_with fail
              refine behind_normal ⟨(Below w5.heap.size w5), fun W h => h, hb3, ?_⟩
              refine Phased.end_ ?_
              have hne5 : Nonempty (Held (fun W => W = w8)) := ⟨⟨_, rfl⟩⟩
              simp only [pick, List.map_cons, List.map_nil, List.getElem?_cons_zero, List.getElem?_cons_succ, Option.getD_some]
              repeat (go_big_quiet_step (fail))
              refine wpQuiet_nil ?_
              clear hne5 hne r0 r9 r10 r11 r12 r13 r14 r15 r16 r17 s0 s1 s2 s3 s4 oq rq ha8 hat hb0 hb1 hb2 kh ke ks ku kt ka eq0 eq1 eq2 eq3 eq4
              have ee : Ex (fun _ => False) w5 w8 := Ex.of_below hb3
              have K_305 := Lib.hid (K_304.out.ex ee (fun h => h) (fun h => h))
              have P_305 := Lib.hid (P_304.out.ex ee (fun h => h))
              have N_305 := Lib.hid (N_304.out.ex ee (fun h => h))
              have Y_305 := Lib.hid (Y_304.out.ex ee (fun h => h))
              have O_305 := Lib.hid (O_304.out.ex ee (fun h => h))
              have R_305 := Lib.hid (R_304.out.ex ee (fun h => h))
              have T_305 := Lib.hid (T_304.out.ex ee (fun h => h))
              have L_305 := Lib.hid (L_304.out.ex ee (fun b_ h_ => h_.elim))
              have F_305 := Lib.hid (F_304.out.ex ee (fun h => h))
              have A_305 := Lib.hid (A_304.out.ex ee (fun h => h) (fun h => h))
              have Z_305 := Lib.hid (Z_304.out.ex ee (fun b_ h_ => h_.elim))
              have S_305 := Lib.hid (S_304.out.ex ee (fun h => h))
              clear ee K_304 P_304 N_304 Y_304 O_304 R_304 T_304 L_304 F_304 A_304 Z_304 S_304 hb3
              go_upto_region 23 with fail
              go_wp2_with fail
              exact ⟨⟨i + 1, updQ q k ⟨(q k).o, (q k).b, x2, (q k).r, y2⟩, u2, t + 1, by have := HI.out; omega, by go_num, rfl, rfl, by have := HT.out; omega, by have := HT.out; omega, K_305.out, P_305.out, N_305.out, Y_305.out, (by rw [SAME.out.1]; exact O_305.out), (by rw [SAME.out.2]; exact R_305.out), T_305.out, L_305.out, Z_305.out⟩, by have := HI.out; simp [intOf]; omega⟩
            · skip
              have kh : (y.how == 0) = false := by rw [hle]; simpa using hh
              have HAT := Lib.hid (show aT 1 [0, u, 0] x t = t by unfold aT; rw [if_neg hh])
              clear hh hle
              have oq := (O0.out.cell k).trans (oArr_cell q 3 HK3.out)
              have rq := (R0.out.cell k).trans (rArr_cell q 3 HK3.out)
              rw [HCO.out] at oq
              rw [HCR.out] at rq
              have r0 : wr.cell? ⟨r, 0, none⟩ = some (.int .i64 (ps k).rk) := F0.out.cell 0
              have r9 : wr.cell? ⟨r, 9, none⟩ = some (.int .i64 y.how) := F0.out.cell 9
              have Yq0 := (Y0.out).cell 0
              have Yq1 := (Y0.out).cell 1
              simp only [List.getElem?_toArray, List.getElem?_cons_succ, List.getElem?_cons_zero] at Yq0 Yq1
              go_wp2_with fail
              clear Yq0 Yq1
              clear p0 p1 p2 hke hp1 hp2 oq rq r0 r9 kh
              refine (Step_any g rr o b [0, u, 0] t (ps k).kd (Pl.kd_ok HPK.out) _ 1 x HIV.out wr A0.out K0.out T0.out (by have o_ := ORK.out; omega)).mono ?_; rintro e w2 ⟨rfl, hb, ha, hx⟩
              have hrs := RStep_any r (ps k) HPK.out (ts k) x y HIV.out HLK.out [0, u, 0] 1 (in3 u) (by rw [(word3 u).1]; exact HUR.out) w2 (Blk.ex F0.out hx (by have o_ := ORK.out; omega))
              have hi2 := HIV.out.step (at_ := 1) (ws := [0, u, 0]) (by rw [(word3 u).1]; exact HUR.out)
              obtain ⟨u2, hu2⟩ := aWs3 x u
              rw [hu2, HAT.out] at hb
              rw [hu2, (word3 u).1, (word3 u2).1] at hrs
              obtain ⟨x2, hx2⟩ : ∃ x2, aStep (ps k).kd 1 [0, u, 0] x = x2 := ⟨_, rfl⟩
              rw [hx2] at ha hrs hi2 ⊢
              have HRS := Lib.hid hrs
              have HI2 := Lib.hid hi2
              have E1 := Lib.hid hx
              clear hrs hi2 hu2 hx2 HAT
              have ee : Ex (fun k => k = g ∨ k = rr ∨ k = o) wr w2 := hx
              have P_501 := Lib.hid (P0.out.ex ee (by have o_ := ORK.out; omega))
              have N_501 := Lib.hid (N0.out.ex ee (by have o_ := ORK.out; omega))
              have Y_501 := Lib.hid (Y0.out.ex ee (by have o_ := ORK.out; omega))
              have O_501 := Lib.hid (O0.out.ex ee (by have o_ := ORK.out; omega))
              have R_501 := Lib.hid (R0.out.ex ee (by have o_ := ORK.out; omega))
              have T_501 := Lib.hid (T0.out.ex ee (by have o_ := ORK.out; omega))
              have L_501 := Lib.hid (L0.out.ex ee (fun b_ h_ => by have o_ := ORK.out; have h_ : b_ = g ∨ b_ = rr ∨ b_ = o := h_; first | omega | (show _ ∨ _; omega)))
              have F_501 := Lib.hid (F0.out.ex ee (by have o_ := ORK.out; omega))
              have K_501 := Lib.hid (hb)
              have A_501 := Lib.hid (ha)
              clear ee K0 P0 N0 Y0 O0 R0 T0 L0 F0 A0 hb ha hx
              have rq := (R_501.out.cell k).trans (rArr_cell q 3 HK3.out)
              rw [HCR.out] at rq
              go_wp2_with fail
              clear rq
              have A1W := Lib.hid (show ArbAt w2 o b (ps k).kd 1 x2 from A_501.out)
              refine HRS.out.mono ?_; rintro e w3 ⟨y2, rfl, hf, hlk, hx⟩
              have HL2 := Lib.hid hlk
              have E2 := Lib.hid hx
              clear HRS hlk
              have ee : Ex (fun k => k = r) w2 w3 := hx
              have K_502 := Lib.hid (K_501.out.ex ee (by have o_ := ORK.out; omega) (by have o_ := ORK.out; omega))
              have P_502 := Lib.hid (P_501.out.ex ee (by have o_ := ORK.out; omega))
              have N_502 := Lib.hid (N_501.out.ex ee (by have o_ := ORK.out; omega))
              have Y_502 := Lib.hid (Y_501.out.ex ee (by have o_ := ORK.out; omega))
              have O_502 := Lib.hid (O_501.out.ex ee (by have o_ := ORK.out; omega))
              have R_502 := Lib.hid (R_501.out.ex ee (by have o_ := ORK.out; omega))
              have T_502 := Lib.hid (T_501.out.ex ee (by have o_ := ORK.out; omega))
              have L_502 := Lib.hid (L_501.out.ex ee (fun b_ h_ => by have o_ := ORK.out; have h_ : b_ = r := h_; first | omega | (show _ ∨ _; omega)))
              have A_502 := Lib.hid (A_501.out.ex ee (by have o_ := ORK.out; omega) (by have o_ := ORK.out; omega))
              have F_502 := Lib.hid (hf)
              clear ee K_501 P_501 N_501 Y_501 O_501 R_501 T_501 L_501 F_501 A_501 hf hx HLK HIV
              have ZN := Lib.hid (Z0.out.turn HK3.out (by rw [HQ.out]; exact E1.out) (by rw [HQ.out]; exact E2.out) (by have o_ := ORK.out; omega) (by have o_ := ORK.out; omega) (by rw [HQ.out]; exact A1W.out) HI2.out (by rw [HQ.out]; exact F_502.out) HL2.out)
              have SAME := Lib.hid (arr_same q HK3.out x2 y2)
              clear Z0 E1 E2 A1W
              have oq := (O_502.out.cell k).trans (oArr_cell q 3 HK3.out)
              rw [HCO.out] at oq
              go_wp2_with fail
              clear oq
              have HG2 := Lib.hid (Got_any o b (ps k).kd 1 x2 w3 A_502.out)
              unfold St.val at HG2
              refine (HG2.out).mono ?_; rintro e w4 ⟨rfl, hb⟩
              clear HG2
              have ee : Ex (fun _ => False) w3 w4 := Ex.of_below hb
              have K_503 := Lib.hid (K_502.out.ex ee (fun h => h) (fun h => h))
              have P_503 := Lib.hid (P_502.out.ex ee (fun h => h))
              have N_503 := Lib.hid (N_502.out.ex ee (fun h => h))
              have Y_503 := Lib.hid (Y_502.out.ex ee (fun h => h))
              have O_503 := Lib.hid (O_502.out.ex ee (fun h => h))
              have R_503 := Lib.hid (R_502.out.ex ee (fun h => h))
              have T_503 := Lib.hid (T_502.out.ex ee (fun h => h))
              have L_503 := Lib.hid (L_502.out.ex ee (fun b_ h_ => h_.elim))
              have F_503 := Lib.hid (F_502.out.ex ee (fun h => h))
              have A_503 := Lib.hid (A_502.out.ex ee (fun h => h) (fun h => h))
              have Z_503 := Lib.hid (ZN.out.ex ee (fun b_ h_ => h_.elim))
              clear ee K_502 P_502 N_502 Y_502 O_502 R_502 T_502 L_502 F_502 A_502 ZN hb
              go_upto_region 35 with fail
              have hq := Blk.new w4 34 #[.int .i64 x2.st.mode, .int .i64 x2.st.source, .bool x2.st.hold, .int .i64 x2.st.flags, .int .u64 x2.st.epoch]
              obtain ⟨sb, hsb⟩ : ∃ sb, w4.heap.size = sb := ⟨_, rfl⟩
              simp only [hsb] at hq ⊢
              have ee : Ex (fun _ => False) w4 (w4.alloc (.cells #[.int .i64 x2.st.mode, .int .i64 x2.st.source, .bool x2.st.hold, .int .i64 x2.st.flags, .int .u64 x2.st.epoch] 34)) := (Ex.refl (fun _ => False) w4).alloc (.cells #[.int .i64 x2.st.mode, .int .i64 x2.st.source, .bool x2.st.hold, .int .i64 x2.st.flags, .int .u64 x2.st.epoch] 34)
              have K_504 := Lib.hid (K_503.out.ex ee (fun h => h) (fun h => h))
              have P_504 := Lib.hid (P_503.out.ex ee (fun h => h))
              have N_504 := Lib.hid (N_503.out.ex ee (fun h => h))
              have Y_504 := Lib.hid (Y_503.out.ex ee (fun h => h))
              have O_504 := Lib.hid (O_503.out.ex ee (fun h => h))
              have R_504 := Lib.hid (R_503.out.ex ee (fun h => h))
              have T_504 := Lib.hid (T_503.out.ex ee (fun h => h))
              have L_504 := Lib.hid (L_503.out.ex ee (fun b_ h_ => h_.elim))
              have F_504 := Lib.hid (F_503.out.ex ee (fun h => h))
              have A_504 := Lib.hid (A_503.out.ex ee (fun h => h) (fun h => h))
              have Z_504 := Lib.hid (Z_503.out.ex ee (fun b_ h_ => h_.elim))
              have S_504 := Lib.hid (hq)
              clear ee K_503 P_503 N_503 Y_503 O_503 R_503 T_503 L_503 F_503 A_503 Z_503 hq hsb
              generalize w4.alloc (.cells #[.int .i64 x2.st.mode, .int .i64 x2.st.source, .bool x2.st.hold, .int .i64 x2.st.flags, .int .u64 x2.st.epoch] 34) = w5 at *
              have eq0 : (x2.st.mode == x2.st.mode) = true := by simp
              have eq1 : (x2.st.source == x2.st.source) = true := by simp
              have eq2 : (x2.st.hold == x2.st.hold) = true := by simp
              have eq3 : (x2.st.flags == x2.st.flags) = true := by simp
              have eq4 : (x2.st.epoch == x2.st.epoch) = true := by simp
              have kh : (x2.how != x2.how) = false := by simp
              have ke : (x2.err != x2.err) = false := by simp
              have ks : (x2.steps != x2.steps) = false := by simp
              have ku : (u2 != u2) = false := by simp
              have kt : (t != t) = false := by simp
              obtain ⟨av, hav⟩ : ∃ av : Int, (if x2.how = 1 then x2.steps else 0) = av := ⟨_, rfl⟩
              have ka : (av != av) = false := by simp
              have HAV := Lib.hid hav
              clear hav
              simp only [List.append_eq, List.cons_append, List.nil_append]
              have hne : Nonempty (Held (Below w5.heap.size w5)) := ⟨⟨w5, (Below.refl _ _)⟩⟩
              have r0 : ∀ x : Held (Below w5.heap.size w5), x.w.cell? ⟨r, 0, none⟩ = some (.int .i64 (ps k).rk) := fun x => (Blk.cell (F_504.out.bl x.ok) 0)
              have r9 : ∀ x : Held (Below w5.heap.size w5), x.w.cell? ⟨r, 9, none⟩ = some (.int .i64 x2.how) := fun x => (Blk.cell (F_504.out.bl x.ok) 9).trans (show (RX.cells (ps k) (ts k) y2)[9]? = some (.int .i64 x2.how) by rw [← HL2.out.how]; rfl)
              have r10 : ∀ x : Held (Below w5.heap.size w5), x.w.cell? ⟨r, 10, none⟩ = some (.int .i64 x2.st.mode) := fun x => (Blk.cell (F_504.out.bl x.ok) 10).trans (show (RX.cells (ps k) (ts k) y2)[10]? = some (.int .i64 x2.st.mode) by rw [← HL2.out.st]; rfl)
              have r11 : ∀ x : Held (Below w5.heap.size w5), x.w.cell? ⟨r, 11, none⟩ = some (.int .i64 x2.st.source) := fun x => (Blk.cell (F_504.out.bl x.ok) 11).trans (show (RX.cells (ps k) (ts k) y2)[11]? = some (.int .i64 x2.st.source) by rw [← HL2.out.st]; rfl)
              have r12 : ∀ x : Held (Below w5.heap.size w5), x.w.cell? ⟨r, 12, none⟩ = some (.bool x2.st.hold) := fun x => (Blk.cell (F_504.out.bl x.ok) 12).trans (show (RX.cells (ps k) (ts k) y2)[12]? = some (.bool x2.st.hold) by rw [← HL2.out.st]; rfl)
              have r13 : ∀ x : Held (Below w5.heap.size w5), x.w.cell? ⟨r, 13, none⟩ = some (.int .i64 x2.st.flags) := fun x => (Blk.cell (F_504.out.bl x.ok) 13).trans (show (RX.cells (ps k) (ts k) y2)[13]? = some (.int .i64 x2.st.flags) by rw [← HL2.out.st]; rfl)
              have r14 : ∀ x : Held (Below w5.heap.size w5), x.w.cell? ⟨r, 14, none⟩ = some (.int .u64 x2.st.epoch) := fun x => (Blk.cell (F_504.out.bl x.ok) 14).trans (show (RX.cells (ps k) (ts k) y2)[14]? = some (.int .u64 x2.st.epoch) by rw [← HL2.out.st]; rfl)
              have r15 : ∀ x : Held (Below w5.heap.size w5), x.w.cell? ⟨r, 15, none⟩ = some (.int .i64 x2.err) := fun x => (Blk.cell (F_504.out.bl x.ok) 15).trans (show (RX.cells (ps k) (ts k) y2)[15]? = some (.int .i64 x2.err) by rw [← HL2.out.err]; rfl)
              have r16 : ∀ x : Held (Below w5.heap.size w5), x.w.cell? ⟨r, 16, none⟩ = some (.int .i64 x2.steps) := fun x => (Blk.cell (F_504.out.bl x.ok) 16).trans (show (RX.cells (ps k) (ts k) y2)[16]? = some (.int .i64 x2.steps) by rw [← HL2.out.steps]; rfl)
              have r17 : ∀ x : Held (Below w5.heap.size w5), x.w.cell? ⟨r, 17, none⟩ = some (.int .i64 av) := fun x => (Blk.cell (F_504.out.bl x.ok) 17).trans (show (RX.cells (ps k) (ts k) y2)[17]? = some (.int .i64 av) by rw [← HAV.out, ← HL2.out.at_]; rfl)
              have s0 : ∀ x : Held (Below w5.heap.size w5), x.w.cell? ⟨sb, 0, none⟩ = some (.int .i64 x2.st.mode) := fun x => (Blk.cell (S_504.out.bl x.ok) 0)
              have s1 : ∀ x : Held (Below w5.heap.size w5), x.w.cell? ⟨sb, 1, none⟩ = some (.int .i64 x2.st.source) := fun x => (Blk.cell (S_504.out.bl x.ok) 1)
              have s2 : ∀ x : Held (Below w5.heap.size w5), x.w.cell? ⟨sb, 2, none⟩ = some (.bool x2.st.hold) := fun x => (Blk.cell (S_504.out.bl x.ok) 2)
              have s3 : ∀ x : Held (Below w5.heap.size w5), x.w.cell? ⟨sb, 3, none⟩ = some (.int .i64 x2.st.flags) := fun x => (Blk.cell (S_504.out.bl x.ok) 3)
              have s4 : ∀ x : Held (Below w5.heap.size w5), x.w.cell? ⟨sb, 4, none⟩ = some (.int .u64 x2.st.epoch) := fun x => (Blk.cell (S_504.out.bl x.ok) 4)
              have oq : ∀ x : Held (Below w5.heap.size w5), x.w.cell? ⟨o3, k, none⟩ = some (.pointer (some ⟨o, 0, none⟩)) := fun x => ((Blk.cell (O_504.out.bl x.ok) k).trans (oArr_cell q 3 HK3.out)).trans (congrArg some HCO.out)
              have rq : ∀ x : Held (Below w5.heap.size w5), x.w.cell? ⟨r3, k, none⟩ = some (.pointer (some ⟨r, 0, none⟩)) := fun x => ((Blk.cell (R_504.out.bl x.ok) k).trans (rArr_cell q 3 HK3.out)).trans (congrArg some HCR.out)
              refine drawn_bars (S := (Below w5.heap.size w5)) [([0, 1, 2, 3, 4, 5, 6, 7, 8, 9, 10, 11, 12, 13, 14, 15, 16, 17, 18, 19, 20, 21, 22, 23, 24, 25, 26, 27, 28, 29, 30, 31, 32, 33, 34, 35, 37, 38, 39, 40, 41, 42, 43], 36), ([44, 45, 46, 47, 48, 49, 50, 52, 53, 54, 55, 56, 57, 58], 51), ([59, 60, 61, 62, 64], 63), ([65, 66, 67, 68], 69), ([70, 71, 72, 73], 74), ([75, 76, 77, 78, 80], 79)] [81, 82] (by kernel_rfl) (by kernel_rfl) s35 rfl (Below.refl _ _).drew ?_
              refine Phased.go ?_
              simp only [pick, List.map_cons, List.map_nil, List.getElem?_cons_zero, List.getElem?_cons_succ, Option.getD_some]
              repeat (go_big_quiet_step (fail))
              refine wpQuiet_nil ?_
              go_wp2_with fail
              have ha8 : ArbAt w5.drew o b (ps k).kd 1 x2 := A_504.out.ex (T := fun _ => False) (Ex.refl _ w5).drew (fun h => h) (fun h => h)
              have hat := At_any o b (ps k).kd 1 x2 w5.drew ha8
              rw [HAV.out] at hat
              refine hat.mono ?_; rintro e w6 ⟨rfl, rfl⟩
              have hb0 := (Below.refl w5.heap.size w5).drew
              go_wp2_with fail
              refine behind_normal ⟨(Below w5.heap.size w5), fun W h => h, hb0, ?_⟩
              refine Phased.go ?_
              simp only [pick, List.map_cons, List.map_nil, List.getElem?_cons_zero, List.getElem?_cons_succ, Option.getD_some]
              repeat (go_big_quiet_step (fail))
              refine wpQuiet_nil ?_
              go_wp2_with fail
              refine (Steps_any o b (ps k).kd 1 x2 w5.drew ha8).mono ?_; rintro e w6 ⟨rfl, rfl⟩
              go_wp2_with fail
              refine behind_normal ⟨(Below w5.heap.size w5), fun W h => h, hb0, ?_⟩
              refine Phased.go ?_
              simp only [pick, List.map_cons, List.map_nil, List.getElem?_cons_zero, List.getElem?_cons_succ, Option.getD_some]
              repeat (go_big_quiet_step (fail))
              refine wpQuiet_nil ?_
              go_wp2_with fail
              have hk_ : BankAt w5.drew g rr [0, u2, 0] (t) := K_504.out.ex (T := fun _ => False) (Ex.of_below hb0) (fun h => h) (fun h => h)
              refine (Peek_any g rr [0, u2, 0] (t) 1 w5.drew hk_).mono ?_; rintro e w6 ⟨rfl, hb⟩
              rw [(word3 u2).1]
              have hb1 := bl hb0 hb
              clear hk_
              go_wp2_with fail
              refine behind_normal ⟨(Below w5.heap.size w5), fun W h => h, hb1, ?_⟩
              refine Phased.go ?_
              simp only [pick, List.map_cons, List.map_nil, List.getElem?_cons_zero, List.getElem?_cons_succ, Option.getD_some]
              repeat (go_big_quiet_step (fail))
              refine wpQuiet_nil ?_
              go_wp2_with fail
              have hk_ : BankAt w6 g rr [0, u2, 0] (t) := K_504.out.ex (T := fun _ => False) (Ex.of_below hb1) (fun h => h) (fun h => h)
              refine (Peek_any g rr [0, u2, 0] (t) 0 w6 hk_).mono ?_; rintro e w7 ⟨rfl, hb⟩
              rw [(word3 u2).2.1]
              have hb2 := bl hb1 hb
              clear hk_
              go_wp2_with fail
              refine behind_normal ⟨(Below w5.heap.size w5), fun W h => h, hb2, ?_⟩
              refine Phased.go ?_
              simp only [pick, List.map_cons, List.map_nil, List.getElem?_cons_zero, List.getElem?_cons_succ, Option.getD_some]
              repeat (go_big_quiet_step (fail))
              refine wpQuiet_nil ?_
              go_wp2_with fail
              have hk_ : BankAt w7 g rr [0, u2, 0] (t) := K_504.out.ex (T := fun _ => False) (Ex.of_below hb2) (fun h => h) (fun h => h)
              refine (Peek_any g rr [0, u2, 0] (t) 2 w7 hk_).mono ?_; rintro e w8 ⟨rfl, hb⟩
              rw [(word3 u2).2.2]
              have hb3 := bl hb2 hb
              clear hk_
              go_wp2_with fail
              refine behind_normal ⟨(Below w5.heap.size w5), fun W h => h, hb3, ?_⟩
              refine Phased.go ?_
              simp only [pick, List.map_cons, List.map_nil, List.getElem?_cons_zero, List.getElem?_cons_succ, Option.getD_some]
              repeat (go_big_quiet_step (fail))
              refine wpQuiet_nil ?_
              go_wp2_with fail
              have hk_ : BankAt w8 g rr [0, u2, 0] (t) := K_504.out.ex (T := fun _ => False) (Ex.of_below hb3) (fun h => h) (fun h => h)
              refine (Touches_any g rr [0, u2, 0] (t) w8 hk_).mono ?_; rintro e w9 ⟨rfl, rfl⟩
              clear hk_
              go_wp2_with fail
              refine behind_normal ⟨(Below w5.heap.size w5), fun W h => h, hb3, ?_⟩
              refine Phased.end_ ?_
              have hne5 : Nonempty (Held (fun W => W = w8)) := ⟨⟨_, rfl⟩⟩
              simp only [pick, List.map_cons, List.map_nil, List.getElem?_cons_zero, List.getElem?_cons_succ, Option.getD_some]
              repeat (go_big_quiet_step (fail))
              refine wpQuiet_nil ?_
              clear hne5 hne r0 r9 r10 r11 r12 r13 r14 r15 r16 r17 s0 s1 s2 s3 s4 oq rq ha8 hat hb0 hb1 hb2 kh ke ks ku kt ka eq0 eq1 eq2 eq3 eq4
              have ee : Ex (fun _ => False) w5 w8 := Ex.of_below hb3
              have K_505 := Lib.hid (K_504.out.ex ee (fun h => h) (fun h => h))
              have P_505 := Lib.hid (P_504.out.ex ee (fun h => h))
              have N_505 := Lib.hid (N_504.out.ex ee (fun h => h))
              have Y_505 := Lib.hid (Y_504.out.ex ee (fun h => h))
              have O_505 := Lib.hid (O_504.out.ex ee (fun h => h))
              have R_505 := Lib.hid (R_504.out.ex ee (fun h => h))
              have T_505 := Lib.hid (T_504.out.ex ee (fun h => h))
              have L_505 := Lib.hid (L_504.out.ex ee (fun b_ h_ => h_.elim))
              have F_505 := Lib.hid (F_504.out.ex ee (fun h => h))
              have A_505 := Lib.hid (A_504.out.ex ee (fun h => h) (fun h => h))
              have Z_505 := Lib.hid (Z_504.out.ex ee (fun b_ h_ => h_.elim))
              have S_505 := Lib.hid (S_504.out.ex ee (fun h => h))
              clear ee K_504 P_504 N_504 Y_504 O_504 R_504 T_504 L_504 F_504 A_504 Z_504 S_504 hb3
              go_upto_region 23 with fail
              go_wp2_with fail
              exact ⟨⟨i + 1, updQ q k ⟨(q k).o, (q k).b, x2, (q k).r, y2⟩, u2, t, by have := HI.out; omega, by go_num, rfl, rfl, by have := HT.out; omega, by have := HT.out; omega, K_505.out, P_505.out, N_505.out, Y_505.out, (by rw [SAME.out.1]; exact O_505.out), (by rw [SAME.out.2]; exact R_505.out), T_505.out, L_505.out, Z_505.out⟩, by have := HI.out; simp [intOf]; omega⟩
        · obtain rfl : i = na := by omega
          have kd : decide ((i : Int) < (i : Int)) = false := decide_eq_false (by omega)
          have Yq0 := (Y0.out).cell 0
          have Yq1 := (Y0.out).cell 1
          simp only [List.getElem?_toArray, List.getElem?_cons_succ, List.getElem?_cons_zero] at Yq0 Yq1
          go_wp2_with fail
          clear Yq0 Yq1
          refine (awake_any wr T0.out).mono ?_; rintro e w2 ⟨rfl, hb⟩
          have ee : Ex (fun _ => False) wr w2 := Ex.of_below hb
          have K_401 := Lib.hid (K0.out.ex ee (fun h => h) (fun h => h))
          have P_401 := Lib.hid (P0.out.ex ee (fun h => h))
          have N_401 := Lib.hid (N0.out.ex ee (fun h => h))
          have Y_401 := Lib.hid (Y0.out.ex ee (fun h => h))
          have O_401 := Lib.hid (O0.out.ex ee (fun h => h))
          have R_401 := Lib.hid (R0.out.ex ee (fun h => h))
          have T_401 := Lib.hid (T0.out.ex ee (fun h => h))
          have L_401 := Lib.hid (L0.out.ex ee (fun b_ h_ => h_.elim))
          have Z_401 := Lib.hid (Z0.out.ex ee (fun b_ h_ => h_.elim))
          clear ee K0 P0 N0 Y0 O0 R0 T0 L0 Z0 hb
          go_wp2_with fail
          go_ret
          exact ⟨rfl, L_401.out.low.mono HBS.out⟩
end Go.Proofs.YtkmlikohgilnbaaDoor.Arb
