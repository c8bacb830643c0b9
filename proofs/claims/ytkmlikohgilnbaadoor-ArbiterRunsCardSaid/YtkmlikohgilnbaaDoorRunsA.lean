/-
  Law 15: ArbiterRuns. Printed by wip/tools/mkarn.py. Conditions stand at each. By an AI agent.
-/
import Derived.Test.YtkmlikohgilnbaaDoorRnsV
import Derived.Test.YtkmlikohgilnbaaDoorRnsY
import Derived.Deep.CutRange
namespace Go.Proofs.YtkmlikohgilnbaaDoor.Arb
set_option linter.unusedVariables false
set_option linter.unusedSimpArgs false
open Go Go.RowKit Go.Proofs.YtkmlikohgilnbaaDoor.Base Go.Proofs.YtkmlikohgilnbaaDoor.Reg
open Go.Proofs.YtkmlikohgilnbaaDoor.Bank (BankAt inW wordF setF tickF errF casB errF_in errF_out wordF_in wordF_out tickF_in tickF_out setF_in setF_out casB_out casB_in wordF_range Load_any CAS_any Load_nil New_in Store_any Peek_any Touches_any zeros)
open Go.Proofs.YtkmlikohgilnbaaDoor.Modes (Tab)
theorem ro3_info : (Tryd.prog.info? 27).map (fun i => (i.zero, i.size, i.bytes)) = some (some (.pointer none), 1, 8) := by kernel_rfl
set_option maxRecDepth 100000 in
theorem make_ro3 (w : World) : (Instr.makeSlice 56 (.int .i64 3) (.int .i64 3)).run Tryd.prog w = .ok (.slice (some ⟨w.heap.size, 0, none⟩) 3 3) (w.alloc (.cells #[.pointer none, .pointer none, .pointer none] 27)) := by
  obtain ⟨i0, hi, hz0, hz1, hz2⟩ := info_parts ro3_info
  have hr := run_make (P := Tryd.prog) w 56 27 i0 _ Tryd.underlying56 hi hz0 .i64 .i64 3 3 (by omega) (by omega) (by rw [hz2]; omega) (by omega)
  rw [hr, hz1, show madeCells (Value.cells (.pointer none)) ((3 : Int).toNat * 1) = #[.pointer none, .pointer none, .pointer none] by kernel_rfl]
  rfl
theorem rp3_info : (Tryd.prog.info? 41).map (fun i => (i.zero, i.size, i.bytes)) = some (some (.agg #[.int .i64 0, .int .i64 0, .int .i64 0, .bool false, .int .i64 0]), 5, 40) := by kernel_rfl
set_option maxRecDepth 100000 in
theorem make_rp3 (w : World) : (Instr.makeSlice 71 (.int .i64 3) (.int .i64 3)).run Tryd.prog w = .ok (.slice (some ⟨w.heap.size, 0, none⟩) 3 3) (w.alloc (.cells #[.int .i64 0, .int .i64 0, .int .i64 0, .bool false, .int .i64 0, .int .i64 0, .int .i64 0, .int .i64 0, .bool false, .int .i64 0, .int .i64 0, .int .i64 0, .int .i64 0, .bool false, .int .i64 0] 41)) := by
  obtain ⟨i0, hi, hz0, hz1, hz2⟩ := info_parts rp3_info
  have hr := run_make (P := Tryd.prog) w 71 41 i0 _ Tryd.underlying71 hi hz0 .i64 .i64 3 3 (by omega) (by omega) (by rw [hz2]; omega) (by omega)
  rw [hr, hz1, show madeCells (Value.cells (.agg #[.int .i64 0, .int .i64 0, .int .i64 0, .bool false, .int .i64 0])) ((3 : Int).toNat * 5) = #[.int .i64 0, .int .i64 0, .int .i64 0, .bool false, .int .i64 0, .int .i64 0, .int .i64 0, .int .i64 0, .bool false, .int .i64 0, .int .i64 0, .int .i64 0, .int .i64 0, .bool false, .int .i64 0] by kernel_rfl]
  rfl
theorem rb3_info : (Tryd.prog.info? 4).map (fun i => (i.zero, i.size, i.bytes)) = some (some (.bool false), 1, 1) := by kernel_rfl
set_option maxRecDepth 100000 in
theorem make_rb3 (w : World) : (Instr.makeSlice 75 (.int .i64 3) (.int .i64 3)).run Tryd.prog w = .ok (.slice (some ⟨w.heap.size, 0, none⟩) 3 3) (w.alloc (.cells #[.bool false, .bool false, .bool false] 4)) := by
  obtain ⟨i0, hi, hz0, hz1, hz2⟩ := info_parts rb3_info
  have hr := run_make (P := Tryd.prog) w 75 4 i0 _ Tryd.underlying75 hi hz0 .i64 .i64 3 3 (by omega) (by omega) (by rw [hz2]; omega) (by omega)
  rw [hr, hz1, show madeCells (Value.cells (.bool false)) ((3 : Int).toNat * 1) = #[.bool false, .bool false, .bool false] by kernel_rfl]
  rfl
theorem rs3_info : (Tryd.prog.info? 3).map (fun i => (i.zero, i.size, i.bytes)) = some (some (.int .i64 0), 1, 8) := by kernel_rfl
set_option maxRecDepth 100000 in
theorem make_rs3 (w : World) : (Instr.makeSlice 72 (.int .i64 3) (.int .i64 3)).run Tryd.prog w = .ok (.slice (some ⟨w.heap.size, 0, none⟩) 3 3) (w.alloc (.cells #[.int .i64 0, .int .i64 0, .int .i64 0] 3)) := by
  obtain ⟨i0, hi, hz0, hz1, hz2⟩ := info_parts rs3_info
  have hr := run_make (P := Tryd.prog) w 72 3 i0 _ Tryd.underlying72 hi hz0 .i64 .i64 3 3 (by omega) (by omega) (by rw [hz2]; omega) (by omega)
  rw [hr, hz1, show madeCells (Value.cells (.int .i64 0)) ((3 : Int).toNat * 1) = #[.int .i64 0, .int .i64 0, .int .i64 0] by kernel_rfl]
  rfl
theorem pick3r (p : Int) : ∃ k : Nat, k < 3 ∧ (p.tmod 3 + 3).tmod 3 = k ∧ -2 ≤ p.tmod 3 ∧ p.tmod 3 ≤ 2 := by
  have h1 : -2 ≤ p.tmod 3 ∧ p.tmod 3 ≤ 2 := by
    have := Int.tmod_lt_of_pos p (b := 3) (by omega)
    have := Int.lt_tmod_of_pos p (b := 3) (by omega)
    omega
  rw [Int.tmod_eq_emod_of_nonneg (by omega)]
  exact ⟨((p.tmod 3 + 3) % 3).toNat, by omega, by omega, h1⟩
theorem kd_read {k : Kd} {s : St} (h : k.isRead = true) : k.E s = 0 := by
  cases k with
  | read => rfl
  | req a => simp [Kd.isRead] at h
  | tell f => simp [Kd.isRead] at h
theorem kd_kind {p : Pl} (h : p.kd.isRead = true) : p.kind ≠ 0 ∧ p.kind ≠ 1 := by
  unfold Pl.kd at h
  constructor
  · intro e; rw [if_pos e] at h; simp [Kd.isRead] at h
  · intro e; rw [if_neg (by omega), if_pos e] at h; simp [Kd.isRead] at h
theorem kd_else {p : Pl} {s : St} (n0 : p.kind ≠ 0) (n1 : p.kind ≠ 1) : p.kd.E s = 0 ∧ p.kd.S s = s := by
  unfold Pl.kd
  rw [if_neg n0, if_neg n1]
  exact ⟨rfl, rfl⟩
theorem Way.pack {p : Pl} {n d : Int} {S : St} {x x2 : AX} {u2 : Int} (h : Way p.kd n S d x x2 u2) (hk : p.kd.Ok) (hS : S.Ok ∧ mayE S = 0) :
    ∃ sb : St, u2 = wordI sb ∧ sb.Ok ∧ mayE sb = 0 ∧ (sb = S ∨ (Fol S sb ∧ x2.how = 1)) ∧ (x2.how = 0 → sb = S ∧ (p.kd.isRead = false → 0 ≤ d - (n - x2.left) ∧ (x2.swaps = true → wordI sb ≠ x2.word → 1 ≤ d - (n - x2.left)))) ∧
      (x2.how ≠ 0 → (x2.how = 1 ∧ x2.err = p.kd.E S ∧ (x2.err = 0 → x2.st = p.kd.S S ∧ sb = p.kd.S S) ∧ (x2.err ≠ 0 → x2.st = S ∧ sb = S)) ∨ (x2.how = 2 ∧ x2.err = 20 ∧ x2.st = St.zero ∧ sb = S ∧ x2.steps = 2 * n ∧ n ≤ d)) := by
  cases h with
  | busy h hu hc => exact ⟨S, hu, hS.1, hS.2, .inl rfl, fun _ => ⟨rfl, by rw [← hu]; exact hc⟩, fun h9 => absurd h h9⟩
  | stay h hu hs he hk9 =>
    refine ⟨S, hu, hS.1, hS.2, .inl rfl, fun h9 => by rw [h] at h9; simp at h9, fun _ => .inl ⟨h, he, fun h0 => ?_, fun _ => ⟨hs, rfl⟩⟩⟩
    rcases hk9 with hr | hE
    · have hn := kd_kind hr
      have := (kd_else (s := S) hn.1 hn.2).2
      rw [this]; exact ⟨hs, rfl⟩
    · rw [he] at h0; exact absurd h0 hE
  | hit h hu hs he hE hk9 =>
    obtain ⟨h1, h2, h3⟩ := after_ok hk9 hk hS.1 hS.2 hE
    exact ⟨_, hu, h1, h2, .inr ⟨kd_follows hk9 hk hE, h⟩, fun h9 => by rw [h] at h9; simp at h9, fun _ => .inl ⟨h, by rw [he, hE], fun _ => ⟨hs, rfl⟩, fun h9 => absurd he h9⟩⟩
  | spent h hu hs he hk9 hp hd => exact ⟨S, hu, hS.1, hS.2, .inl rfl, fun h9 => by rw [h] at h9; simp at h9, fun _ => .inr ⟨h, he, hs, rfl, hp, hd⟩⟩
structure LtSz (b : Nat) (w : World) : Prop where
  lt : b < w.heap.size
theorem LtSz.ex {T : Nat → Prop} {b : Nat} {w w2 : World} (h : LtSz b w) (p : Ex T w w2) : LtSz b w2 := ⟨Nat.lt_of_lt_of_le h.lt p.size⟩
theorem follows_yes (sa sb : St) (hsa : sa.Ok) (hsb : sb.Ok) (hf : Fol sa sb) (W : World) (hT : Tab W) : Calls Tryd.prog 28 #[sa.val, sb.val] W fun e w' => e = .returned (.bool true) ∧ Below W.heap.size W w' := by
  refine (Follows_any sa hsa sb hsb W hT).mono ?_
  rintro e w' ⟨⟨b9, h1, h2⟩, h3⟩
  exact ⟨by rw [h1, h2.2 hf], h3⟩
theorem hit_pkg {p : Pl} {sa : St} (hr : p.kd.isRead = false) (hp : p.Ok) (h : sa.Ok ∧ mayE sa = 0) (hE : p.kd.E sa = 0) : (p.kd.S sa).Ok ∧ mayE (p.kd.S sa) = 0 ∧ p.kd.S sa ≠ sa ∧ Fol sa (p.kd.S sa) := by
  obtain ⟨h1, h2, h3⟩ := after_ok hr (Pl.kd_ok hp) h.1 h.2 hE
  exact ⟨h1, h2, fun e => by rw [e] at h3; omega, kd_follows hr (Pl.kd_ok hp) hE⟩
theorem kd_zero {p : Pl} (h : p.kd.isRead = false) (n1 : p.kind ≠ 1) : p.kind = 0 := by
  unfold Pl.kd at h
  by_cases e : p.kind = 0
  · exact e
  · rw [if_neg e, if_neg n1] at h; simp [Kd.isRead] at h
theorem kd_one {p : Pl} (h : p.kd.isRead = false) (n0 : p.kind ≠ 0) : p.kind = 1 := by
  unfold Pl.kd at h
  rw [if_neg n0] at h
  by_cases e : p.kind = 1
  · exact e
  · rw [if_neg e] at h; simp [Kd.isRead] at h
set_option maxRecDepth 100000 in
set_option maxHeartbeats 30000000 in
theorem Ru_bad0 (s : St) (hs : s.Ok) (n : Int) (hnb : -9223372036854775808 ≤ n ∧ n ≤ 9223372036854775807) (v2 : Value) (x : Value × Value × Nat × (Nat → Pl) × List Int) (w : World) (h2 : PicksAt w v2 x.1 x.2.1 x.2.2.1 x.2.2.2.1 x.2.2.2.2) (ht : Tab w) (h5 : mayE s ≠ 0) :
    Calls Tryd.prog 7 #[s.val, .int .i64 n, v2] w fun e w' => e = .returned (.bool true) ∧ Below w.heap.size w w' := by
  obtain ⟨va, vb, na, l, ws⟩ := x
  simp only at h2 h5
  obtain ⟨rfl, hpl, hwh⟩ := h2
  obtain ⟨A, ca, rfl, -, hga⟩ := hpl.form
  obtain ⟨B, cb, rfl, -, hgb⟩ := hwh.form
  have HGA := Lib.hid hga
  have HGB := Lib.hid hgb
  have HLO := Lib.hid hpl.ok
  have HS := Lib.hid hs
  have H5 := Lib.hid h5
  clear hpl hwh hga hgb hnb
  have hpk := fun W => Pack_bad s hs H5.out W
  have q0 : (mayE s != 0) = true := by simpa using h5
  obtain ⟨me, hme⟩ : ∃ me, mayE s = me := ⟨_, rfl⟩
  rw [hme] at q0
  simp only [hme] at hpk
  unfold St.val at hpk ⊢
  have HPK := Lib.hid hpk
  clear hpk hs h5 hme
  have hq0 := ((blk_new' w (g := w.heap.size) (by simp) 34 #[.int .i64 s.mode, .int .i64 s.source, .bool s.hold, .int .i64 s.flags, .int .u64 s.epoch]).alloc (.cells #[.slice A na ca, .slice B ws.length cb] 74))
  have hq1 := (blk_new' (w.alloc (.cells #[.int .i64 s.mode, .int .i64 s.source, .bool s.hold, .int .i64 s.flags, .int .u64 s.epoch] 34)) (g := w.heap.size + 1) (by simp) 74 #[.slice A na ca, .slice B ws.length cb])
  have hlo := (((Below.refl w.heap.size w).alloc (by first | exact Nat.le_refl _ | (simp; done) | (simp; omega)) (.cells #[.int .i64 s.mode, .int .i64 s.source, .bool s.hold, .int .i64 s.flags, .int .u64 s.epoch] 34)).alloc (by first | exact Nat.le_refl _ | (simp; done) | (simp; omega)) (.cells #[.slice A na ca, .slice B ws.length cb] 74))
  have hz0 : 0 < w.heap.size := lt_of_cell (ht 0 (by decide))
  have ht1 := ht.below hlo
  go_enter Tryd.func7, Tryd.ntmps7
  go_upto_region 1 with fail
  generalize ((w.alloc (.cells #[.int .i64 s.mode, .int .i64 s.source, .bool s.hold, .int .i64 s.flags, .int .u64 s.epoch] 34)).alloc (.cells #[.slice A na ca, .slice B ws.length cb] 74)) = w1 at *
  obtain ⟨fb, hfb⟩ : ∃ fb, w.heap.size = fb := ⟨_, rfl⟩
  have hlo9 : Lo w.heap.size w w1 := ⟨hlo, hlo.size⟩
  have HBS := Lib.hid (Nat.le_of_eq hfb)
  simp only [hfb] at hlo9 hz0 hq0 hq1 ⊢
  obtain ⟨yb, hfb1⟩ : ∃ yb, fb + 1 = yb := ⟨_, rfl⟩
  simp only [hfb1] at hq1 ⊢
  have ORD0 := Lib.hid (show 0 < fb ∧ fb + 1 = yb from ⟨hz0, hfb1⟩)
  have T0 := Lib.hid ht1
  have L0 := Lib.hid hlo9
  have F0 := Lib.hid hq0
  have Y0 := Lib.hid hq1
  clear ht ht1 hlo hlo9 hz0 hfb hfb1 hq0 hq1
  have Fq0 := (F0.out).cell 0
  have Fq1 := (F0.out).cell 1
  have Fq2 := (F0.out).cell 2
  have Fq3 := (F0.out).cell 3
  have Fq4 := (F0.out).cell 4
  simp only [List.getElem?_toArray, List.getElem?_cons_succ, List.getElem?_cons_zero] at Fq0 Fq1 Fq2 Fq3 Fq4
  have Yq0 := (Y0.out).cell 0
  have Yq1 := (Y0.out).cell 1
  simp only [List.getElem?_toArray, List.getElem?_cons_succ, List.getElem?_cons_zero] at Yq0 Yq1
  go_wp2_with fail
  refine (HPK.out w1).mono ?_; rintro e w2 ⟨rfl, hb⟩
  clear Fq0 Fq1 Fq2 Fq3 Fq4 Yq0 Yq1
  have ee : Ex (fun _ => False) w1 w2 := Ex.of_below hb
  have T_1 := Lib.hid (T0.out.ex ee (fun h => h))
  have L_1 := Lib.hid (L0.out.ex ee (fun b_ h_ => h_.elim))
  have F_1 := Lib.hid (F0.out.ex ee (fun h => h))
  have Y_1 := Lib.hid (Y0.out.ex ee (fun h => h))
  clear ee T0 L0 F0 Y0 hb
  go_wp2_with fail
  refine (New_in 1 (by decide) (by decide) w2).mono ?_; rintro e w3 ⟨rfl, hb, hl, hsz⟩
  have hb : BankAt w3 (w2.heap.size + 1) w2.heap.size [0] 0 := hb
  obtain ⟨rr, hrr⟩ : ∃ rr, w2.heap.size = rr := ⟨_, rfl⟩
  have hlt : yb < rr := hrr ▸ Y_1.out.lt
  simp only [hrr] at hb ⊢
  obtain ⟨g, hg⟩ : ∃ g, rr + 1 = g := ⟨_, rfl⟩
  simp only [hg] at hb ⊢
  have ORD2 := Lib.hid (show 0 < fb ∧ fb + 1 = yb ∧ yb < rr ∧ rr + 1 = g from by have o_ := ORD0.out; omega)
  have ee : Ex (fun _ => False) w2 w3 := Ex.of_below hl
  have T_3 := Lib.hid (T_1.out.ex ee (fun h => h))
  have L_3 := Lib.hid (L_1.out.ex ee (fun b_ h_ => h_.elim))
  have F_3 := Lib.hid (F_1.out.ex ee (fun h => h))
  have Y_3 := Lib.hid (Y_1.out.ex ee (fun h => h))
  have K_3 := Lib.hid (hb)
  clear ee T_1 L_1 F_1 Y_1 hb hl hsz hrr hlt hg ORD0
  go_wp2_with fail
  refine (awake_any w3 T_3.out).mono ?_; rintro e w4 ⟨rfl, hb⟩
  have ee : Ex (fun _ => False) w3 w4 := Ex.of_below hb
  have T_4 := Lib.hid (T_3.out.ex ee (fun h => h))
  have L_4 := Lib.hid (L_3.out.ex ee (fun b_ h_ => h_.elim))
  have F_4 := Lib.hid (F_3.out.ex ee (fun h => h))
  have Y_4 := Lib.hid (Y_3.out.ex ee (fun h => h))
  have K_4 := Lib.hid (K_3.out.ex ee (fun h => h) (fun h => h))
  clear ee T_3 L_3 F_3 Y_3 K_3 hb
  go_wp2_with fail
  go_ret
  exact ⟨rfl, L_4.out.low.mono HBS.out⟩
set_option maxRecDepth 100000 in
set_option maxHeartbeats 30000000 in
theorem Ru_bad1 (s : St) (hs : s.Ok) (n : Int) (hnb : -9223372036854775808 ≤ n ∧ n ≤ 9223372036854775807) (v2 : Value) (x : Value × Value × Nat × (Nat → Pl) × List Int) (w : World) (h2 : PicksAt w v2 x.1 x.2.1 x.2.2.1 x.2.2.2.1 x.2.2.2.2) (ht : Tab w) (h5 : mayE s = 0 ∧ n < 1) :
    Calls Tryd.prog 7 #[s.val, .int .i64 n, v2] w fun e w' => e = .returned (.bool true) ∧ Below w.heap.size w w' := by
  obtain ⟨va, vb, na, l, ws⟩ := x
  simp only at h2 h5
  obtain ⟨rfl, hpl, hwh⟩ := h2
  obtain ⟨A, ca, rfl, -, hga⟩ := hpl.form
  obtain ⟨B, cb, rfl, -, hgb⟩ := hwh.form
  have HGA := Lib.hid hga
  have HGB := Lib.hid hgb
  have HLO := Lib.hid hpl.ok
  have HS := Lib.hid hs
  have H5 := Lib.hid h5
  clear hpl hwh hga hgb hnb
  have hpk := fun W => Pack_ok s hs H5.out.1 W
  unfold St.val at hpk ⊢
  have HPK := Lib.hid hpk
  clear hpk hs h5
  have hq0 := ((blk_new' w (g := w.heap.size) (by simp) 34 #[.int .i64 s.mode, .int .i64 s.source, .bool s.hold, .int .i64 s.flags, .int .u64 s.epoch]).alloc (.cells #[.slice A na ca, .slice B ws.length cb] 74))
  have hq1 := (blk_new' (w.alloc (.cells #[.int .i64 s.mode, .int .i64 s.source, .bool s.hold, .int .i64 s.flags, .int .u64 s.epoch] 34)) (g := w.heap.size + 1) (by simp) 74 #[.slice A na ca, .slice B ws.length cb])
  have hlo := (((Below.refl w.heap.size w).alloc (by first | exact Nat.le_refl _ | (simp; done) | (simp; omega)) (.cells #[.int .i64 s.mode, .int .i64 s.source, .bool s.hold, .int .i64 s.flags, .int .u64 s.epoch] 34)).alloc (by first | exact Nat.le_refl _ | (simp; done) | (simp; omega)) (.cells #[.slice A na ca, .slice B ws.length cb] 74))
  have hz0 : 0 < w.heap.size := lt_of_cell (ht 0 (by decide))
  have ht1 := ht.below hlo
  go_enter Tryd.func7, Tryd.ntmps7
  go_upto_region 1 with fail
  generalize ((w.alloc (.cells #[.int .i64 s.mode, .int .i64 s.source, .bool s.hold, .int .i64 s.flags, .int .u64 s.epoch] 34)).alloc (.cells #[.slice A na ca, .slice B ws.length cb] 74)) = w1 at *
  obtain ⟨fb, hfb⟩ : ∃ fb, w.heap.size = fb := ⟨_, rfl⟩
  have hlo9 : Lo w.heap.size w w1 := ⟨hlo, hlo.size⟩
  have HBS := Lib.hid (Nat.le_of_eq hfb)
  simp only [hfb] at hlo9 hz0 hq0 hq1 ⊢
  obtain ⟨yb, hfb1⟩ : ∃ yb, fb + 1 = yb := ⟨_, rfl⟩
  simp only [hfb1] at hq1 ⊢
  have ORD0 := Lib.hid (show 0 < fb ∧ fb + 1 = yb from ⟨hz0, hfb1⟩)
  have T0 := Lib.hid ht1
  have L0 := Lib.hid hlo9
  have F0 := Lib.hid hq0
  have Y0 := Lib.hid hq1
  clear ht ht1 hlo hlo9 hz0 hfb hfb1 hq0 hq1
  have Fq0 := (F0.out).cell 0
  have Fq1 := (F0.out).cell 1
  have Fq2 := (F0.out).cell 2
  have Fq3 := (F0.out).cell 3
  have Fq4 := (F0.out).cell 4
  simp only [List.getElem?_toArray, List.getElem?_cons_succ, List.getElem?_cons_zero] at Fq0 Fq1 Fq2 Fq3 Fq4
  have Yq0 := (Y0.out).cell 0
  have Yq1 := (Y0.out).cell 1
  simp only [List.getElem?_toArray, List.getElem?_cons_succ, List.getElem?_cons_zero] at Yq0 Yq1
  go_wp2_with fail
  refine (HPK.out w1).mono ?_; rintro e w2 ⟨rfl, hb⟩
  clear Fq0 Fq1 Fq2 Fq3 Fq4 Yq0 Yq1
  have ee : Ex (fun _ => False) w1 w2 := Ex.of_below hb
  have T_1 := Lib.hid (T0.out.ex ee (fun h => h))
  have L_1 := Lib.hid (L0.out.ex ee (fun b_ h_ => h_.elim))
  have F_1 := Lib.hid (F0.out.ex ee (fun h => h))
  have Y_1 := Lib.hid (Y0.out.ex ee (fun h => h))
  clear ee T0 L0 F0 Y0 hb
  go_wp2_with fail
  refine (New_in 1 (by decide) (by decide) w2).mono ?_; rintro e w3 ⟨rfl, hb, hl, hsz⟩
  have hb : BankAt w3 (w2.heap.size + 1) w2.heap.size [0] 0 := hb
  obtain ⟨rr, hrr⟩ : ∃ rr, w2.heap.size = rr := ⟨_, rfl⟩
  have hlt : yb < rr := hrr ▸ Y_1.out.lt
  simp only [hrr] at hb ⊢
  obtain ⟨g, hg⟩ : ∃ g, rr + 1 = g := ⟨_, rfl⟩
  simp only [hg] at hb ⊢
  have ORD2 := Lib.hid (show 0 < fb ∧ fb + 1 = yb ∧ yb < rr ∧ rr + 1 = g from by have o_ := ORD0.out; omega)
  have ee : Ex (fun _ => False) w2 w3 := Ex.of_below hl
  have T_3 := Lib.hid (T_1.out.ex ee (fun h => h))
  have L_3 := Lib.hid (L_1.out.ex ee (fun b_ h_ => h_.elim))
  have F_3 := Lib.hid (F_1.out.ex ee (fun h => h))
  have Y_3 := Lib.hid (Y_1.out.ex ee (fun h => h))
  have K_3 := Lib.hid (hb)
  clear ee T_1 L_1 F_1 Y_1 hb hl hsz hrr hlt hg ORD0
  have c1 : decide (n < 1) = true := decide_eq_true (by have := H5.out; omega)
  go_wp2_with fail
  refine (awake_any w3 T_3.out).mono ?_; rintro e w4 ⟨rfl, hb⟩
  have ee : Ex (fun _ => False) w3 w4 := Ex.of_below hb
  have T_4 := Lib.hid (T_3.out.ex ee (fun h => h))
  have L_4 := Lib.hid (L_3.out.ex ee (fun b_ h_ => h_.elim))
  have F_4 := Lib.hid (F_3.out.ex ee (fun h => h))
  have Y_4 := Lib.hid (Y_3.out.ex ee (fun h => h))
  have K_4 := Lib.hid (K_3.out.ex ee (fun h => h) (fun h => h))
  clear ee T_3 L_3 F_3 Y_3 K_3 hb
  go_wp2_with fail
  go_ret
  exact ⟨rfl, L_4.out.low.mono HBS.out⟩
set_option maxRecDepth 100000 in
set_option maxHeartbeats 30000000 in
theorem Ru_bad2 (s : St) (hs : s.Ok) (n : Int) (hnb : -9223372036854775808 ≤ n ∧ n ≤ 9223372036854775807) (v2 : Value) (x : Value × Value × Nat × (Nat → Pl) × List Int) (w : World) (h2 : PicksAt w v2 x.1 x.2.1 x.2.2.1 x.2.2.2.1 x.2.2.2.2) (ht : Tab w) (h5 : mayE s = 0 ∧ 16 < n) :
    Calls Tryd.prog 7 #[s.val, .int .i64 n, v2] w fun e w' => e = .returned (.bool true) ∧ Below w.heap.size w w' := by
  obtain ⟨va, vb, na, l, ws⟩ := x
  simp only at h2 h5
  obtain ⟨rfl, hpl, hwh⟩ := h2
  obtain ⟨A, ca, rfl, -, hga⟩ := hpl.form
  obtain ⟨B, cb, rfl, -, hgb⟩ := hwh.form
  have HGA := Lib.hid hga
  have HGB := Lib.hid hgb
  have HLO := Lib.hid hpl.ok
  have HS := Lib.hid hs
  have H5 := Lib.hid h5
  clear hpl hwh hga hgb hnb
  have hpk := fun W => Pack_ok s hs H5.out.1 W
  unfold St.val at hpk ⊢
  have HPK := Lib.hid hpk
  clear hpk hs h5
  have hq0 := ((blk_new' w (g := w.heap.size) (by simp) 34 #[.int .i64 s.mode, .int .i64 s.source, .bool s.hold, .int .i64 s.flags, .int .u64 s.epoch]).alloc (.cells #[.slice A na ca, .slice B ws.length cb] 74))
  have hq1 := (blk_new' (w.alloc (.cells #[.int .i64 s.mode, .int .i64 s.source, .bool s.hold, .int .i64 s.flags, .int .u64 s.epoch] 34)) (g := w.heap.size + 1) (by simp) 74 #[.slice A na ca, .slice B ws.length cb])
  have hlo := (((Below.refl w.heap.size w).alloc (by first | exact Nat.le_refl _ | (simp; done) | (simp; omega)) (.cells #[.int .i64 s.mode, .int .i64 s.source, .bool s.hold, .int .i64 s.flags, .int .u64 s.epoch] 34)).alloc (by first | exact Nat.le_refl _ | (simp; done) | (simp; omega)) (.cells #[.slice A na ca, .slice B ws.length cb] 74))
  have hz0 : 0 < w.heap.size := lt_of_cell (ht 0 (by decide))
  have ht1 := ht.below hlo
  go_enter Tryd.func7, Tryd.ntmps7
  go_upto_region 1 with fail
  generalize ((w.alloc (.cells #[.int .i64 s.mode, .int .i64 s.source, .bool s.hold, .int .i64 s.flags, .int .u64 s.epoch] 34)).alloc (.cells #[.slice A na ca, .slice B ws.length cb] 74)) = w1 at *
  obtain ⟨fb, hfb⟩ : ∃ fb, w.heap.size = fb := ⟨_, rfl⟩
  have hlo9 : Lo w.heap.size w w1 := ⟨hlo, hlo.size⟩
  have HBS := Lib.hid (Nat.le_of_eq hfb)
  simp only [hfb] at hlo9 hz0 hq0 hq1 ⊢
  obtain ⟨yb, hfb1⟩ : ∃ yb, fb + 1 = yb := ⟨_, rfl⟩
  simp only [hfb1] at hq1 ⊢
  have ORD0 := Lib.hid (show 0 < fb ∧ fb + 1 = yb from ⟨hz0, hfb1⟩)
  have T0 := Lib.hid ht1
  have L0 := Lib.hid hlo9
  have F0 := Lib.hid hq0
  have Y0 := Lib.hid hq1
  clear ht ht1 hlo hlo9 hz0 hfb hfb1 hq0 hq1
  have Fq0 := (F0.out).cell 0
  have Fq1 := (F0.out).cell 1
  have Fq2 := (F0.out).cell 2
  have Fq3 := (F0.out).cell 3
  have Fq4 := (F0.out).cell 4
  simp only [List.getElem?_toArray, List.getElem?_cons_succ, List.getElem?_cons_zero] at Fq0 Fq1 Fq2 Fq3 Fq4
  have Yq0 := (Y0.out).cell 0
  have Yq1 := (Y0.out).cell 1
  simp only [List.getElem?_toArray, List.getElem?_cons_succ, List.getElem?_cons_zero] at Yq0 Yq1
  go_wp2_with fail
  refine (HPK.out w1).mono ?_; rintro e w2 ⟨rfl, hb⟩
  clear Fq0 Fq1 Fq2 Fq3 Fq4 Yq0 Yq1
  have ee : Ex (fun _ => False) w1 w2 := Ex.of_below hb
  have T_1 := Lib.hid (T0.out.ex ee (fun h => h))
  have L_1 := Lib.hid (L0.out.ex ee (fun b_ h_ => h_.elim))
  have F_1 := Lib.hid (F0.out.ex ee (fun h => h))
  have Y_1 := Lib.hid (Y0.out.ex ee (fun h => h))
  clear ee T0 L0 F0 Y0 hb
  go_wp2_with fail
  refine (New_in 1 (by decide) (by decide) w2).mono ?_; rintro e w3 ⟨rfl, hb, hl, hsz⟩
  have hb : BankAt w3 (w2.heap.size + 1) w2.heap.size [0] 0 := hb
  obtain ⟨rr, hrr⟩ : ∃ rr, w2.heap.size = rr := ⟨_, rfl⟩
  have hlt : yb < rr := hrr ▸ Y_1.out.lt
  simp only [hrr] at hb ⊢
  obtain ⟨g, hg⟩ : ∃ g, rr + 1 = g := ⟨_, rfl⟩
  simp only [hg] at hb ⊢
  have ORD2 := Lib.hid (show 0 < fb ∧ fb + 1 = yb ∧ yb < rr ∧ rr + 1 = g from by have o_ := ORD0.out; omega)
  have ee : Ex (fun _ => False) w2 w3 := Ex.of_below hl
  have T_3 := Lib.hid (T_1.out.ex ee (fun h => h))
  have L_3 := Lib.hid (L_1.out.ex ee (fun b_ h_ => h_.elim))
  have F_3 := Lib.hid (F_1.out.ex ee (fun h => h))
  have Y_3 := Lib.hid (Y_1.out.ex ee (fun h => h))
  have K_3 := Lib.hid (hb)
  clear ee T_1 L_1 F_1 Y_1 hb hl hsz hrr hlt hg ORD0
  have c1 : decide (n < 1) = false := decide_eq_false (by have := H5.out; omega)
  have c2 : decide (n > 16) = true := decide_eq_true (by have := H5.out; omega)
  go_wp2_with fail
  refine (awake_any w3 T_3.out).mono ?_; rintro e w4 ⟨rfl, hb⟩
  have ee : Ex (fun _ => False) w3 w4 := Ex.of_below hb
  have T_4 := Lib.hid (T_3.out.ex ee (fun h => h))
  have L_4 := Lib.hid (L_3.out.ex ee (fun b_ h_ => h_.elim))
  have F_4 := Lib.hid (F_3.out.ex ee (fun h => h))
  have Y_4 := Lib.hid (Y_3.out.ex ee (fun h => h))
  have K_4 := Lib.hid (K_3.out.ex ee (fun h => h) (fun h => h))
  clear ee T_3 L_3 F_3 Y_3 K_3 hb
  go_wp2_with fail
  go_ret
  exact ⟨rfl, L_4.out.low.mono HBS.out⟩
set_option maxRecDepth 100000 in
set_option maxHeartbeats 30000000 in
theorem Ru_bad3 (s : St) (hs : s.Ok) (n : Int) (hnb : -9223372036854775808 ≤ n ∧ n ≤ 9223372036854775807) (v2 : Value) (x : Value × Value × Nat × (Nat → Pl) × List Int) (w : World) (h2 : PicksAt w v2 x.1 x.2.1 x.2.2.1 x.2.2.2.1 x.2.2.2.2) (ht : Tab w) (h5 : mayE s = 0 ∧ 1 ≤ n ∧ n ≤ 16 ∧ 200 < x.2.2.1) :
    Calls Tryd.prog 7 #[s.val, .int .i64 n, v2] w fun e w' => e = .returned (.bool true) ∧ Below w.heap.size w w' := by
  obtain ⟨va, vb, na, l, ws⟩ := x
  simp only at h2 h5
  obtain ⟨rfl, hpl, hwh⟩ := h2
  obtain ⟨A, ca, rfl, -, hga⟩ := hpl.form
  obtain ⟨B, cb, rfl, -, hgb⟩ := hwh.form
  have HGA := Lib.hid hga
  have HGB := Lib.hid hgb
  have HLO := Lib.hid hpl.ok
  have HS := Lib.hid hs
  have H5 := Lib.hid h5
  clear hpl hwh hga hgb hnb
  have hpk := fun W => Pack_ok s hs H5.out.1 W
  unfold St.val at hpk ⊢
  have HPK := Lib.hid hpk
  clear hpk hs h5
  have hq0 := ((blk_new' w (g := w.heap.size) (by simp) 34 #[.int .i64 s.mode, .int .i64 s.source, .bool s.hold, .int .i64 s.flags, .int .u64 s.epoch]).alloc (.cells #[.slice A na ca, .slice B ws.length cb] 74))
  have hq1 := (blk_new' (w.alloc (.cells #[.int .i64 s.mode, .int .i64 s.source, .bool s.hold, .int .i64 s.flags, .int .u64 s.epoch] 34)) (g := w.heap.size + 1) (by simp) 74 #[.slice A na ca, .slice B ws.length cb])
  have hlo := (((Below.refl w.heap.size w).alloc (by first | exact Nat.le_refl _ | (simp; done) | (simp; omega)) (.cells #[.int .i64 s.mode, .int .i64 s.source, .bool s.hold, .int .i64 s.flags, .int .u64 s.epoch] 34)).alloc (by first | exact Nat.le_refl _ | (simp; done) | (simp; omega)) (.cells #[.slice A na ca, .slice B ws.length cb] 74))
  have hz0 : 0 < w.heap.size := lt_of_cell (ht 0 (by decide))
  have ht1 := ht.below hlo
  go_enter Tryd.func7, Tryd.ntmps7
  go_upto_region 1 with fail
  generalize ((w.alloc (.cells #[.int .i64 s.mode, .int .i64 s.source, .bool s.hold, .int .i64 s.flags, .int .u64 s.epoch] 34)).alloc (.cells #[.slice A na ca, .slice B ws.length cb] 74)) = w1 at *
  obtain ⟨fb, hfb⟩ : ∃ fb, w.heap.size = fb := ⟨_, rfl⟩
  have hlo9 : Lo w.heap.size w w1 := ⟨hlo, hlo.size⟩
  have HBS := Lib.hid (Nat.le_of_eq hfb)
  simp only [hfb] at hlo9 hz0 hq0 hq1 ⊢
  obtain ⟨yb, hfb1⟩ : ∃ yb, fb + 1 = yb := ⟨_, rfl⟩
  simp only [hfb1] at hq1 ⊢
  have ORD0 := Lib.hid (show 0 < fb ∧ fb + 1 = yb from ⟨hz0, hfb1⟩)
  have T0 := Lib.hid ht1
  have L0 := Lib.hid hlo9
  have F0 := Lib.hid hq0
  have Y0 := Lib.hid hq1
  clear ht ht1 hlo hlo9 hz0 hfb hfb1 hq0 hq1
  have Fq0 := (F0.out).cell 0
  have Fq1 := (F0.out).cell 1
  have Fq2 := (F0.out).cell 2
  have Fq3 := (F0.out).cell 3
  have Fq4 := (F0.out).cell 4
  simp only [List.getElem?_toArray, List.getElem?_cons_succ, List.getElem?_cons_zero] at Fq0 Fq1 Fq2 Fq3 Fq4
  have Yq0 := (Y0.out).cell 0
  have Yq1 := (Y0.out).cell 1
  simp only [List.getElem?_toArray, List.getElem?_cons_succ, List.getElem?_cons_zero] at Yq0 Yq1
  go_wp2_with fail
  refine (HPK.out w1).mono ?_; rintro e w2 ⟨rfl, hb⟩
  clear Fq0 Fq1 Fq2 Fq3 Fq4 Yq0 Yq1
  have ee : Ex (fun _ => False) w1 w2 := Ex.of_below hb
  have T_1 := Lib.hid (T0.out.ex ee (fun h => h))
  have L_1 := Lib.hid (L0.out.ex ee (fun b_ h_ => h_.elim))
  have F_1 := Lib.hid (F0.out.ex ee (fun h => h))
  have Y_1 := Lib.hid (Y0.out.ex ee (fun h => h))
  clear ee T0 L0 F0 Y0 hb
  go_wp2_with fail
  refine (New_in 1 (by decide) (by decide) w2).mono ?_; rintro e w3 ⟨rfl, hb, hl, hsz⟩
  have hb : BankAt w3 (w2.heap.size + 1) w2.heap.size [0] 0 := hb
  obtain ⟨rr, hrr⟩ : ∃ rr, w2.heap.size = rr := ⟨_, rfl⟩
  have hlt : yb < rr := hrr ▸ Y_1.out.lt
  simp only [hrr] at hb ⊢
  obtain ⟨g, hg⟩ : ∃ g, rr + 1 = g := ⟨_, rfl⟩
  simp only [hg] at hb ⊢
  have ORD2 := Lib.hid (show 0 < fb ∧ fb + 1 = yb ∧ yb < rr ∧ rr + 1 = g from by have o_ := ORD0.out; omega)
  have ee : Ex (fun _ => False) w2 w3 := Ex.of_below hl
  have T_3 := Lib.hid (T_1.out.ex ee (fun h => h))
  have L_3 := Lib.hid (L_1.out.ex ee (fun b_ h_ => h_.elim))
  have F_3 := Lib.hid (F_1.out.ex ee (fun h => h))
  have Y_3 := Lib.hid (Y_1.out.ex ee (fun h => h))
  have K_3 := Lib.hid (hb)
  clear ee T_1 L_1 F_1 Y_1 hb hl hsz hrr hlt hg ORD0
  have c1 : decide (n < 1) = false := decide_eq_false (by have := H5.out; omega)
  have c2 : decide (n > 16) = false := decide_eq_false (by have := H5.out; omega)
  have c3 : decide ((na : Int) > 200) = true := decide_eq_true (by have := H5.out; omega)
  go_wp2_with fail
  refine (awake_any w3 T_3.out).mono ?_; rintro e w4 ⟨rfl, hb⟩
  have ee : Ex (fun _ => False) w3 w4 := Ex.of_below hb
  have T_4 := Lib.hid (T_3.out.ex ee (fun h => h))
  have L_4 := Lib.hid (L_3.out.ex ee (fun b_ h_ => h_.elim))
  have F_4 := Lib.hid (F_3.out.ex ee (fun h => h))
  have Y_4 := Lib.hid (Y_3.out.ex ee (fun h => h))
  have K_4 := Lib.hid (K_3.out.ex ee (fun h => h) (fun h => h))
  clear ee T_3 L_3 F_3 Y_3 K_3 hb
  go_wp2_with fail
  go_ret
  exact ⟨rfl, L_4.out.low.mono HBS.out⟩
set_option maxRecDepth 100000 in
set_option maxHeartbeats 30000000 in
theorem Ru_good (s : St) (hs : s.Ok) (n : Int) (hnb : -9223372036854775808 ≤ n ∧ n ≤ 9223372036854775807) (v2 : Value) (x : Value × Value × Nat × (Nat → Pl) × List Int) (w : World) (h2 : PicksAt w v2 x.1 x.2.1 x.2.2.1 x.2.2.2.1 x.2.2.2.2) (ht : Tab w) (h5 : mayE s = 0 ∧ 1 ≤ n ∧ n ≤ 16 ∧ x.2.2.1 ≤ 200) :
    Calls Tryd.prog 7 #[s.val, .int .i64 n, v2] w fun e w' => e = .returned (.bool true) ∧ Below w.heap.size w w' := by
  obtain ⟨va, vb, na, l, ws⟩ := x
  simp only at h2 h5
  obtain ⟨rfl, hpl, hwh⟩ := h2
  obtain ⟨A, ca, rfl, -, hga⟩ := hpl.form
  obtain ⟨B, cb, rfl, -, hgb⟩ := hwh.form
  have HGA := Lib.hid hga
  have HGB := Lib.hid hgb
  have HLO := Lib.hid hpl.ok
  have HS := Lib.hid hs
  have H5 := Lib.hid h5
  clear hpl hwh hga hgb hnb
  have hpk := fun W => Pack_ok s hs H5.out.1 W
  unfold St.val at hpk ⊢
  have HPK := Lib.hid hpk
  clear hpk hs h5
  have hq0 := ((blk_new' w (g := w.heap.size) (by simp) 34 #[.int .i64 s.mode, .int .i64 s.source, .bool s.hold, .int .i64 s.flags, .int .u64 s.epoch]).alloc (.cells #[.slice A na ca, .slice B ws.length cb] 74))
  have hq1 := (blk_new' (w.alloc (.cells #[.int .i64 s.mode, .int .i64 s.source, .bool s.hold, .int .i64 s.flags, .int .u64 s.epoch] 34)) (g := w.heap.size + 1) (by simp) 74 #[.slice A na ca, .slice B ws.length cb])
  have hlo := (((Below.refl w.heap.size w).alloc (by first | exact Nat.le_refl _ | (simp; done) | (simp; omega)) (.cells #[.int .i64 s.mode, .int .i64 s.source, .bool s.hold, .int .i64 s.flags, .int .u64 s.epoch] 34)).alloc (by first | exact Nat.le_refl _ | (simp; done) | (simp; omega)) (.cells #[.slice A na ca, .slice B ws.length cb] 74))
  have hz0 : 0 < w.heap.size := lt_of_cell (ht 0 (by decide))
  have ht1 := ht.below hlo
  go_enter Tryd.func7, Tryd.ntmps7
  go_upto_region 1 with fail
  generalize ((w.alloc (.cells #[.int .i64 s.mode, .int .i64 s.source, .bool s.hold, .int .i64 s.flags, .int .u64 s.epoch] 34)).alloc (.cells #[.slice A na ca, .slice B ws.length cb] 74)) = w1 at *
  obtain ⟨fb, hfb⟩ : ∃ fb, w.heap.size = fb := ⟨_, rfl⟩
  have hlo9 : Lo w.heap.size w w1 := ⟨hlo, hlo.size⟩
  have HBS := Lib.hid (Nat.le_of_eq hfb)
  simp only [hfb] at hlo9 hz0 hq0 hq1 ⊢
  obtain ⟨yb, hfb1⟩ : ∃ yb, fb + 1 = yb := ⟨_, rfl⟩
  simp only [hfb1] at hq1 ⊢
  have ORD0 := Lib.hid (show 0 < fb ∧ fb + 1 = yb from ⟨hz0, hfb1⟩)
  have T0 := Lib.hid ht1
  have L0 := Lib.hid hlo9
  have F0 := Lib.hid hq0
  have Y0 := Lib.hid hq1
  clear ht ht1 hlo hlo9 hz0 hfb hfb1 hq0 hq1
  have Fq0 := (F0.out).cell 0
  have Fq1 := (F0.out).cell 1
  have Fq2 := (F0.out).cell 2
  have Fq3 := (F0.out).cell 3
  have Fq4 := (F0.out).cell 4
  simp only [List.getElem?_toArray, List.getElem?_cons_succ, List.getElem?_cons_zero] at Fq0 Fq1 Fq2 Fq3 Fq4
  have Yq0 := (Y0.out).cell 0
  have Yq1 := (Y0.out).cell 1
  simp only [List.getElem?_toArray, List.getElem?_cons_succ, List.getElem?_cons_zero] at Yq0 Yq1
  go_wp2_with fail
  refine (HPK.out w1).mono ?_; rintro e w2 ⟨rfl, hb⟩
  clear Fq0 Fq1 Fq2 Fq3 Fq4 Yq0 Yq1
  have ee : Ex (fun _ => False) w1 w2 := Ex.of_below hb
  have T_1 := Lib.hid (T0.out.ex ee (fun h => h))
  have L_1 := Lib.hid (L0.out.ex ee (fun b_ h_ => h_.elim))
  have F_1 := Lib.hid (F0.out.ex ee (fun h => h))
  have Y_1 := Lib.hid (Y0.out.ex ee (fun h => h))
  clear ee T0 L0 F0 Y0 hb
  go_wp2_with fail
  refine (New_in 1 (by decide) (by decide) w2).mono ?_; rintro e w3 ⟨rfl, hb, hl, hsz⟩
  have hb : BankAt w3 (w2.heap.size + 1) w2.heap.size [0] 0 := hb
  obtain ⟨rr, hrr⟩ : ∃ rr, w2.heap.size = rr := ⟨_, rfl⟩
  have hlt : yb < rr := hrr ▸ Y_1.out.lt
  simp only [hrr] at hb ⊢
  obtain ⟨g, hg⟩ : ∃ g, rr + 1 = g := ⟨_, rfl⟩
  simp only [hg] at hb ⊢
  have ORD2 := Lib.hid (show 0 < fb ∧ fb + 1 = yb ∧ yb < rr ∧ rr + 1 = g from by have o_ := ORD0.out; omega)
  have ee : Ex (fun _ => False) w2 w3 := Ex.of_below hl
  have T_3 := Lib.hid (T_1.out.ex ee (fun h => h))
  have L_3 := Lib.hid (L_1.out.ex ee (fun b_ h_ => h_.elim))
  have F_3 := Lib.hid (F_1.out.ex ee (fun h => h))
  have Y_3 := Lib.hid (Y_1.out.ex ee (fun h => h))
  have K_3 := Lib.hid (hb)
  clear ee T_1 L_1 F_1 Y_1 hb hl hsz hrr hlt hg ORD0
  have c1 : decide (n < 1) = false := decide_eq_false (by have := H5.out; omega)
  have c2 : decide (n > 16) = false := decide_eq_false (by have := H5.out; omega)
  have c3 : decide ((na : Int) > 200) = false := decide_eq_false (by have := H5.out; omega)
  go_wp2_with fail
  refine (Store_any g rr [0] 0 0 (wordI s) w3 K_3.out (wordI_range (mayE_zero.1 H5.out.1).1 HS.out)).mono ?_; rintro e w4 ⟨rfl, hb, hx⟩
  have e1 : errF [0] 0 = 0 := rfl
  have e2 : setF [0] 0 (wordI s) = [wordI s] := set1 _ _
  have e3 : tickF [0] 0 0 = 1 := rfl
  rw [e2, e3] at hb
  rw [e1]
  have ee : Ex (fun k => k = g ∨ k = rr) w3 w4 := Ex.of_ex2 (T := fun k => k = g ∨ k = rr) hx (.inl rfl) (.inr rfl)
  have T_4 := Lib.hid (T_3.out.ex ee (by have o_ := ORD2.out; omega))
  have L_4 := Lib.hid (L_3.out.ex ee (fun b_ h_ => by have o_ := ORD2.out; have h_ : b_ = g ∨ b_ = rr := h_; first | omega | (show _ ∨ _; omega)))
  have F_4 := Lib.hid (F_3.out.ex ee (by have o_ := ORD2.out; omega))
  have Y_4 := Lib.hid (Y_3.out.ex ee (by have o_ := ORD2.out; omega))
  have K_4 := Lib.hid (hb)
  clear ee T_3 L_3 F_3 Y_3 K_3 hb hx e1 e2 e3
  clear c1 c2 c3
  have hmk := make_ro3 w4
  go_upto_region 10 with fail
  clear hmk
  have hq := Blk.new w4 27 #[.pointer none, .pointer none, .pointer none]
  obtain ⟨o3, hnm⟩ : ∃ o3, w4.heap.size = o3 := ⟨_, rfl⟩
  have hlt : g < o3 := hnm ▸ K_4.out.head.lt
  simp only [hnm] at hq ⊢
  have ORD5 := Lib.hid (show 0 < fb ∧ fb + 1 = yb ∧ yb < rr ∧ rr + 1 = g ∧ g < o3 from by have o_ := ORD2.out; omega)
  have ee : Ex (fun _ => False) w4 (w4.alloc (.cells #[.pointer none, .pointer none, .pointer none] 27)) := (Ex.refl (fun _ => False) w4).alloc (.cells #[.pointer none, .pointer none, .pointer none] 27)
  have T_6 := Lib.hid (T_4.out.ex ee (fun h => h))
  have L_6 := Lib.hid (L_4.out.ex ee (fun b_ h_ => h_.elim))
  have F_6 := Lib.hid (F_4.out.ex ee (fun h => h))
  have Y_6 := Lib.hid (Y_4.out.ex ee (fun h => h))
  have K_6 := Lib.hid (K_4.out.ex ee (fun h => h) (fun h => h))
  have O_6 := Lib.hid (hq)
  clear ee T_4 L_4 F_4 Y_4 K_4 hq hlt hnm ORD2
  generalize w4.alloc (.cells #[.pointer none, .pointer none, .pointer none] 27) = w5 at *
  have hmk := make_rp3 w5
  go_upto_region 11 with fail
  clear hmk
  have hq := Blk.new w5 41 #[.int .i64 0, .int .i64 0, .int .i64 0, .bool false, .int .i64 0, .int .i64 0, .int .i64 0, .int .i64 0, .bool false, .int .i64 0, .int .i64 0, .int .i64 0, .int .i64 0, .bool false, .int .i64 0]
  obtain ⟨p3, hnm⟩ : ∃ p3, w5.heap.size = p3 := ⟨_, rfl⟩
  have hlt : o3 < p3 := hnm ▸ O_6.out.lt
  simp only [hnm] at hq ⊢
  have ORD7 := Lib.hid (show 0 < fb ∧ fb + 1 = yb ∧ yb < rr ∧ rr + 1 = g ∧ g < o3 ∧ o3 < p3 from by have o_ := ORD5.out; omega)
  have ee : Ex (fun _ => False) w5 (w5.alloc (.cells #[.int .i64 0, .int .i64 0, .int .i64 0, .bool false, .int .i64 0, .int .i64 0, .int .i64 0, .int .i64 0, .bool false, .int .i64 0, .int .i64 0, .int .i64 0, .int .i64 0, .bool false, .int .i64 0] 41)) := (Ex.refl (fun _ => False) w5).alloc (.cells #[.int .i64 0, .int .i64 0, .int .i64 0, .bool false, .int .i64 0, .int .i64 0, .int .i64 0, .int .i64 0, .bool false, .int .i64 0, .int .i64 0, .int .i64 0, .int .i64 0, .bool false, .int .i64 0] 41)
  have T_8 := Lib.hid (T_6.out.ex ee (fun h => h))
  have L_8 := Lib.hid (L_6.out.ex ee (fun b_ h_ => h_.elim))
  have F_8 := Lib.hid (F_6.out.ex ee (fun h => h))
  have Y_8 := Lib.hid (Y_6.out.ex ee (fun h => h))
  have K_8 := Lib.hid (K_6.out.ex ee (fun h => h) (fun h => h))
  have O_8 := Lib.hid (O_6.out.ex ee (fun h => h))
  have Q_8 := Lib.hid (hq)
  clear ee T_6 L_6 F_6 Y_6 K_6 O_6 hq hlt hnm ORD5
  generalize w5.alloc (.cells #[.int .i64 0, .int .i64 0, .int .i64 0, .bool false, .int .i64 0, .int .i64 0, .int .i64 0, .int .i64 0, .bool false, .int .i64 0, .int .i64 0, .int .i64 0, .int .i64 0, .bool false, .int .i64 0] 41) = w6 at *
  have hmk := make_rb3 w6
  go_upto_region 12 with fail
  clear hmk
  have hq := Blk.new w6 4 #[.bool false, .bool false, .bool false]
  obtain ⟨b3, hnm⟩ : ∃ b3, w6.heap.size = b3 := ⟨_, rfl⟩
  have hlt : p3 < b3 := hnm ▸ Q_8.out.lt
  simp only [hnm] at hq ⊢
  have ORD9 := Lib.hid (show 0 < fb ∧ fb + 1 = yb ∧ yb < rr ∧ rr + 1 = g ∧ g < o3 ∧ o3 < p3 ∧ p3 < b3 from by have o_ := ORD7.out; omega)
  have ee : Ex (fun _ => False) w6 (w6.alloc (.cells #[.bool false, .bool false, .bool false] 4)) := (Ex.refl (fun _ => False) w6).alloc (.cells #[.bool false, .bool false, .bool false] 4)
  have T_10 := Lib.hid (T_8.out.ex ee (fun h => h))
  have L_10 := Lib.hid (L_8.out.ex ee (fun b_ h_ => h_.elim))
  have F_10 := Lib.hid (F_8.out.ex ee (fun h => h))
  have Y_10 := Lib.hid (Y_8.out.ex ee (fun h => h))
  have K_10 := Lib.hid (K_8.out.ex ee (fun h => h) (fun h => h))
  have O_10 := Lib.hid (O_8.out.ex ee (fun h => h))
  have Q_10 := Lib.hid (Q_8.out.ex ee (fun h => h))
  have V_10 := Lib.hid (hq)
  clear ee T_8 L_8 F_8 Y_8 K_8 O_8 Q_8 hq hlt hnm ORD7
  generalize w6.alloc (.cells #[.bool false, .bool false, .bool false] 4) = w7 at *
  have hmk := make_rs3 w7
  go_upto_region 13 with fail
  clear hmk
  have hq := Blk.new w7 3 #[.int .i64 0, .int .i64 0, .int .i64 0]
  obtain ⟨s3, hnm⟩ : ∃ s3, w7.heap.size = s3 := ⟨_, rfl⟩
  have hlt : b3 < s3 := hnm ▸ V_10.out.lt
  simp only [hnm] at hq ⊢
  have ORD11 := Lib.hid (show 0 < fb ∧ fb + 1 = yb ∧ yb < rr ∧ rr + 1 = g ∧ g < o3 ∧ o3 < p3 ∧ p3 < b3 ∧ b3 < s3 from by have o_ := ORD9.out; omega)
  have ee : Ex (fun _ => False) w7 (w7.alloc (.cells #[.int .i64 0, .int .i64 0, .int .i64 0] 3)) := (Ex.refl (fun _ => False) w7).alloc (.cells #[.int .i64 0, .int .i64 0, .int .i64 0] 3)
  have T_12 := Lib.hid (T_10.out.ex ee (fun h => h))
  have L_12 := Lib.hid (L_10.out.ex ee (fun b_ h_ => h_.elim))
  have F_12 := Lib.hid (F_10.out.ex ee (fun h => h))
  have Y_12 := Lib.hid (Y_10.out.ex ee (fun h => h))
  have K_12 := Lib.hid (K_10.out.ex ee (fun h => h) (fun h => h))
  have O_12 := Lib.hid (O_10.out.ex ee (fun h => h))
  have Q_12 := Lib.hid (Q_10.out.ex ee (fun h => h))
  have V_12 := Lib.hid (V_10.out.ex ee (fun h => h))
  have N_12 := Lib.hid (hq)
  clear ee T_10 L_10 F_10 Y_10 K_10 O_10 Q_10 V_10 hq hlt hnm ORD9
  generalize w7.alloc (.cells #[.int .i64 0, .int .i64 0, .int .i64 0] 3) = w8 at *
  go_wp2_with fail
  obtain ⟨wk, rfl⟩ : ∃ wk : World, wk = w8 := ⟨_, rfl⟩
  go_loopw [17, 18, 19, 20, 21, 22, 23, 24, 25, 26, 27, 28, 29, 30, 31] (fun s17 s18 s19 s20 s21 s22 s23 s24 s25 s26 s27 s28 s29 s30 s31 wr => ∃ (i : Nat) (q : R3) (sa : St) (tn tt : Int), i ≤ na ∧ s17 = .int .i64 tn ∧ s18 = .int .i64 i ∧ 0 ≤ tn ∧ tn ≤ (i : Int) ∧ sa.Ok ∧ mayE sa = 0 ∧ BankAt wr g rr [wordI sa] tt ∧ Blk wr o3 27 (aArr q) ∧ Blk wr p3 41 (pArr q) ∧ Blk wr b3 4 (zArr q) ∧ Blk wr s3 3 (nArr q) ∧ Tab wr ∧ Lo fb w wr ∧ Crew wr s3 n (wordI sa) tn q) (fun s17 s18 s19 s20 s21 s22 s23 s24 s25 s26 s27 s28 s29 s30 s31 _ => na - (intOf s18).toNat)
  case atStart => exact ⟨0, (fun _ => ⟨none, 0, 0, AX.zero 0, ⟨0, 0, 0, false, 0⟩, false, 0⟩), s, 0, 1, by omega, rfl, rfl, by omega, by omega, HS.out, H5.out.1, K_12.out, O_12.out, Q_12.out, V_12.out, N_12.out, T_12.out, L_12.out, ⟨fun _ _ h => by simp at h, fun _ _ => ⟨Int.le_refl _, Int.le_refl _⟩, fun _ _ _ _ _ h => by simp at h⟩⟩
  case round =>
    clear T_12 L_12 F_12 Y_12 K_12 O_12 Q_12 V_12 N_12
    obtain ⟨i, q, sa, tn, tt, hi, rfl, rfl, ht1, ht2, hsa, hm0, hk, ho, hq, hv, hn, ht, hl, hz⟩ := hrel
    have K0 := Lib.hid hk
    have O0 := Lib.hid ho
    have Q0 := Lib.hid hq
    have V0 := Lib.hid hv
    have N0 := Lib.hid hn
    have T0 := Lib.hid ht
    have L0 := Lib.hid hl
    have Z0 := Lib.hid hz
    have HT := Lib.hid (show 0 ≤ tn ∧ tn ≤ (i : Int) from ⟨ht1, ht2⟩)
    have HSA := Lib.hid (show sa.Ok ∧ mayE sa = 0 from ⟨hsa, hm0⟩)
    clear hk ho hq hv hn ht hl hz ht1 ht2 hsa hm0
    by_cases hlt : i < na
    · skip
      have kd : decide ((i : Int) < (na : Int)) = true := decide_eq_true (by omega)
      have ki0 : (0 : Int) ≤ (i : Int) := by omega
      have ki1 : (i : Int) < (na : Int) := by omega
      have HI := Lib.hid hlt
      clear hi hlt
      have ki5 : (i : Int) ≤ 200 := by have := HI.out; have := H5.out; omega
      have HT5 := Lib.hid (show 0 ≤ tn ∧ tn ≤ 200 by have := HT.out; omega)
      by_cases hlw : i < ws.length
      · skip
        have kw : decide ((i : Int) < (ws.length : Int)) = true := decide_eq_true (by omega)
        have kw1 : (i : Int) < (ws.length : Int) := by omega
        obtain ⟨ba, oa, rfl, hba, hca⟩ := HGA.out (by have := HI.out; omega)
        obtain ⟨bw, ow, rfl, hbw, hcw⟩ := HGB.out (by intro hh; rw [hh] at hlw; simp at hlw)
        have HBA := Lib.hid (Nat.lt_of_lt_of_le hba HBS.out)
        have HCA := Lib.hid (hca i HI.out)
        have pw := (L0.out.low.cell (p := ⟨bw, ow + i, none⟩) (Nat.lt_of_lt_of_le hbw HBS.out)).trans (hcw i hlw)
        have HLI := Lib.hid (HLO.out i HI.out)
        generalize l i = pl at *
        obtain ⟨k, hk3, hke, hp1, hp2⟩ := pick3r (nth ws i)
        generalize nth ws i = wi at *
        have HK3 := Lib.hid hk3
        have kk0 : (0 : Int) ≤ (k : Int) := by omega
        have kk3 : (k : Int) < 3 := by omega
        have HIW := Lib.hid hlw
        clear hk3 hba hbw hca hcw hlw
        obtain ⟨bz, hbz⟩ : ∃ bz, (q k).bz = bz := ⟨_, rfl⟩
        have zq := (V0.out.cell k).trans (qArr_cell q HK3.out).2.1
        rw [hbz] at zq
        by_cases hbd : bz = false ∧ ¬ pl.May n
        · skip
          obtain ⟨rfl, hm⟩ := hbd
          have hbg := fun W => begin_bad 0 n pl W hm
          unfold Pl.val at hbg
          have HBG := Lib.hid hbg
          clear hbg hm hbz
          have pc0 := (L0.out.low.cell (p := ⟨ba, oa + i * 5, none⟩) HBA.out).trans HCA.out.1
          have pc1 := (L0.out.low.cell (p := ⟨ba, oa + i * 5 + 1, none⟩) HBA.out).trans HCA.out.2.1
          have pc2 := (L0.out.low.cell (p := ⟨ba, oa + i * 5 + 2, none⟩) HBA.out).trans HCA.out.2.2.1
          have pc3 := (L0.out.low.cell (p := ⟨ba, oa + i * 5 + 3, none⟩) HBA.out).trans HCA.out.2.2.2.1
          have pc4 := (L0.out.low.cell (p := ⟨ba, oa + i * 5 + 4, none⟩) HBA.out).trans HCA.out.2.2.2.2
          go_wp2_with fail
          clear pw zq hke hp1 hp2
          clear pc0 pc1 pc2 pc3 pc4
          refine (HBG.out wr).mono ?_; rintro e w2 ⟨rfl, hb⟩
          have ee : Ex (fun _ => False) wr w2 := Ex.of_below hb
          have K_201 := Lib.hid (K0.out.ex ee (fun h => h) (fun h => h))
          have O_201 := Lib.hid (O0.out.ex ee (fun h => h))
          have Q_201 := Lib.hid (Q0.out.ex ee (fun h => h))
          have V_201 := Lib.hid (V0.out.ex ee (fun h => h))
          have N_201 := Lib.hid (N0.out.ex ee (fun h => h))
          have T_201 := Lib.hid (T0.out.ex ee (fun h => h))
          have L_201 := Lib.hid (L0.out.ex ee (fun b_ h_ => h_.elim))
          have Z_201 := Lib.hid (Z0.out.ex ee (fun b_ h_ => h_.elim))
          clear ee K0 O0 Q0 V0 N0 T0 L0 Z0 hb
          go_wp2_with fail
          exact ⟨⟨i + 1, q, sa, tn, tt, by have := HI.out; omega, rfl, by go_num, by have := HT.out; omega, by have := HT.out; omega, HSA.out.1, HSA.out.2, K_201.out, O_201.out, Q_201.out, V_201.out, N_201.out, T_201.out, L_201.out, Z_201.out⟩, by have := HI.out; simp [intOf]; omega⟩
        have hgd : bz = true ∨ pl.May n := by cases bz with
          | true => exact .inl rfl
          | false => exact .inr (Classical.byContradiction fun h => hbd ⟨rfl, h⟩)
        have HGD := Lib.hid hgd
        have HBZ := Lib.hid hbz
        clear hbd hgd hbz
        go_upto_if 96 with fail
        clear pw hke hp1 hp2 zq
        go_cut [20, 21] from 97 to 125 (fun s20 s21 wx => ∃ q2 : R3, BankAt wx g rr [wordI sa] tt ∧ Blk wx o3 27 (aArr q2) ∧ Blk wx p3 41 (pArr q2) ∧ Blk wx b3 4 (zArr q2) ∧ Blk wx s3 3 (nArr q2) ∧ Tab wx ∧ Lo fb w wx ∧ Crew wx s3 n (wordI sa) tn q2 ∧ (q2 k).bz = true)
        case first =>
          cases bz with
          | true =>
            go_wp2_with fail
            go_meet
            exact ⟨q, K0.out, O0.out, Q0.out, V0.out, N0.out, T0.out, L0.out, Z0.out, HBZ.out⟩
          | false =>
            have hm : pl.May n := HGD.out.resolve_left (by simp)
            have hbg := fun W hz => begin_in 0 n pl W hz hm
            unfold Pl.val at hbg
            have HBG := Lib.hid hbg
            have HIV := Lib.hid (Pl.inv hm)
            clear hbg hm
            have pc0 := (L0.out.low.cell (p := ⟨ba, oa + i * 5, none⟩) HBA.out).trans HCA.out.1
            have pc1 := (L0.out.low.cell (p := ⟨ba, oa + i * 5 + 1, none⟩) HBA.out).trans HCA.out.2.1
            have pc2 := (L0.out.low.cell (p := ⟨ba, oa + i * 5 + 2, none⟩) HBA.out).trans HCA.out.2.2.1
            have pc3 := (L0.out.low.cell (p := ⟨ba, oa + i * 5 + 3, none⟩) HBA.out).trans HCA.out.2.2.2.1
            have pc4 := (L0.out.low.cell (p := ⟨ba, oa + i * 5 + 4, none⟩) HBA.out).trans HCA.out.2.2.2.2
            go_wp2_with fail
            clear pc0 pc1 pc2 pc3 pc4
            refine (HBG.out wr (by have := N0.out.lt; exact Nat.lt_of_le_of_lt (Nat.zero_le _) this)).mono ?_; rintro e w2 ⟨o, b, rfl, ha, q1, q2, q3, q4, hb⟩
            have ZN := Lib.hid (Z0.out.new HK3.out hb N0.out.lt HLI.out ha HIV.out (fun hr => kd_n n hr) HT.out.1 q1 q2 q4)
            clear ha q1 q2 q3 q4 HBG
            have ee : Ex (fun _ => False) wr w2 := Ex.of_below hb
            have K_201 := Lib.hid (K0.out.ex ee (fun h => h) (fun h => h))
            have O_201 := Lib.hid (O0.out.ex ee (fun h => h))
            have Q_201 := Lib.hid (Q0.out.ex ee (fun h => h))
            have V_201 := Lib.hid (V0.out.ex ee (fun h => h))
            have N_201 := Lib.hid (N0.out.ex ee (fun h => h))
            have T_201 := Lib.hid (T0.out.ex ee (fun h => h))
            have L_201 := Lib.hid (L0.out.ex ee (fun b_ h_ => h_.elim))
            clear ee K0 O0 Q0 V0 N0 T0 L0 hb Z0
            have rq := (O_201.out.cell k).trans (qArr_cell q HK3.out).1
            have rf := O_201.out.frozen k
            go_upto_region 22 with fail
            have bb := O_201.out.set_ k (.pointer (some ⟨o, 0, none⟩))
            rw [show (aArr q).setIfInBounds k (.pointer (some ⟨o, 0, none⟩)) = aArr (updR q k ⟨some ⟨o, 0, none⟩, o, b, AX.zero (pl.n n), pl, true, tn⟩) from (qArr_set q HK3.out ⟨some ⟨o, 0, none⟩, o, b, AX.zero (pl.n n), pl, true, tn⟩).1] at bb
            have BB := Lib.hid bb
            clear bb rq rf
            have ee : Ex (fun k => k = o3) w2 (w2.setCell ⟨o3, k, none⟩ (.pointer (some ⟨o, 0, none⟩))) := (Ex.refl (fun q => q = o3) w2).setCell (q := ⟨o3, k, none⟩) (.inl rfl) (.pointer (some ⟨o, 0, none⟩))
            have K_202 := Lib.hid (K_201.out.ex ee (by have o_ := ORD11.out; omega) (by have o_ := ORD11.out; omega))
            have Q_202 := Lib.hid (Q_201.out.ex ee (by have o_ := ORD11.out; omega))
            have V_202 := Lib.hid (V_201.out.ex ee (by have o_ := ORD11.out; omega))
            have N_202 := Lib.hid (N_201.out.ex ee (by have o_ := ORD11.out; omega))
            have T_202 := Lib.hid (T_201.out.ex ee (by have o_ := ORD11.out; omega))
            have L_202 := Lib.hid (L_201.out.ex ee (fun b_ h_ => by have o_ := ORD11.out; have h_ : b_ = o3 := h_; first | omega | (show _ ∨ _; omega)))
            have Z_202 := Lib.hid (ZN.out.ex ee (fun b_ h_ => by have o_ := ORD11.out; have h_ : b_ = o3 := h_; first | omega | (show _ ∨ _; omega)))
            have O_202 := Lib.hid (BB.out)
            clear ee K_201 O_201 Q_201 V_201 N_201 T_201 L_201 ZN BB
            generalize (w2.setCell ⟨o3, k, none⟩ (.pointer (some ⟨o, 0, none⟩))) = w3 at *
            have pc0 := (L_202.out.low.cell (p := ⟨ba, oa + i * 5, none⟩) HBA.out).trans HCA.out.1
            have pc1 := (L_202.out.low.cell (p := ⟨ba, oa + i * 5 + 1, none⟩) HBA.out).trans HCA.out.2.1
            have pc2 := (L_202.out.low.cell (p := ⟨ba, oa + i * 5 + 2, none⟩) HBA.out).trans HCA.out.2.2.1
            have pc3 := (L_202.out.low.cell (p := ⟨ba, oa + i * 5 + 3, none⟩) HBA.out).trans HCA.out.2.2.2.1
            have pc4 := (L_202.out.low.cell (p := ⟨ba, oa + i * 5 + 4, none⟩) HBA.out).trans HCA.out.2.2.2.2
            have qq0 := (Q_202.out.cell (k * 5)).trans (pArr_cell q HK3.out).1
            have qf0 := Q_202.out.frozen (k * 5)
            have qq1 := (Q_202.out.cell (k * 5 + 1)).trans (pArr_cell q HK3.out).2.1
            have qf1 := Q_202.out.frozen (k * 5 + 1)
            have qq2 := (Q_202.out.cell (k * 5 + 2)).trans (pArr_cell q HK3.out).2.2.1
            have qf2 := Q_202.out.frozen (k * 5 + 2)
            have qq3 := (Q_202.out.cell (k * 5 + 3)).trans (pArr_cell q HK3.out).2.2.2.1
            have qf3 := Q_202.out.frozen (k * 5 + 3)
            have qq4 := (Q_202.out.cell (k * 5 + 4)).trans (pArr_cell q HK3.out).2.2.2.2
            have qf4 := Q_202.out.frozen (k * 5 + 4)
            go_upto_region 23 with fail
            clear pc0 pc1 pc2 pc3 pc4 qq0 qf0 qq1 qf1 qq2 qf2 qq3 qf3 qq4 qf4
            have bb := (((((Q_202.out.set_ (k * 5) (.int .i64 pl.kind)).set_ (k * 5 + 1) (.int .i64 pl.source)).set_ (k * 5 + 2) (.int .i64 pl.mode)).set_ (k * 5 + 3) (.bool pl.free)).set_ (k * 5 + 4) (.int .i64 pl.flags))
            rw [(qArr_set q HK3.out ⟨some ⟨o, 0, none⟩, o, b, AX.zero (pl.n n), pl, true, tn⟩).2.2.2] at bb
            have BB := Lib.hid bb
            clear bb
            have ee : Ex (fun k => k = p3) w3 (((((w3.setCell ⟨p3, k * 5, none⟩ (.int .i64 pl.kind)).setCell ⟨p3, k * 5 + 1, none⟩ (.int .i64 pl.source)).setCell ⟨p3, k * 5 + 2, none⟩ (.int .i64 pl.mode)).setCell ⟨p3, k * 5 + 3, none⟩ (.bool pl.free)).setCell ⟨p3, k * 5 + 4, none⟩ (.int .i64 pl.flags)) := ((((((Ex.refl (fun q => q = p3) w3).setCell (q := ⟨p3, k * 5, none⟩) (.inl rfl) (.int .i64 pl.kind)).setCell (q := ⟨p3, k * 5 + 1, none⟩) (.inl rfl) (.int .i64 pl.source)).setCell (q := ⟨p3, k * 5 + 2, none⟩) (.inl rfl) (.int .i64 pl.mode)).setCell (q := ⟨p3, k * 5 + 3, none⟩) (.inl rfl) (.bool pl.free)).setCell (q := ⟨p3, k * 5 + 4, none⟩) (.inl rfl) (.int .i64 pl.flags))
            have K_203 := Lib.hid (K_202.out.ex ee (by have o_ := ORD11.out; omega) (by have o_ := ORD11.out; omega))
            have O_203 := Lib.hid (O_202.out.ex ee (by have o_ := ORD11.out; omega))
            have V_203 := Lib.hid (V_202.out.ex ee (by have o_ := ORD11.out; omega))
            have N_203 := Lib.hid (N_202.out.ex ee (by have o_ := ORD11.out; omega))
            have T_203 := Lib.hid (T_202.out.ex ee (by have o_ := ORD11.out; omega))
            have L_203 := Lib.hid (L_202.out.ex ee (fun b_ h_ => by have o_ := ORD11.out; have h_ : b_ = p3 := h_; first | omega | (show _ ∨ _; omega)))
            have Z_203 := Lib.hid (Z_202.out.ex ee (fun b_ h_ => by have o_ := ORD11.out; have h_ : b_ = p3 := h_; first | omega | (show _ ∨ _; omega)))
            have Q_203 := Lib.hid (BB.out)
            clear ee K_202 O_202 Q_202 V_202 N_202 T_202 L_202 Z_202 BB
            generalize (((((w3.setCell ⟨p3, k * 5, none⟩ (.int .i64 pl.kind)).setCell ⟨p3, k * 5 + 1, none⟩ (.int .i64 pl.source)).setCell ⟨p3, k * 5 + 2, none⟩ (.int .i64 pl.mode)).setCell ⟨p3, k * 5 + 3, none⟩ (.bool pl.free)).setCell ⟨p3, k * 5 + 4, none⟩ (.int .i64 pl.flags)) = w4 at *
            have rq := (V_203.out.cell k).trans (qArr_cell q HK3.out).2.1
            have rf := V_203.out.frozen k
            go_upto_region 24 with fail
            have bb := V_203.out.set_ k (.bool true)
            rw [show (zArr q).setIfInBounds k (.bool true) = zArr (updR q k ⟨some ⟨o, 0, none⟩, o, b, AX.zero (pl.n n), pl, true, tn⟩) from (qArr_set q HK3.out ⟨some ⟨o, 0, none⟩, o, b, AX.zero (pl.n n), pl, true, tn⟩).2.1] at bb
            have BB := Lib.hid bb
            clear bb rq rf
            have ee : Ex (fun k => k = b3) w4 (w4.setCell ⟨b3, k, none⟩ (.bool true)) := (Ex.refl (fun q => q = b3) w4).setCell (q := ⟨b3, k, none⟩) (.inl rfl) (.bool true)
            have K_204 := Lib.hid (K_203.out.ex ee (by have o_ := ORD11.out; omega) (by have o_ := ORD11.out; omega))
            have O_204 := Lib.hid (O_203.out.ex ee (by have o_ := ORD11.out; omega))
            have Q_204 := Lib.hid (Q_203.out.ex ee (by have o_ := ORD11.out; omega))
            have N_204 := Lib.hid (N_203.out.ex ee (by have o_ := ORD11.out; omega))
            have T_204 := Lib.hid (T_203.out.ex ee (by have o_ := ORD11.out; omega))
            have L_204 := Lib.hid (L_203.out.ex ee (fun b_ h_ => by have o_ := ORD11.out; have h_ : b_ = b3 := h_; first | omega | (show _ ∨ _; omega)))
            have Z_204 := Lib.hid (Z_203.out.ex ee (fun b_ h_ => by have o_ := ORD11.out; have h_ : b_ = b3 := h_; first | omega | (show _ ∨ _; omega)))
            have V_204 := Lib.hid (BB.out)
            clear ee K_203 O_203 Q_203 V_203 N_203 T_203 L_203 Z_203 BB
            generalize (w4.setCell ⟨b3, k, none⟩ (.bool true)) = w5 at *
            have rq := (N_204.out.cell k).trans (qArr_cell q HK3.out).2.2
            have rf := N_204.out.frozen k
            go_wp2_with fail
            have bb := N_204.out.set_ k (.int .i64 tn)
            rw [show (nArr q).setIfInBounds k (.int .i64 tn) = nArr (updR q k ⟨some ⟨o, 0, none⟩, o, b, AX.zero (pl.n n), pl, true, tn⟩) from (qArr_set q HK3.out ⟨some ⟨o, 0, none⟩, o, b, AX.zero (pl.n n), pl, true, tn⟩).2.2.1] at bb
            have BB := Lib.hid bb
            clear bb rq rf
            have ee : Ex (fun k => k = s3) w5 (w5.setCell ⟨s3, k, none⟩ (.int .i64 tn)) := (Ex.refl (fun q => q = s3) w5).setCell (q := ⟨s3, k, none⟩) (.inl rfl) (.int .i64 tn)
            have K_205 := Lib.hid (K_204.out.ex ee (by have o_ := ORD11.out; omega) (by have o_ := ORD11.out; omega))
            have O_205 := Lib.hid (O_204.out.ex ee (by have o_ := ORD11.out; omega))
            have Q_205 := Lib.hid (Q_204.out.ex ee (by have o_ := ORD11.out; omega))
            have V_205 := Lib.hid (V_204.out.ex ee (by have o_ := ORD11.out; omega))
            have T_205 := Lib.hid (T_204.out.ex ee (by have o_ := ORD11.out; omega))
            have L_205 := Lib.hid (L_204.out.ex ee (fun b_ h_ => by have o_ := ORD11.out; have h_ : b_ = s3 := h_; first | omega | (show _ ∨ _; omega)))
            have Z_205 := Lib.hid (Z_204.out.ex ee (fun b_ h_ => by have o_ := ORD11.out; have h_ : b_ = s3 := h_; first | omega | (show _ ∨ _; omega)))
            have N_205 := Lib.hid (BB.out)
            clear ee K_204 O_204 Q_204 V_204 N_204 T_204 L_204 Z_204 BB
            generalize (w5.setCell ⟨s3, k, none⟩ (.int .i64 tn)) = w6 at *
            go_meet
            exact ⟨updR q k ⟨some ⟨o, 0, none⟩, o, b, AX.zero (pl.n n), pl, true, tn⟩, K_205.out, O_205.out, Q_205.out, V_205.out, N_205.out, T_205.out, L_205.out, Z_205.out, by rw [updR_self]⟩
        case rest =>
          clear K0 O0 Q0 V0 N0 T0 L0 Z0 HBZ HGD HCA HBA HLI HIW
          obtain ⟨q2, hk, ho, hq, hv, hn, ht, hl, hz, hbz⟩ := hcut
          obtain ⟨w1, rfl⟩ : ∃ W : World, W = wc := ⟨_, rfl⟩
          have K1 := Lib.hid hk
          have O1 := Lib.hid ho
          have Q1 := Lib.hid hq
          have V1 := Lib.hid hv
          have N1 := Lib.hid hn
          have T1 := Lib.hid ht
          have L1 := Lib.hid hl
          have Z1 := Lib.hid hz
          have HBZ := Lib.hid hbz
          obtain ⟨av, o, b, x, pp, zz, sn, hqk⟩ : ∃ av o b x pp zz sn, q2 k = ⟨av, o, b, x, pp, zz, sn⟩ := ⟨_, _, _, _, _, _, _, rfl⟩
          have htk := hz.task k HK3.out hbz
          have hsn := hz.seen k HK3.out
          rw [hqk] at htk hsn
          obtain rfl : av = some ⟨o, 0, none⟩ := htk.addr
          have HTK := Lib.hid htk
          have HSN := Lib.hid (show 0 ≤ sn ∧ sn ≤ tn from hsn)
          have HQ := Lib.hid hqk
          have HOKP := Lib.hid (show pp.Ok from htk.ok)
          have HNN := Lib.hid (show 1 ≤ n ∧ n ≤ 16 from ⟨H5.out.2.1, H5.out.2.2.1⟩)
          have J1 := Lib.hid (LtSz.mk htk.low.2.2)
          have A1 := Lib.hid (show ArbAt w1 o b pp.kd 0 x from htk.at_)
          have HIV := Lib.hid (show AInv pp.kd (pp.n n) x from htk.inv)
          have hzl := htk.low
          simp only at hzl
          have ORK := Lib.hid (show (0 < fb ∧ fb + 1 = yb ∧ yb < rr ∧ rr + 1 = g ∧ g < o3 ∧ o3 < p3 ∧ p3 < b3 ∧ b3 < s3) ∧ s3 < o ∧ (s3 < b ∨ b = 0) ∧ b ≠ o from ⟨ORD11.out, hzl.1, hzl.2.1, htk.at_.ne⟩)
          have HRG := Lib.hid (wordI_range (mayE_zero.1 HSA.out.2).1 HSA.out.1)
          have hun := fun W => Unpack_any (wordI sa) HRG.out W
          simp only [(un_word HSA.out.1 HSA.out.2).1, (un_word HSA.out.1 HSA.out.2).2] at hun
          unfold St.val at hun
          have HUN := Lib.hid hun
          have ham := fun W => AMost_any n W
          simp only [show amostF n = 2 * n from if_pos HNN.out] at ham
          have HAM := Lib.hid ham
          clear hk ho hq hv hn ht hl hz hbz hqk htk hsn hzl hun ham
          go_wp2_with fail
          refine (Peek_any g rr [wordI sa] tt 0 w1 K1.out).mono ?_; rintro e w2 ⟨rfl, hb⟩
          rw [show wordF [wordI sa] 0 = wordI sa from word1 _]
          have ee : Ex (fun _ => False) w1 w2 := Ex.of_below hb
          have K_401 := Lib.hid (K1.out.ex ee (fun h => h) (fun h => h))
          have O_401 := Lib.hid (O1.out.ex ee (fun h => h))
          have Q_401 := Lib.hid (Q1.out.ex ee (fun h => h))
          have V_401 := Lib.hid (V1.out.ex ee (fun h => h))
          have N_401 := Lib.hid (N1.out.ex ee (fun h => h))
          have T_401 := Lib.hid (T1.out.ex ee (fun h => h))
          have L_401 := Lib.hid (L1.out.ex ee (fun b_ h_ => h_.elim))
          have Z_401 := Lib.hid (Z1.out.ex ee (fun b_ h_ => h_.elim))
          have A_401 := Lib.hid (A1.out.ex ee (fun h => h) (fun h => h))
          have J_401 := Lib.hid (J1.out.ex ee )
          clear ee K1 O1 Q1 V1 N1 T1 L1 Z1 A1 J1 hb
          go_wp2_with fail
          refine (HUN.out w2).mono ?_; rintro e w3 ⟨rfl, hb⟩
          have ee : Ex (fun _ => False) w2 w3 := Ex.of_below hb
          have K_402 := Lib.hid (K_401.out.ex ee (fun h => h) (fun h => h))
          have O_402 := Lib.hid (O_401.out.ex ee (fun h => h))
          have Q_402 := Lib.hid (Q_401.out.ex ee (fun h => h))
          have V_402 := Lib.hid (V_401.out.ex ee (fun h => h))
          have N_402 := Lib.hid (N_401.out.ex ee (fun h => h))
          have T_402 := Lib.hid (T_401.out.ex ee (fun h => h))
          have L_402 := Lib.hid (L_401.out.ex ee (fun b_ h_ => h_.elim))
          have Z_402 := Lib.hid (Z_401.out.ex ee (fun b_ h_ => h_.elim))
          have A_402 := Lib.hid (A_401.out.ex ee (fun h => h) (fun h => h))
          have J_402 := Lib.hid (J_401.out.ex ee )
          clear ee K_401 O_401 Q_401 V_401 N_401 T_401 L_401 Z_401 A_401 J_401 hb
          go_upto_region 26 with fail
          have hq := Blk.new w3 34 #[.int .i64 sa.mode, .int .i64 sa.source, .bool sa.hold, .int .i64 sa.flags, .int .u64 sa.epoch]
          obtain ⟨c1, hnm⟩ : ∃ c1, w3.heap.size = c1 := ⟨_, rfl⟩
          have hlt : o < c1 ∧ s3 < c1 ∧ b < c1 := by have hl0 := hnm ▸ (show o < w3.heap.size ∧ s3 < w3.heap.size ∧ b < w3.heap.size from ⟨A_402.out.head.lt, N_402.out.lt, J_402.out.lt⟩); omega
          simp only [hnm] at hq ⊢
          have ORD403 := Lib.hid (show (0 < fb ∧ fb + 1 = yb ∧ yb < rr ∧ rr + 1 = g ∧ g < o3 ∧ o3 < p3 ∧ p3 < b3 ∧ b3 < s3) ∧ s3 < o ∧ (s3 < b ∨ b = 0) ∧ b ≠ o ∧ o < c1 ∧ s3 < c1 ∧ b < c1 from by have o_ := ORK.out; omega)
          have ee : Ex (fun _ => False) w3 (w3.alloc (.cells #[.int .i64 sa.mode, .int .i64 sa.source, .bool sa.hold, .int .i64 sa.flags, .int .u64 sa.epoch] 34)) := (Ex.refl (fun _ => False) w3).alloc (.cells #[.int .i64 sa.mode, .int .i64 sa.source, .bool sa.hold, .int .i64 sa.flags, .int .u64 sa.epoch] 34)
          have K_404 := Lib.hid (K_402.out.ex ee (fun h => h) (fun h => h))
          have O_404 := Lib.hid (O_402.out.ex ee (fun h => h))
          have Q_404 := Lib.hid (Q_402.out.ex ee (fun h => h))
          have V_404 := Lib.hid (V_402.out.ex ee (fun h => h))
          have N_404 := Lib.hid (N_402.out.ex ee (fun h => h))
          have T_404 := Lib.hid (T_402.out.ex ee (fun h => h))
          have L_404 := Lib.hid (L_402.out.ex ee (fun b_ h_ => h_.elim))
          have Z_404 := Lib.hid (Z_402.out.ex ee (fun b_ h_ => h_.elim))
          have A_404 := Lib.hid (A_402.out.ex ee (fun h => h) (fun h => h))
          have J_404 := Lib.hid (J_402.out.ex ee )
          have C_404 := Lib.hid (hq)
          clear ee K_402 O_402 Q_402 V_402 N_402 T_402 L_402 Z_402 A_402 J_402 hq hnm hlt
          generalize w3.alloc (.cells #[.int .i64 sa.mode, .int .i64 sa.source, .bool sa.hold, .int .i64 sa.flags, .int .u64 sa.epoch] 34) = w4 at *
          have oq := (O_404.out.cell k).trans (qArr_cell q2 HK3.out).1
          rw [HQ.out] at oq
          simp only at oq
          go_wp2_with fail
          clear oq
          refine (Step_any g rr o b [wordI sa] tt pp.kd (Pl.kd_ok HOKP.out) (pp.n n) 0 x HIV.out w4 A_404.out K_404.out T_404.out (by have o_ := ORD403.out; omega)).mono ?_; rintro e w5 ⟨rfl, hb, ha, hx⟩
          obtain ⟨x2, u2, e1, e2, hi2, hs2, hway⟩ := Task.way HSA.out.1 HSA.out.2 HNN.out HTK.out
          simp only at e1 e2 hi2 hway
          obtain ⟨tt2, htt⟩ : ∃ tt2, aT 0 [wordI sa] x tt = tt2 := ⟨_, rfl⟩
          rw [e1] at ha ⊢
          rw [e2, htt] at hb
          have E1 := Lib.hid hx
          have HI2 := Lib.hid hi2
          have HS2 := Lib.hid hs2
          clear e1 e2 htt hi2 hs2 HTK HIV
          have ee : Ex (fun k => k = g ∨ k = rr ∨ k = o) w4 w5 := hx
          have O_405 := Lib.hid (O_404.out.ex ee (by have o_ := ORD403.out; omega))
          have Q_405 := Lib.hid (Q_404.out.ex ee (by have o_ := ORD403.out; omega))
          have V_405 := Lib.hid (V_404.out.ex ee (by have o_ := ORD403.out; omega))
          have N_405 := Lib.hid (N_404.out.ex ee (by have o_ := ORD403.out; omega))
          have T_405 := Lib.hid (T_404.out.ex ee (by have o_ := ORD403.out; omega))
          have L_405 := Lib.hid (L_404.out.ex ee (fun b_ h_ => by have o_ := ORD403.out; have h_ : b_ = g ∨ b_ = rr ∨ b_ = o := h_; first | omega | (show _ ∨ _; omega)))
          have J_405 := Lib.hid (J_404.out.ex ee )
          have C_405 := Lib.hid (C_404.out.ex ee (by have o_ := ORD403.out; omega))
          have K_405 := Lib.hid (hb)
          have A_405 := Lib.hid (ha)
          clear ee K_404 O_404 Q_404 V_404 N_404 T_404 L_404 A_404 J_404 C_404 hb ha hx
          obtain ⟨sb, hu, hsb1, hsb2, hsb3, hbusy, hfin⟩ := hway.pack (Pl.kd_ok HOKP.out) HSA.out
          subst hu
          have HSB := Lib.hid (show sb.Ok ∧ mayE sb = 0 from ⟨hsb1, hsb2⟩)
          obtain ⟨tn2, htn⟩ : ∃ tn2 : Int, (sb = sa ∧ tn2 = tn) ∨ (sb ≠ sa ∧ tn2 = tn + 1) := by
            by_cases e : sb = sa
            · exact ⟨_, .inl ⟨e, rfl⟩⟩
            · exact ⟨_, .inr ⟨e, rfl⟩⟩
          obtain ⟨zd, hzd⟩ : ∃ zd : Bool, zd = decide (x2.how = 0) := ⟨_, rfl⟩
          have ZN := Lib.hid (Z_404.out.turn (u2 := wordI sb) (tn2 := tn2) (z := zd) HK3.out HBZ.out (by rw [HQ.out]; exact E1.out) (by have o_ := ORK.out; omega) (by have o_ := ORK.out; omega) (by rcases htn with ⟨rfl, rfl⟩ | ⟨_, rfl⟩; exact .inl ⟨rfl, rfl⟩; exact .inr rfl) (by rw [HQ.out]; exact A_405.out) (by rw [HQ.out]; exact HI2.out) (by
            intro h9
            rw [hzd] at h9
            have h0 := of_decide_eq_true h9
            obtain ⟨b1, b2⟩ := hbusy h0
            rcases htn with ⟨_, rfl⟩ | ⟨e, _⟩
            · rw [HQ.out]; exact ⟨h0, b2⟩
            · exact absurd b1 e))
          have SAME := Lib.hid (qArr_same q2 HK3.out x2 zd)
          have HZD := Lib.hid hzd
          have HTN := Lib.hid htn
          have HFIN := Lib.hid hfin
          have HFL := Lib.hid hsb3
          have HBU := Lib.hid (fun h => (hbusy h).1)
          clear hbusy hfin hsb1 hsb2 hsb3 hway htn hzd Z_404 E1
          have hun2 := fun W => Unpack_any (wordI sb) (wordI_range (mayE_zero.1 HSB.out.2).1 HSB.out.1) W
          simp only [(un_word HSB.out.1 HSB.out.2).1, (un_word HSB.out.1 HSB.out.2).2] at hun2
          unfold St.val at hun2
          have HU2 := Lib.hid hun2
          clear hun2
          go_wp2_with fail
          refine (Peek_any g rr [wordI sb] tt2 0 w5 K_405.out).mono ?_; rintro e w6 ⟨rfl, hb⟩
          rw [show wordF [wordI sb] 0 = wordI sb from word1 _]
          have ee : Ex (fun _ => False) w5 w6 := Ex.of_below hb
          have K_406 := Lib.hid (K_405.out.ex ee (fun h => h) (fun h => h))
          have O_406 := Lib.hid (O_405.out.ex ee (fun h => h))
          have Q_406 := Lib.hid (Q_405.out.ex ee (fun h => h))
          have V_406 := Lib.hid (V_405.out.ex ee (fun h => h))
          have N_406 := Lib.hid (N_405.out.ex ee (fun h => h))
          have T_406 := Lib.hid (T_405.out.ex ee (fun h => h))
          have L_406 := Lib.hid (L_405.out.ex ee (fun b_ h_ => h_.elim))
          have A_406 := Lib.hid (A_405.out.ex ee (fun h => h) (fun h => h))
          have J_406 := Lib.hid (J_405.out.ex ee )
          have C_406 := Lib.hid (C_405.out.ex ee (fun h => h))
          have Z_406 := Lib.hid (ZN.out.ex ee (fun b_ h_ => h_.elim))
          clear ee K_405 O_405 Q_405 V_405 N_405 T_405 L_405 A_405 J_405 C_405 ZN hb
          go_wp2_with fail
          refine (HU2.out w6).mono ?_; rintro e w7 ⟨rfl, hb⟩
          clear HU2
          have ee : Ex (fun _ => False) w6 w7 := Ex.of_below hb
          have K_407 := Lib.hid (K_406.out.ex ee (fun h => h) (fun h => h))
          have O_407 := Lib.hid (O_406.out.ex ee (fun h => h))
          have Q_407 := Lib.hid (Q_406.out.ex ee (fun h => h))
          have V_407 := Lib.hid (V_406.out.ex ee (fun h => h))
          have N_407 := Lib.hid (N_406.out.ex ee (fun h => h))
          have T_407 := Lib.hid (T_406.out.ex ee (fun h => h))
          have L_407 := Lib.hid (L_406.out.ex ee (fun b_ h_ => h_.elim))
          have A_407 := Lib.hid (A_406.out.ex ee (fun h => h) (fun h => h))
          have J_407 := Lib.hid (J_406.out.ex ee )
          have C_407 := Lib.hid (C_406.out.ex ee (fun h => h))
          have Z_407 := Lib.hid (Z_406.out.ex ee (fun b_ h_ => h_.elim))
          clear ee K_406 O_406 Q_406 V_406 N_406 T_406 L_406 A_406 J_406 C_406 Z_406 hb
          go_upto_region 28 with fail
          have hq := Blk.new w7 34 #[.int .i64 sb.mode, .int .i64 sb.source, .bool sb.hold, .int .i64 sb.flags, .int .u64 sb.epoch]
          obtain ⟨c2, hnm⟩ : ∃ c2, w7.heap.size = c2 := ⟨_, rfl⟩
          have hlt : o < c2 ∧ s3 < c2 ∧ b < c2 ∧ c1 < c2 := by have hl0 := hnm ▸ (show o < w7.heap.size ∧ s3 < w7.heap.size ∧ b < w7.heap.size ∧ c1 < w7.heap.size from ⟨A_407.out.head.lt, N_407.out.lt, J_407.out.lt, C_407.out.lt⟩); omega
          simp only [hnm] at hq ⊢
          have ORD408 := Lib.hid (show (0 < fb ∧ fb + 1 = yb ∧ yb < rr ∧ rr + 1 = g ∧ g < o3 ∧ o3 < p3 ∧ p3 < b3 ∧ b3 < s3) ∧ s3 < o ∧ (s3 < b ∨ b = 0) ∧ b ≠ o ∧ o < c1 ∧ s3 < c1 ∧ b < c1 ∧ o < c2 ∧ s3 < c2 ∧ b < c2 ∧ c1 < c2 from by have o_ := ORD403.out; omega)
          have ee : Ex (fun _ => False) w7 (w7.alloc (.cells #[.int .i64 sb.mode, .int .i64 sb.source, .bool sb.hold, .int .i64 sb.flags, .int .u64 sb.epoch] 34)) := (Ex.refl (fun _ => False) w7).alloc (.cells #[.int .i64 sb.mode, .int .i64 sb.source, .bool sb.hold, .int .i64 sb.flags, .int .u64 sb.epoch] 34)
          have K_409 := Lib.hid (K_407.out.ex ee (fun h => h) (fun h => h))
          have O_409 := Lib.hid (O_407.out.ex ee (fun h => h))
          have Q_409 := Lib.hid (Q_407.out.ex ee (fun h => h))
          have V_409 := Lib.hid (V_407.out.ex ee (fun h => h))
          have N_409 := Lib.hid (N_407.out.ex ee (fun h => h))
          have T_409 := Lib.hid (T_407.out.ex ee (fun h => h))
          have L_409 := Lib.hid (L_407.out.ex ee (fun b_ h_ => h_.elim))
          have A_409 := Lib.hid (A_407.out.ex ee (fun h => h) (fun h => h))
          have J_409 := Lib.hid (J_407.out.ex ee )
          have C_409 := Lib.hid (C_407.out.ex ee (fun h => h))
          have Z_409 := Lib.hid (Z_407.out.ex ee (fun b_ h_ => h_.elim))
          have D_409 := Lib.hid (hq)
          clear ee K_407 O_407 Q_407 V_407 N_407 T_407 L_407 A_407 J_407 C_407 Z_407 hq hnm hlt
          generalize w7.alloc (.cells #[.int .i64 sb.mode, .int .i64 sb.source, .bool sb.hold, .int .i64 sb.flags, .int .u64 sb.epoch] 34) = w8 at *
          have kst : decide (x2.steps > 2 * n) = false := decide_eq_false (by have := HS2.out; omega)
          have oq := (O_409.out.cell k).trans (qArr_cell q2 HK3.out).1
          rw [HQ.out] at oq
          simp only at oq
          go_wp2_with fail
          clear oq
          refine (Steps_any o b pp.kd 0 x2 w8 A_409.out).mono ?_; rintro e w_ ⟨rfl, rfl⟩
          go_wp2_with fail
          refine (HAM.out w8).mono ?_; rintro e w_ ⟨rfl, rfl⟩
          go_upto_region 30 with fail
          clear kst
          obtain ⟨nb, hnb⟩ : ∃ nb : Bool, nb = decide (sb ≠ sa) := ⟨_, rfl⟩
          have HNB := Lib.hid hnb
          clear hnb
          go_cut [162] from 160 to 162 (fun v wx => v = .bool nb ∧ wx = w8)
          case first =>
            have Cq0 := (C_409.out).cell 0
            have Cq1 := (C_409.out).cell 1
            have Cq2 := (C_409.out).cell 2
            have Cq3 := (C_409.out).cell 3
            have Cq4 := (C_409.out).cell 4
            simp only [List.getElem?_toArray, List.getElem?_cons_succ, List.getElem?_cons_zero] at Cq0 Cq1 Cq2 Cq3 Cq4
            have Dq0 := (D_409.out).cell 0
            have Dq1 := (D_409.out).cell 1
            have Dq2 := (D_409.out).cell 2
            have Dq3 := (D_409.out).cell 3
            have Dq4 := (D_409.out).cell 4
            simp only [List.getElem?_toArray, List.getElem?_cons_succ, List.getElem?_cons_zero] at Dq0 Dq1 Dq2 Dq3 Dq4
            rcases st_ways sb sa with h0 | h1 | ⟨h1, h2⟩ | ⟨h1, h2, h3⟩ | ⟨h1, h2, h3, h4⟩ | ⟨h1, h2, h3, h4, h5⟩
            · subst h0
              have eqa0 : (sb.mode == sb.mode) = true := by simp
              have eqa1 : (sb.source == sb.source) = true := by simp
              have eqa2 : (sb.hold == sb.hold) = true := by simp
              have eqa3 : (sb.flags == sb.flags) = true := by simp
              have eqa4 : (sb.epoch == sb.epoch) = true := by simp
              go_wp2_with fail
              go_meet
              exact ⟨by rw [HNB.out]; simp, rfl⟩
            · have hne : sb ≠ sa := fun e => by rw [e] at h1; simp at h1
              have HNE := Lib.hid hne
              clear hne
              go_wp2_with fail
              go_meet
              exact ⟨by rw [HNB.out]; simp [HNE.out], rfl⟩
            · have hne : sb ≠ sa := fun e => by rw [e] at h2; simp at h2
              have HNE := Lib.hid hne
              clear hne
              go_wp2_with fail
              go_meet
              exact ⟨by rw [HNB.out]; simp [HNE.out], rfl⟩
            · have hne : sb ≠ sa := fun e => by rw [e] at h3; simp at h3
              have HNE := Lib.hid hne
              clear hne
              go_wp2_with fail
              go_meet
              exact ⟨by rw [HNB.out]; simp [HNE.out], rfl⟩
            · have hne : sb ≠ sa := fun e => by rw [e] at h4; simp at h4
              have HNE := Lib.hid hne
              clear hne
              go_wp2_with fail
              go_meet
              exact ⟨by rw [HNB.out]; simp [HNE.out], rfl⟩
            · have hne : sb ≠ sa := fun e => by rw [e] at h5; simp at h5
              have HNE := Lib.hid hne
              clear hne
              go_wp2_with fail
              go_meet
              exact ⟨by rw [HNB.out]; simp [HNE.out], rfl⟩
          case rest =>
            obtain ⟨rfl, rfl⟩ := hcut
            obtain ⟨w8b, rfl⟩ : ∃ W : World, W = wc := ⟨_, rfl⟩
            go_upto_if 162 with fail
            go_cut [17] from 162 to 172 (fun s17 wx => s17 = .int .i64 tn2 ∧ Ex (fun _ => False) w8b wx)
            case first =>
              cases nb with
              | false =>
                have hse : sb = sa := by have := HNB.out; simpa using this.symm
                have ht2 : tn2 = tn := by rcases HTN.out with ⟨_, h⟩ | ⟨h, _⟩; exact h; exact absurd hse h
                have HT2 := Lib.hid ht2
                clear hse ht2
                go_wp2_with fail
                go_meet
                exact ⟨by rw [HT2.out], Ex.refl _ _⟩
              | true =>
                have hse : sb ≠ sa := by have := HNB.out; simpa using this.symm
                have ht2 : tn2 = tn + 1 := by rcases HTN.out with ⟨h, _⟩ | ⟨_, h⟩; exact absurd h hse; exact h
                obtain ⟨hfo, hh1⟩ := HFL.out.resolve_left hse
                have HT2 := Lib.hid ht2
                have khw : (x2.how != 1) = false := by rw [hh1]; rfl
                have hfw := fun W hT => follows_yes sa sb HSA.out.1 HSB.out.1 hfo W hT
                unfold St.val at hfw
                have HFO := Lib.hid hfw
                clear hfw hfo hh1 hse ht2
                have w9_ : wrap64 (tn + 1) = tn + 1 := by unfold wrap64; have := HT5.out; omega
                have Cq0 := (C_409.out).cell 0
                have Cq1 := (C_409.out).cell 1
                have Cq2 := (C_409.out).cell 2
                have Cq3 := (C_409.out).cell 3
                have Cq4 := (C_409.out).cell 4
                simp only [List.getElem?_toArray, List.getElem?_cons_succ, List.getElem?_cons_zero] at Cq0 Cq1 Cq2 Cq3 Cq4
                have Dq0 := (D_409.out).cell 0
                have Dq1 := (D_409.out).cell 1
                have Dq2 := (D_409.out).cell 2
                have Dq3 := (D_409.out).cell 3
                have Dq4 := (D_409.out).cell 4
                simp only [List.getElem?_toArray, List.getElem?_cons_succ, List.getElem?_cons_zero] at Dq0 Dq1 Dq2 Dq3 Dq4
                go_wp2_with fail
                clear Cq0 Cq1 Cq2 Cq3 Cq4 Dq0 Dq1 Dq2 Dq3 Dq4
                refine (HFO.out w8b T_409.out).mono ?_; rintro e wv ⟨rfl, hb⟩
                have HB := Lib.hid hb
                clear hb
                go_wp2_with fail
                go_meet
                exact ⟨by rw [HT2.out], Ex.of_below HB.out⟩
            case rest =>
              obtain ⟨rfl, hex⟩ := hcut
              obtain ⟨w9, rfl⟩ : ∃ W : World, W = wc := ⟨_, rfl⟩
              have ee : Ex (fun _ => False) w8b w9 := hex
              have K_410 := Lib.hid (K_409.out.ex ee (fun h => h) (fun h => h))
              have O_410 := Lib.hid (O_409.out.ex ee (fun h => h))
              have Q_410 := Lib.hid (Q_409.out.ex ee (fun h => h))
              have V_410 := Lib.hid (V_409.out.ex ee (fun h => h))
              have N_410 := Lib.hid (N_409.out.ex ee (fun h => h))
              have T_410 := Lib.hid (T_409.out.ex ee (fun h => h))
              have L_410 := Lib.hid (L_409.out.ex ee (fun b_ h_ => h_.elim))
              have A_410 := Lib.hid (A_409.out.ex ee (fun h => h) (fun h => h))
              have J_410 := Lib.hid (J_409.out.ex ee )
              have C_410 := Lib.hid (C_409.out.ex ee (fun h => h))
              have Z_410 := Lib.hid (Z_409.out.ex ee (fun b_ h_ => h_.elim))
              have D_410 := Lib.hid (D_409.out.ex ee (fun h => h))
              clear ee K_409 O_409 Q_409 V_409 N_409 T_409 L_409 A_409 J_409 C_409 Z_409 D_409 hex HFL
              by_cases hh0 : x2.how = 0
              · skip
                have k34 : (x2.how == 0) = true := by simpa using hh0
                have HZS := Lib.hid (show zArr (updR q2 k ⟨(q2 k).a, (q2 k).o, (q2 k).b, x2, (q2 k).p, zd, (q2 k).sn⟩) = zArr q2 from by have := zArr_same q2 HK3.out x2; rw [HBZ.out] at this; rw [HZD.out, decide_eq_true hh0]; exact this)
                clear hh0
                go_upto_region 16 with fail
                clear k34
                go_wp2_with fail
                exact ⟨⟨i + 1, updR q2 k ⟨(q2 k).a, (q2 k).o, (q2 k).b, x2, (q2 k).p, zd, (q2 k).sn⟩, sb, tn2, tt2, by have := HI.out; omega, rfl, by go_num, by have := HT.out; have := HTN.out; omega, by have := HT.out; have := HTN.out; omega, HSB.out.1, HSB.out.2, K_410.out, (by rw [SAME.out.1]; exact O_410.out), (by rw [SAME.out.2.2]; exact Q_410.out), (by rw [HZS.out]; exact V_410.out), (by rw [SAME.out.2.1]; exact N_410.out), T_410.out, L_410.out, Z_410.out⟩, by have := HI.out; simp [intOf]; omega⟩
              have k34 : (x2.how == 0) = false := by simpa using hh0
              have hzf : zd = false := by rw [HZD.out]; exact decide_eq_false hh0
              have HF := Lib.hid (HFIN.out hh0)
              clear hh0
              have rq := (V_410.out.cell k).trans (qArr_cell q2 HK3.out).2.1
              have rf := V_410.out.frozen k
              go_upto_region 36 with fail
              clear k34
              have bb := V_410.out.set_ k (.bool false)
              rw [show (zArr q2).setIfInBounds k (.bool false) = zArr (updR q2 k ⟨(q2 k).a, (q2 k).o, (q2 k).b, x2, (q2 k).p, zd, (q2 k).sn⟩) from by rw [hzf]; exact (qArr_set q2 HK3.out ⟨(q2 k).a, (q2 k).o, (q2 k).b, x2, (q2 k).p, false, (q2 k).sn⟩).2.1] at bb
              have BB := Lib.hid bb
              clear bb rq rf hzf
              have ee : Ex (fun k => k = b3) w9 (w9.setCell ⟨b3, k, none⟩ (.bool false)) := (Ex.refl (fun q => q = b3) w9).setCell (q := ⟨b3, k, none⟩) (.inl rfl) (.bool false)
              have K_411 := Lib.hid (K_410.out.ex ee (by have o_ := ORD408.out; omega) (by have o_ := ORD408.out; omega))
              have O_411 := Lib.hid (O_410.out.ex ee (by have o_ := ORD408.out; omega))
              have Q_411 := Lib.hid (Q_410.out.ex ee (by have o_ := ORD408.out; omega))
              have N_411 := Lib.hid (N_410.out.ex ee (by have o_ := ORD408.out; omega))
              have T_411 := Lib.hid (T_410.out.ex ee (by have o_ := ORD408.out; omega))
              have L_411 := Lib.hid (L_410.out.ex ee (fun b_ h_ => by have o_ := ORD408.out; have h_ : b_ = b3 := h_; first | omega | (show _ ∨ _; omega)))
              have A_411 := Lib.hid (A_410.out.ex ee (by have o_ := ORD408.out; omega) (by have o_ := ORD408.out; omega))
              have J_411 := Lib.hid (J_410.out.ex ee )
              have C_411 := Lib.hid (C_410.out.ex ee (by have o_ := ORD408.out; omega))
              have Z_411 := Lib.hid (Z_410.out.ex ee (fun b_ h_ => by have o_ := ORD408.out; have h_ : b_ = b3 := h_; first | omega | (show _ ∨ _; omega)))
              have D_411 := Lib.hid (D_410.out.ex ee (by have o_ := ORD408.out; omega))
              have V_411 := Lib.hid (BB.out)
              clear ee K_410 O_410 Q_410 V_410 N_410 T_410 L_410 A_410 J_410 C_410 Z_410 D_410 BB
              generalize (w9.setCell ⟨b3, k, none⟩ (.bool false)) = w10 at *
              have oq := (O_411.out.cell k).trans (qArr_cell q2 HK3.out).1
              rw [HQ.out] at oq
              simp only at oq
              go_wp2_with fail
              clear oq
              have HG := Got_any o b pp.kd 0 x2 w10 A_411.out
              unfold St.val at HG
              have HGG := Lib.hid HG
              clear HG
              refine (HGG.out).mono ?_; rintro e w11 ⟨rfl, hb⟩
              clear HGG
              have ee : Ex (fun _ => False) w10 w11 := Ex.of_below hb
              have K_412 := Lib.hid (K_411.out.ex ee (fun h => h) (fun h => h))
              have O_412 := Lib.hid (O_411.out.ex ee (fun h => h))
              have Q_412 := Lib.hid (Q_411.out.ex ee (fun h => h))
              have V_412 := Lib.hid (V_411.out.ex ee (fun h => h))
              have N_412 := Lib.hid (N_411.out.ex ee (fun h => h))
              have T_412 := Lib.hid (T_411.out.ex ee (fun h => h))
              have L_412 := Lib.hid (L_411.out.ex ee (fun b_ h_ => h_.elim))
              have A_412 := Lib.hid (A_411.out.ex ee (fun h => h) (fun h => h))
              have J_412 := Lib.hid (J_411.out.ex ee )
              have C_412 := Lib.hid (C_411.out.ex ee (fun h => h))
              have Z_412 := Lib.hid (Z_411.out.ex ee (fun b_ h_ => h_.elim))
              have D_412 := Lib.hid (D_411.out.ex ee (fun h => h))
              clear ee K_411 O_411 Q_411 V_411 N_411 T_411 L_411 A_411 J_411 C_411 Z_411 D_411 hb
              go_upto_region 37 with fail
              have hq := Blk.new w11 34 #[.int .i64 x2.st.mode, .int .i64 x2.st.source, .bool x2.st.hold, .int .i64 x2.st.flags, .int .u64 x2.st.epoch]
              obtain ⟨c3, hnm⟩ : ∃ c3, w11.heap.size = c3 := ⟨_, rfl⟩
              have hlt : o < c3 ∧ s3 < c3 ∧ b < c3 := by have hl0 := hnm ▸ (show o < w11.heap.size ∧ s3 < w11.heap.size ∧ b < w11.heap.size from ⟨A_412.out.head.lt, N_412.out.lt, J_412.out.lt⟩); omega
              simp only [hnm] at hq ⊢
              have ORD413 := Lib.hid (show (0 < fb ∧ fb + 1 = yb ∧ yb < rr ∧ rr + 1 = g ∧ g < o3 ∧ o3 < p3 ∧ p3 < b3 ∧ b3 < s3) ∧ s3 < o ∧ (s3 < b ∨ b = 0) ∧ b ≠ o ∧ o < c1 ∧ s3 < c1 ∧ b < c1 ∧ o < c2 ∧ s3 < c2 ∧ b < c2 ∧ c1 < c2 ∧ o < c3 ∧ s3 < c3 ∧ b < c3 from by have o_ := ORD408.out; omega)
              have ee : Ex (fun _ => False) w11 (w11.alloc (.cells #[.int .i64 x2.st.mode, .int .i64 x2.st.source, .bool x2.st.hold, .int .i64 x2.st.flags, .int .u64 x2.st.epoch] 34)) := (Ex.refl (fun _ => False) w11).alloc (.cells #[.int .i64 x2.st.mode, .int .i64 x2.st.source, .bool x2.st.hold, .int .i64 x2.st.flags, .int .u64 x2.st.epoch] 34)
              have K_414 := Lib.hid (K_412.out.ex ee (fun h => h) (fun h => h))
              have O_414 := Lib.hid (O_412.out.ex ee (fun h => h))
              have Q_414 := Lib.hid (Q_412.out.ex ee (fun h => h))
              have V_414 := Lib.hid (V_412.out.ex ee (fun h => h))
              have N_414 := Lib.hid (N_412.out.ex ee (fun h => h))
              have T_414 := Lib.hid (T_412.out.ex ee (fun h => h))
              have L_414 := Lib.hid (L_412.out.ex ee (fun b_ h_ => h_.elim))
              have A_414 := Lib.hid (A_412.out.ex ee (fun h => h) (fun h => h))
              have J_414 := Lib.hid (J_412.out.ex ee )
              have C_414 := Lib.hid (C_412.out.ex ee (fun h => h))
              have Z_414 := Lib.hid (Z_412.out.ex ee (fun b_ h_ => h_.elim))
              have D_414 := Lib.hid (D_412.out.ex ee (fun h => h))
              have G_414 := Lib.hid (hq)
              clear ee K_412 O_412 Q_412 V_412 N_412 T_412 L_412 A_412 J_412 C_412 Z_412 D_412 hq hnm hlt
              generalize w11.alloc (.cells #[.int .i64 x2.st.mode, .int .i64 x2.st.source, .bool x2.st.hold, .int .i64 x2.st.flags, .int .u64 x2.st.epoch] 34) = w12 at *
              have qq0 := (Q_414.out.cell (k * 5)).trans (pArr_cell q2 HK3.out).1
              have qq1 := (Q_414.out.cell (k * 5 + 1)).trans (pArr_cell q2 HK3.out).2.1
              have qq2 := (Q_414.out.cell (k * 5 + 2)).trans (pArr_cell q2 HK3.out).2.2.1
              have qq3 := (Q_414.out.cell (k * 5 + 3)).trans (pArr_cell q2 HK3.out).2.2.2.1
              have qq4 := (Q_414.out.cell (k * 5 + 4)).trans (pArr_cell q2 HK3.out).2.2.2.2
              rw [HQ.out] at qq0 qq1 qq2 qq3 qq4
              simp only at qq0 qq1 qq2 qq3 qq4
              go_upto_region 38 with fail
              clear qq0 qq1 qq2 qq3 qq4
              have hq := Blk.new w12 41 #[.int .i64 pp.kind, .int .i64 pp.source, .int .i64 pp.mode, .bool pp.free, .int .i64 pp.flags]
              obtain ⟨c4, hnm⟩ : ∃ c4, w12.heap.size = c4 := ⟨_, rfl⟩
              have hlt : o < c4 ∧ s3 < c4 ∧ b < c4 := by have hl0 := hnm ▸ (show o < w12.heap.size ∧ s3 < w12.heap.size ∧ b < w12.heap.size from ⟨A_414.out.head.lt, N_414.out.lt, J_414.out.lt⟩); omega
              simp only [hnm] at hq ⊢
              have ORD415 := Lib.hid (show (0 < fb ∧ fb + 1 = yb ∧ yb < rr ∧ rr + 1 = g ∧ g < o3 ∧ o3 < p3 ∧ p3 < b3 ∧ b3 < s3) ∧ s3 < o ∧ (s3 < b ∨ b = 0) ∧ b ≠ o ∧ o < c1 ∧ s3 < c1 ∧ b < c1 ∧ o < c2 ∧ s3 < c2 ∧ b < c2 ∧ c1 < c2 ∧ o < c3 ∧ s3 < c3 ∧ b < c3 ∧ o < c4 ∧ s3 < c4 ∧ b < c4 from by have o_ := ORD413.out; omega)
              have ee : Ex (fun _ => False) w12 (w12.alloc (.cells #[.int .i64 pp.kind, .int .i64 pp.source, .int .i64 pp.mode, .bool pp.free, .int .i64 pp.flags] 41)) := (Ex.refl (fun _ => False) w12).alloc (.cells #[.int .i64 pp.kind, .int .i64 pp.source, .int .i64 pp.mode, .bool pp.free, .int .i64 pp.flags] 41)
              have K_416 := Lib.hid (K_414.out.ex ee (fun h => h) (fun h => h))
              have O_416 := Lib.hid (O_414.out.ex ee (fun h => h))
              have Q_416 := Lib.hid (Q_414.out.ex ee (fun h => h))
              have V_416 := Lib.hid (V_414.out.ex ee (fun h => h))
              have N_416 := Lib.hid (N_414.out.ex ee (fun h => h))
              have T_416 := Lib.hid (T_414.out.ex ee (fun h => h))
              have L_416 := Lib.hid (L_414.out.ex ee (fun b_ h_ => h_.elim))
              have A_416 := Lib.hid (A_414.out.ex ee (fun h => h) (fun h => h))
              have J_416 := Lib.hid (J_414.out.ex ee )
              have C_416 := Lib.hid (C_414.out.ex ee (fun h => h))
              have Z_416 := Lib.hid (Z_414.out.ex ee (fun b_ h_ => h_.elim))
              have D_416 := Lib.hid (D_414.out.ex ee (fun h => h))
              have G_416 := Lib.hid (G_414.out.ex ee (fun h => h))
              have P_416 := Lib.hid (hq)
              clear ee K_414 O_414 Q_414 V_414 N_414 T_414 L_414 A_414 J_414 C_414 Z_414 D_414 G_414 hq hnm hlt
              generalize w12.alloc (.cells #[.int .i64 pp.kind, .int .i64 pp.source, .int .i64 pp.mode, .bool pp.free, .int .i64 pp.flags] 41) = w13 at *
              obtain ⟨E9, hE9⟩ : ∃ E9, pp.kd.E sa = E9 := ⟨_, rfl⟩
              obtain ⟨W9, hW9⟩ : ∃ W9, pp.kd.S sa = W9 := ⟨_, rfl⟩
              have HEK := Lib.hid hE9
              have HWK := Lib.hid hW9
              have hf9 := HF.out
              rw [hE9, hW9] at hf9
              have HF9 := Lib.hid hf9
              clear hE9 hW9 hf9 HF
              have Cq0 := (C_416.out).cell 0
              have Cq1 := (C_416.out).cell 1
              have Cq2 := (C_416.out).cell 2
              have Cq3 := (C_416.out).cell 3
              have Cq4 := (C_416.out).cell 4
              simp only [List.getElem?_toArray, List.getElem?_cons_succ, List.getElem?_cons_zero] at Cq0 Cq1 Cq2 Cq3 Cq4
              go_upto_region 39 with fail
              obtain ⟨zb, hzb⟩ : ∃ zb, w13.heap.size = zb := ⟨_, rfl⟩
              have M0 := Lib.hid (show Lo zb w13 w13 from ⟨Below.refl _ _, Nat.le_of_eq hzb.symm⟩)
              have HZB := Lib.hid hzb
              clear Cq0 Cq1 Cq2 Cq3 Cq4
              have hq := Blk.new w13 34 #[.int .i64 sa.mode, .int .i64 sa.source, .bool sa.hold, .int .i64 sa.flags, .int .u64 sa.epoch]
              obtain ⟨wb, hnm⟩ : ∃ wb, w13.heap.size = wb := ⟨_, rfl⟩
              have hlt : o < wb ∧ s3 < wb ∧ b < wb ∧ c1 < wb ∧ c2 < wb ∧ c3 < wb ∧ c4 < wb ∧ zb ≤ wb := by have hl0 := hnm ▸ (show o < w13.heap.size ∧ s3 < w13.heap.size ∧ b < w13.heap.size ∧ c1 < w13.heap.size ∧ c2 < w13.heap.size ∧ c3 < w13.heap.size ∧ c4 < w13.heap.size from ⟨A_416.out.head.lt, N_416.out.lt, J_416.out.lt, C_416.out.lt, D_416.out.lt, G_416.out.lt, P_416.out.lt⟩); have := Nat.le_of_eq (hzb.symm.trans hnm); omega
              simp only [hnm] at hq ⊢
              have ORD417 := Lib.hid (show (0 < fb ∧ fb + 1 = yb ∧ yb < rr ∧ rr + 1 = g ∧ g < o3 ∧ o3 < p3 ∧ p3 < b3 ∧ b3 < s3) ∧ s3 < o ∧ (s3 < b ∨ b = 0) ∧ b ≠ o ∧ o < c1 ∧ s3 < c1 ∧ b < c1 ∧ o < c2 ∧ s3 < c2 ∧ b < c2 ∧ c1 < c2 ∧ o < c3 ∧ s3 < c3 ∧ b < c3 ∧ o < c4 ∧ s3 < c4 ∧ b < c4 ∧ o < wb ∧ s3 < wb ∧ b < wb ∧ c1 < wb ∧ c2 < wb ∧ c3 < wb ∧ c4 < wb ∧ zb ≤ wb from by have o_ := ORD415.out; omega)
              have ee : Ex (fun _ => False) w13 (w13.alloc (.cells #[.int .i64 sa.mode, .int .i64 sa.source, .bool sa.hold, .int .i64 sa.flags, .int .u64 sa.epoch] 34)) := (Ex.refl (fun _ => False) w13).alloc (.cells #[.int .i64 sa.mode, .int .i64 sa.source, .bool sa.hold, .int .i64 sa.flags, .int .u64 sa.epoch] 34)
              have K_418 := Lib.hid (K_416.out.ex ee (fun h => h) (fun h => h))
              have O_418 := Lib.hid (O_416.out.ex ee (fun h => h))
              have Q_418 := Lib.hid (Q_416.out.ex ee (fun h => h))
              have V_418 := Lib.hid (V_416.out.ex ee (fun h => h))
              have N_418 := Lib.hid (N_416.out.ex ee (fun h => h))
              have T_418 := Lib.hid (T_416.out.ex ee (fun h => h))
              have L_418 := Lib.hid (L_416.out.ex ee (fun b_ h_ => h_.elim))
              have A_418 := Lib.hid (A_416.out.ex ee (fun h => h) (fun h => h))
              have J_418 := Lib.hid (J_416.out.ex ee )
              have C_418 := Lib.hid (C_416.out.ex ee (fun h => h))
              have D_418 := Lib.hid (D_416.out.ex ee (fun h => h))
              have G_418 := Lib.hid (G_416.out.ex ee (fun h => h))
              have P_418 := Lib.hid (P_416.out.ex ee (fun h => h))
              have M_418 := Lib.hid (M0.out.ex ee (fun b_ h_ => h_.elim))
              have W_418 := Lib.hid (hq)
              clear ee K_416 O_416 Q_416 V_416 N_416 T_416 L_416 A_416 J_416 C_416 D_416 G_416 P_416 M0 hq hnm hlt
              generalize w13.alloc (.cells #[.int .i64 sa.mode, .int .i64 sa.source, .bool sa.hold, .int .i64 sa.flags, .int .u64 sa.epoch] 34) = w14 at *
              clear hzb
              have Pq0 := (P_418.out).cell 0
              have Pq1 := (P_418.out).cell 1
              have Pq2 := (P_418.out).cell 2
              have Pq3 := (P_418.out).cell 3
              have Pq4 := (P_418.out).cell 4
              simp only [List.getElem?_toArray, List.getElem?_cons_succ, List.getElem?_cons_zero] at Pq0 Pq1 Pq2 Pq3 Pq4
              obtain ⟨E1, W1, hew⟩ : ∃ (E1 : Int) (W1 : St), (pp.kind = 0 → E1 = E9 ∧ W1 = W9) ∧ (pp.kind ≠ 0 → E1 = 0 ∧ W1 = sa) := by
                by_cases n0 : pp.kind = 0
                · exact ⟨_, _, fun _ => ⟨rfl, rfl⟩, fun h => absurd n0 h⟩
                · exact ⟨_, _, fun h => absurd h n0, fun _ => ⟨rfl, rfl⟩⟩
              have HEW := Lib.hid hew
              clear hew
              go_upto_if 193 with fail
              clear Pq0 Pq1 Pq2 Pq3 Pq4
              go_cut [31] from 193 to 205 (fun s31 wx => s31 = .int .i64 E1 ∧ Blk wx wb 34 #[.int .i64 W1.mode, .int .i64 W1.source, .bool W1.hold, .int .i64 W1.flags, .int .u64 W1.epoch] ∧ Ex (fun q => q = wb) w14 wx)
              case first =>
                by_cases n0 : pp.kind = 0
                · skip
                  have ekd : pp.kd = .req ⟨pp.source, pp.mode, pp.free⟩ := by unfold Pl.kd; rw [if_pos n0]
                  have N0 := Lib.hid n0
                  have k0 : (pp.kind == 0) = true := by simpa using n0
                  have hdc : ∀ W, Tab W → Calls Tryd.prog 25 #[.agg #[.int .i64 sa.mode, .int .i64 sa.source, .bool sa.hold, .int .i64 sa.flags, .int .u64 sa.epoch], .agg #[.int .i64 pp.source, .int .i64 pp.mode, .bool pp.free]] W fun e w' => e = .returned (.tuple #[.agg #[.int .i64 W9.mode, .int .i64 W9.source, .bool W9.hold, .int .i64 W9.flags, .int .u64 W9.epoch], .int .i64 (E9)]) ∧ Below W.heap.size W w' := by
                    intro W hT
                    have hh := Decide_any sa HSA.out.1 ⟨pp.source, pp.mode, pp.free⟩ ⟨HOKP.out.source, HOKP.out.mode⟩ W hT
                    have hs9 := HWK.out
                    have he9 := HEK.out
                    rw [ekd] at hs9 he9
                    rw [show decideS sa ⟨pp.source, pp.mode, pp.free⟩ = W9 from hs9, show decideE sa ⟨pp.source, pp.mode, pp.free⟩ = E9 from he9] at hh
                    exact hh
                  have HDC := Lib.hid hdc
                  clear hdc ekd n0
                  have Pq0 := (P_418.out).cell 0
                  have Pq1 := (P_418.out).cell 1
                  have Pq2 := (P_418.out).cell 2
                  have Pq3 := (P_418.out).cell 3
                  have Pq4 := (P_418.out).cell 4
                  simp only [List.getElem?_toArray, List.getElem?_cons_succ, List.getElem?_cons_zero] at Pq0 Pq1 Pq2 Pq3 Pq4
                  have Cq0 := (C_418.out).cell 0
                  have Cq1 := (C_418.out).cell 1
                  have Cq2 := (C_418.out).cell 2
                  have Cq3 := (C_418.out).cell 3
                  have Cq4 := (C_418.out).cell 4
                  simp only [List.getElem?_toArray, List.getElem?_cons_succ, List.getElem?_cons_zero] at Cq0 Cq1 Cq2 Cq3 Cq4
                  go_wp2_with fail
                  clear Pq0 Pq1 Pq2 Pq3 Pq4 Cq0 Cq1 Cq2 Cq3 Cq4
                  refine (HDC.out w14 T_418.out).mono ?_; rintro e wv ⟨rfl, hb⟩
                  have HB := Lib.hid hb
                  have ee : Ex (fun _ => False) w14 wv := Ex.of_below hb
                  have T_419 := Lib.hid (T_418.out.ex ee (fun h => h))
                  have C_419 := Lib.hid (C_418.out.ex ee (fun h => h))
                  have P_419 := Lib.hid (P_418.out.ex ee (fun h => h))
                  have W_419 := Lib.hid (W_418.out.ex ee (fun h => h))
                  clear ee T_418 C_418 P_418 W_418 hb
                  have Wq0 := (W_419.out).cell 0
                  have Wq1 := (W_419.out).cell 1
                  have Wq2 := (W_419.out).cell 2
                  have Wq3 := (W_419.out).cell 3
                  have Wq4 := (W_419.out).cell 4
                  simp only [List.getElem?_toArray, List.getElem?_cons_succ, List.getElem?_cons_zero] at Wq0 Wq1 Wq2 Wq3 Wq4
                  have Wf0 := (W_419.out).frozen 0
                  have Wf1 := (W_419.out).frozen 1
                  have Wf2 := (W_419.out).frozen 2
                  have Wf3 := (W_419.out).frozen 3
                  have Wf4 := (W_419.out).frozen 4
                  go_wp2_with fail
                  clear Wq0 Wq1 Wq2 Wq3 Wq4 Wf0 Wf1 Wf2 Wf3 Wf4
                  have hbb := set5_blk (x0 := .int .i64 W9.mode) (x1 := .int .i64 W9.source) (x2 := .bool W9.hold) (x3 := .int .i64 W9.flags) (x4 := .int .u64 W9.epoch) W_419.out
                  go_meet
                  exact ⟨by rw [(HEW.out.1 N0.out).1], by rw [(HEW.out.1 N0.out).2]; exact hbb, ((((((Ex.of_below HB.out : Ex (fun q => q = wb) _ _).setCell (q := ⟨wb, 0, none⟩) (.inl rfl) (.int .i64 W9.mode)).setCell (q := ⟨wb, 1, none⟩) (.inl rfl) (.int .i64 W9.source)).setCell (q := ⟨wb, 2, none⟩) (.inl rfl) (.bool W9.hold)).setCell (q := ⟨wb, 3, none⟩) (.inl rfl) (.int .i64 W9.flags)).setCell (q := ⟨wb, 4, none⟩) (.inl rfl) (.int .u64 W9.epoch))⟩
                · skip
                  have k0 : (pp.kind == 0) = false := by simpa using n0
                  have HN0 := Lib.hid n0
                  clear n0
                  go_wp2_with fail
                  go_meet
                  exact ⟨by rw [(HEW.out.2 HN0.out).1], by rw [(HEW.out.2 HN0.out).2]; exact W_418.out, Ex.refl _ _⟩
              case rest =>
                obtain ⟨rfl, hbw, hex⟩ := hcut
                obtain ⟨w15, rfl⟩ : ∃ W : World, W = wc := ⟨_, rfl⟩
                have ee : Ex (fun k => k = wb) w14 w15 := hex
                have K_419 := Lib.hid (K_418.out.ex ee (by have o_ := ORD417.out; omega) (by have o_ := ORD417.out; omega))
                have O_419 := Lib.hid (O_418.out.ex ee (by have o_ := ORD417.out; omega))
                have Q_419 := Lib.hid (Q_418.out.ex ee (by have o_ := ORD417.out; omega))
                have V_419 := Lib.hid (V_418.out.ex ee (by have o_ := ORD417.out; omega))
                have N_419 := Lib.hid (N_418.out.ex ee (by have o_ := ORD417.out; omega))
                have T_419 := Lib.hid (T_418.out.ex ee (by have o_ := ORD417.out; omega))
                have L_419 := Lib.hid (L_418.out.ex ee (fun b_ h_ => by have o_ := ORD417.out; have h_ : b_ = wb := h_; first | omega | (show _ ∨ _; omega)))
                have A_419 := Lib.hid (A_418.out.ex ee (by have o_ := ORD417.out; omega) (by have o_ := ORD417.out; omega))
                have J_419 := Lib.hid (J_418.out.ex ee )
                have C_419 := Lib.hid (C_418.out.ex ee (by have o_ := ORD417.out; omega))
                have D_419 := Lib.hid (D_418.out.ex ee (by have o_ := ORD417.out; omega))
                have G_419 := Lib.hid (G_418.out.ex ee (by have o_ := ORD417.out; omega))
                have P_419 := Lib.hid (P_418.out.ex ee (by have o_ := ORD417.out; omega))
                have M_419 := Lib.hid (M_418.out.ex ee (fun b_ h_ => by have o_ := ORD417.out; have h_ : b_ = wb := h_; first | omega | (show _ ∨ _; omega)))
                have W_419 := Lib.hid (hbw)
                clear ee K_418 O_418 Q_418 V_418 N_418 T_418 L_418 A_418 J_418 C_418 D_418 G_418 P_418 M_418 W_418 hbw hex
                have Pq0 := (P_419.out).cell 0
                have Pq1 := (P_419.out).cell 1
                have Pq2 := (P_419.out).cell 2
                have Pq3 := (P_419.out).cell 3
                have Pq4 := (P_419.out).cell 4
                simp only [List.getElem?_toArray, List.getElem?_cons_succ, List.getElem?_cons_zero] at Pq0 Pq1 Pq2 Pq3 Pq4
                go_upto_if 208 with fail
                clear Pq0 Pq1 Pq2 Pq3 Pq4
                go_cut [31] from 208 to 215 (fun s31 wx => s31 = .int .i64 (E9) ∧ Blk wx wb 34 #[.int .i64 W9.mode, .int .i64 W9.source, .bool W9.hold, .int .i64 W9.flags, .int .u64 W9.epoch] ∧ Ex (fun q => q = wb) w15 wx)
                case first =>
                  by_cases n0 : pp.kind = 1
                  · skip
                    have ekd : pp.kd = .tell pp.flags := by unfold Pl.kd; rw [if_neg (by omega), if_pos n0]
                    have k0 : (pp.kind == 1) = true := by simpa using n0
                    have hdc : ∀ W, Tab W → Calls Tryd.prog 26 #[.agg #[.int .i64 sa.mode, .int .i64 sa.source, .bool sa.hold, .int .i64 sa.flags, .int .u64 sa.epoch], .int .i64 pp.flags] W fun e w' => e = .returned (.tuple #[.agg #[.int .i64 W9.mode, .int .i64 W9.source, .bool W9.hold, .int .i64 W9.flags, .int .u64 W9.epoch], .int .i64 (E9)]) ∧ Below W.heap.size W w' := by
                      intro W hT
                      have hh := Health_any sa HSA.out.1 pp.flags W
                      have hs9 := HWK.out
                      have he9 := HEK.out
                      rw [ekd] at hs9 he9
                      rw [show healthS sa pp.flags = W9 from hs9, show healthE sa pp.flags = E9 from he9] at hh
                      exact hh
                    have HDC := Lib.hid hdc
                    clear hdc ekd n0
                    have Pq0 := (P_419.out).cell 0
                    have Pq1 := (P_419.out).cell 1
                    have Pq2 := (P_419.out).cell 2
                    have Pq3 := (P_419.out).cell 3
                    have Pq4 := (P_419.out).cell 4
                    simp only [List.getElem?_toArray, List.getElem?_cons_succ, List.getElem?_cons_zero] at Pq0 Pq1 Pq2 Pq3 Pq4
                    have Cq0 := (C_419.out).cell 0
                    have Cq1 := (C_419.out).cell 1
                    have Cq2 := (C_419.out).cell 2
                    have Cq3 := (C_419.out).cell 3
                    have Cq4 := (C_419.out).cell 4
                    simp only [List.getElem?_toArray, List.getElem?_cons_succ, List.getElem?_cons_zero] at Cq0 Cq1 Cq2 Cq3 Cq4
                    go_wp2_with fail
                    clear Pq0 Pq1 Pq2 Pq3 Pq4 Cq0 Cq1 Cq2 Cq3 Cq4
                    refine (HDC.out w15 T_419.out).mono ?_; rintro e wv ⟨rfl, hb⟩
                    have HB := Lib.hid hb
                    have ee : Ex (fun _ => False) w15 wv := Ex.of_below hb
                    have T_420 := Lib.hid (T_419.out.ex ee (fun h => h))
                    have C_420 := Lib.hid (C_419.out.ex ee (fun h => h))
                    have P_420 := Lib.hid (P_419.out.ex ee (fun h => h))
                    have W_420 := Lib.hid (W_419.out.ex ee (fun h => h))
                    clear ee T_419 C_419 P_419 W_419 hb
                    have Wq0 := (W_420.out).cell 0
                    have Wq1 := (W_420.out).cell 1
                    have Wq2 := (W_420.out).cell 2
                    have Wq3 := (W_420.out).cell 3
                    have Wq4 := (W_420.out).cell 4
                    simp only [List.getElem?_toArray, List.getElem?_cons_succ, List.getElem?_cons_zero] at Wq0 Wq1 Wq2 Wq3 Wq4
                    have Wf0 := (W_420.out).frozen 0
                    have Wf1 := (W_420.out).frozen 1
                    have Wf2 := (W_420.out).frozen 2
                    have Wf3 := (W_420.out).frozen 3
                    have Wf4 := (W_420.out).frozen 4
                    go_wp2_with fail
                    clear Wq0 Wq1 Wq2 Wq3 Wq4 Wf0 Wf1 Wf2 Wf3 Wf4
                    have hbb := set5_blk (x0 := .int .i64 W9.mode) (x1 := .int .i64 W9.source) (x2 := .bool W9.hold) (x3 := .int .i64 W9.flags) (x4 := .int .u64 W9.epoch) W_420.out
                    go_meet
                    exact ⟨rfl, hbb, ((((((Ex.of_below HB.out : Ex (fun q => q = wb) _ _).setCell (q := ⟨wb, 0, none⟩) (.inl rfl) (.int .i64 W9.mode)).setCell (q := ⟨wb, 1, none⟩) (.inl rfl) (.int .i64 W9.source)).setCell (q := ⟨wb, 2, none⟩) (.inl rfl) (.bool W9.hold)).setCell (q := ⟨wb, 3, none⟩) (.inl rfl) (.int .i64 W9.flags)).setCell (q := ⟨wb, 4, none⟩) (.inl rfl) (.int .u64 W9.epoch))⟩
                  · skip
                    have k0 : (pp.kind == 1) = false := by simpa using n0
                    have HN0 := Lib.hid n0
                    clear n0
                    go_wp2_with fail
                    have hz : E1 = E9 ∧ W1 = W9 := by
                      by_cases h0 : pp.kind = 0
                      · exact HEW.out.1 h0
                      · have hr := kd_else h0 HN0.out (s := sa)
                        rw [HEK.out, HWK.out] at hr
                        have he := HEW.out.2 h0
                        exact ⟨he.1.trans hr.1.symm, he.2.trans hr.2.symm⟩
                    have HZ9 := Lib.hid hz
                    clear hz
                    go_meet
                    exact ⟨by rw [HZ9.out.1], by rw [← HZ9.out.2]; exact W_419.out, Ex.refl _ _⟩
                case rest =>
                  obtain ⟨rfl, hbw, hex⟩ := hcut
                  obtain ⟨w16, rfl⟩ : ∃ W : World, W = wc := ⟨_, rfl⟩
                  have ee : Ex (fun k => k = wb) w15 w16 := hex
                  have K_420 := Lib.hid (K_419.out.ex ee (by have o_ := ORD417.out; omega) (by have o_ := ORD417.out; omega))
                  have O_420 := Lib.hid (O_419.out.ex ee (by have o_ := ORD417.out; omega))
                  have Q_420 := Lib.hid (Q_419.out.ex ee (by have o_ := ORD417.out; omega))
                  have V_420 := Lib.hid (V_419.out.ex ee (by have o_ := ORD417.out; omega))
                  have N_420 := Lib.hid (N_419.out.ex ee (by have o_ := ORD417.out; omega))
                  have T_420 := Lib.hid (T_419.out.ex ee (by have o_ := ORD417.out; omega))
                  have L_420 := Lib.hid (L_419.out.ex ee (fun b_ h_ => by have o_ := ORD417.out; have h_ : b_ = wb := h_; first | omega | (show _ ∨ _; omega)))
                  have A_420 := Lib.hid (A_419.out.ex ee (by have o_ := ORD417.out; omega) (by have o_ := ORD417.out; omega))
                  have J_420 := Lib.hid (J_419.out.ex ee )
                  have C_420 := Lib.hid (C_419.out.ex ee (by have o_ := ORD417.out; omega))
                  have D_420 := Lib.hid (D_419.out.ex ee (by have o_ := ORD417.out; omega))
                  have G_420 := Lib.hid (G_419.out.ex ee (by have o_ := ORD417.out; omega))
                  have P_420 := Lib.hid (P_419.out.ex ee (by have o_ := ORD417.out; omega))
                  have M_420 := Lib.hid (M_419.out.ex ee (fun b_ h_ => by have o_ := ORD417.out; have h_ : b_ = wb := h_; first | omega | (show _ ∨ _; omega)))
                  have W_420 := Lib.hid (hbw)
                  clear ee K_419 O_419 Q_419 V_419 N_419 T_419 L_419 A_419 J_419 C_419 D_419 G_419 P_419 M_419 W_419 hbw hex
                  have ZZ9 := Lib.hid (Z_416.out.ex (T := fun _ => False) (Ex.of_below (by rw [HZB.out]; exact M_420.out.low)) (fun _ h => h.elim))
                  clear Z_416 M_420
                  rcases HF9.out with ⟨hw, hr, hz, hnz⟩ | ⟨hw, hr, hst, hss, hp, hd⟩
                  · by_cases he0 : x2.err = 0
                    · skip
                      as_aux_lemma =>
                        obtain ⟨hs1, hs2⟩ := hz he0
                        have HS1 := Lib.hid hs1
                        have HS3 := Lib.hid hs2
                        have HW := Lib.hid hw
                        have kx : (x2.how == 1) = true := by rw [hw]; rfl
                        have kee : (x2.err != E9) = false := by rw [hr]; simp
                        have ke0 : (x2.err == 0) = true := by simpa using he0
                        have ke1 : (x2.err != 0) = false := by simpa using he0
                        have kxs : (x2.steps != x2.steps) = false := by simp
                        clear hs1 hs2 hw hr hz hnz he0
                        have eqs0 : (W9.mode == W9.mode) = true := by simp
                        have eqs1 : (W9.source == W9.source) = true := by simp
                        have eqs2 : (W9.hold == W9.hold) = true := by simp
                        have eqs3 : (W9.flags == W9.flags) = true := by simp
                        have eqs4 : (W9.epoch == W9.epoch) = true := by simp
                        go_upto_region 47 with fail
                        have hne : Nonempty (Held (Below w16.heap.size w16)) := ⟨⟨w16, (Below.refl _ _)⟩⟩
                        have oq : ∀ x : Held (Below w16.heap.size w16), x.w.cell? ⟨o3, k, none⟩ = some (.pointer (some ⟨o, 0, none⟩)) := fun x => ((O_420.out.bl x.ok).cell k).trans ((qArr_cell q2 HK3.out).1.trans (by rw [HQ.out]))
                        have ra0 : ∀ x : Held (Below w16.heap.size w16), x.w.cell? ⟨c1, 0, none⟩ = some (.int .i64 sa.mode) := fun x => (C_420.out.bl x.ok).cell 0
                        have ra1 : ∀ x : Held (Below w16.heap.size w16), x.w.cell? ⟨c1, 1, none⟩ = some (.int .i64 sa.source) := fun x => (C_420.out.bl x.ok).cell 1
                        have ra2 : ∀ x : Held (Below w16.heap.size w16), x.w.cell? ⟨c1, 2, none⟩ = some (.bool sa.hold) := fun x => (C_420.out.bl x.ok).cell 2
                        have ra3 : ∀ x : Held (Below w16.heap.size w16), x.w.cell? ⟨c1, 3, none⟩ = some (.int .i64 sa.flags) := fun x => (C_420.out.bl x.ok).cell 3
                        have ra4 : ∀ x : Held (Below w16.heap.size w16), x.w.cell? ⟨c1, 4, none⟩ = some (.int .u64 sa.epoch) := fun x => (C_420.out.bl x.ok).cell 4
                        have rb0 : ∀ x : Held (Below w16.heap.size w16), x.w.cell? ⟨c2, 0, none⟩ = some (.int .i64 W9.mode) := fun x => ((D_420.out.bl x.ok).cell 0).trans (show (#[.int .i64 sb.mode, .int .i64 sb.source, .bool sb.hold, .int .i64 sb.flags, .int .u64 sb.epoch] : Array Value)[0]? = some (.int .i64 W9.mode) by rw [HS3.out]; rfl)
                        have rb1 : ∀ x : Held (Below w16.heap.size w16), x.w.cell? ⟨c2, 1, none⟩ = some (.int .i64 W9.source) := fun x => ((D_420.out.bl x.ok).cell 1).trans (show (#[.int .i64 sb.mode, .int .i64 sb.source, .bool sb.hold, .int .i64 sb.flags, .int .u64 sb.epoch] : Array Value)[1]? = some (.int .i64 W9.source) by rw [HS3.out]; rfl)
                        have rb2 : ∀ x : Held (Below w16.heap.size w16), x.w.cell? ⟨c2, 2, none⟩ = some (.bool W9.hold) := fun x => ((D_420.out.bl x.ok).cell 2).trans (show (#[.int .i64 sb.mode, .int .i64 sb.source, .bool sb.hold, .int .i64 sb.flags, .int .u64 sb.epoch] : Array Value)[2]? = some (.bool W9.hold) by rw [HS3.out]; rfl)
                        have rb3 : ∀ x : Held (Below w16.heap.size w16), x.w.cell? ⟨c2, 3, none⟩ = some (.int .i64 W9.flags) := fun x => ((D_420.out.bl x.ok).cell 3).trans (show (#[.int .i64 sb.mode, .int .i64 sb.source, .bool sb.hold, .int .i64 sb.flags, .int .u64 sb.epoch] : Array Value)[3]? = some (.int .i64 W9.flags) by rw [HS3.out]; rfl)
                        have rb4 : ∀ x : Held (Below w16.heap.size w16), x.w.cell? ⟨c2, 4, none⟩ = some (.int .u64 W9.epoch) := fun x => ((D_420.out.bl x.ok).cell 4).trans (show (#[.int .i64 sb.mode, .int .i64 sb.source, .bool sb.hold, .int .i64 sb.flags, .int .u64 sb.epoch] : Array Value)[4]? = some (.int .u64 W9.epoch) by rw [HS3.out]; rfl)
                        have rc0 : ∀ x : Held (Below w16.heap.size w16), x.w.cell? ⟨c3, 0, none⟩ = some (.int .i64 W9.mode) := fun x => ((G_420.out.bl x.ok).cell 0).trans (show (#[.int .i64 x2.st.mode, .int .i64 x2.st.source, .bool x2.st.hold, .int .i64 x2.st.flags, .int .u64 x2.st.epoch] : Array Value)[0]? = some (.int .i64 W9.mode) by rw [HS1.out]; rfl)
                        have rc1 : ∀ x : Held (Below w16.heap.size w16), x.w.cell? ⟨c3, 1, none⟩ = some (.int .i64 W9.source) := fun x => ((G_420.out.bl x.ok).cell 1).trans (show (#[.int .i64 x2.st.mode, .int .i64 x2.st.source, .bool x2.st.hold, .int .i64 x2.st.flags, .int .u64 x2.st.epoch] : Array Value)[1]? = some (.int .i64 W9.source) by rw [HS1.out]; rfl)
                        have rc2 : ∀ x : Held (Below w16.heap.size w16), x.w.cell? ⟨c3, 2, none⟩ = some (.bool W9.hold) := fun x => ((G_420.out.bl x.ok).cell 2).trans (show (#[.int .i64 x2.st.mode, .int .i64 x2.st.source, .bool x2.st.hold, .int .i64 x2.st.flags, .int .u64 x2.st.epoch] : Array Value)[2]? = some (.bool W9.hold) by rw [HS1.out]; rfl)
                        have rc3 : ∀ x : Held (Below w16.heap.size w16), x.w.cell? ⟨c3, 3, none⟩ = some (.int .i64 W9.flags) := fun x => ((G_420.out.bl x.ok).cell 3).trans (show (#[.int .i64 x2.st.mode, .int .i64 x2.st.source, .bool x2.st.hold, .int .i64 x2.st.flags, .int .u64 x2.st.epoch] : Array Value)[3]? = some (.int .i64 W9.flags) by rw [HS1.out]; rfl)
                        have rc4 : ∀ x : Held (Below w16.heap.size w16), x.w.cell? ⟨c3, 4, none⟩ = some (.int .u64 W9.epoch) := fun x => ((G_420.out.bl x.ok).cell 4).trans (show (#[.int .i64 x2.st.mode, .int .i64 x2.st.source, .bool x2.st.hold, .int .i64 x2.st.flags, .int .u64 x2.st.epoch] : Array Value)[4]? = some (.int .u64 W9.epoch) by rw [HS1.out]; rfl)
                        have rd0 : ∀ x : Held (Below w16.heap.size w16), x.w.cell? ⟨wb, 0, none⟩ = some (.int .i64 W9.mode) := fun x => (W_420.out.bl x.ok).cell 0
                        have rd1 : ∀ x : Held (Below w16.heap.size w16), x.w.cell? ⟨wb, 1, none⟩ = some (.int .i64 W9.source) := fun x => (W_420.out.bl x.ok).cell 1
                        have rd2 : ∀ x : Held (Below w16.heap.size w16), x.w.cell? ⟨wb, 2, none⟩ = some (.bool W9.hold) := fun x => (W_420.out.bl x.ok).cell 2
                        have rd3 : ∀ x : Held (Below w16.heap.size w16), x.w.cell? ⟨wb, 3, none⟩ = some (.int .i64 W9.flags) := fun x => (W_420.out.bl x.ok).cell 3
                        have rd4 : ∀ x : Held (Below w16.heap.size w16), x.w.cell? ⟨wb, 4, none⟩ = some (.int .u64 W9.epoch) := fun x => (W_420.out.bl x.ok).cell 4
                        refine drawn_bars (S := (Below w16.heap.size w16)) [([0, 1, 2, 3, 4, 5, 6, 7, 8, 9, 10, 11, 12, 13, 14, 15, 16, 17, 18, 19, 20, 21, 22, 23, 24, 25, 26, 27, 28, 29, 30, 31, 32, 33, 34, 35, 37, 38, 39, 40], 36), ([], 41)] [42, 43] (by kernel_rfl) (by kernel_rfl) s47 rfl (Below.refl _ _).drew ?_
                        refine Phased.go ?_
                        simp only [pick, List.map_cons, List.map_nil, List.getElem?_cons_zero, List.getElem?_cons_succ, Option.getD_some]
                        repeat (go_big_quiet_step (fail))
                        refine wpQuiet_nil ?_
                        go_wp2_with fail
                        have ha8 : ArbAt w16.drew o b pp.kd 0 x2 := A_420.out.ex (T := fun _ => False) (Ex.refl _ w16).drew (fun h => h) (fun h => h)
                        refine (At_done o b pp.kd 0 x2 w16.drew ha8 HW.out).mono ?_; rintro e wt ⟨rfl, rfl⟩
                        have hb0 := (Below.refl w16.heap.size w16).drew
                        go_wp2_with fail
                        refine behind_normal ⟨(Below w16.heap.size w16), fun W h => h, hb0, ?_⟩
                        refine Phased.go ?_
                        simp only [pick, List.map_cons, List.map_nil, List.getElem?_cons_zero, List.getElem?_cons_succ, Option.getD_some]
                        repeat (go_big_quiet_step (fail))
                        refine wpQuiet_nil ?_
                        go_wp2_with fail
                        refine (Steps_any o b pp.kd 0 x2 w16.drew ha8).mono ?_; rintro e wt ⟨rfl, rfl⟩
                        go_wp2_with fail
                        refine behind_normal ⟨(Below w16.heap.size w16), fun W h => h, hb0, ?_⟩
                        refine Phased.end_ ?_
                        have hne5 : Nonempty (Held (fun W => W = w16.drew)) := ⟨⟨_, rfl⟩⟩
                        simp only [pick, List.map_cons, List.map_nil, List.getElem?_cons_zero, List.getElem?_cons_succ, Option.getD_some]
                        repeat (go_big_quiet_step (fail))
                        refine wpQuiet_nil ?_
                        clear hne5 hne oq ra0 ra1 ra2 ra3 ra4 rb0 rb1 rb2 rb3 rb4 rc0 rc1 rc2 rc3 rc4 rd0 rd1 rd2 rd3 rd4 ha8 hb0 kxs kx kee ke0 ke1 eqs0 eqs1 eqs2 eqs3 eqs4
                        have ee : Ex (fun _ => False) w16 w16.drew := (Ex.refl (fun _ => False) w16).drew
                        have K_421 := Lib.hid (K_420.out.ex ee (fun h => h) (fun h => h))
                        have O_421 := Lib.hid (O_420.out.ex ee (fun h => h))
                        have Q_421 := Lib.hid (Q_420.out.ex ee (fun h => h))
                        have V_421 := Lib.hid (V_420.out.ex ee (fun h => h))
                        have N_421 := Lib.hid (N_420.out.ex ee (fun h => h))
                        have T_421 := Lib.hid (T_420.out.ex ee (fun h => h))
                        have L_421 := Lib.hid (L_420.out.ex ee (fun b_ h_ => h_.elim))
                        have A_421 := Lib.hid (A_420.out.ex ee (fun h => h) (fun h => h))
                        have J_421 := Lib.hid (J_420.out.ex ee )
                        have C_421 := Lib.hid (C_420.out.ex ee (fun h => h))
                        have D_421 := Lib.hid (D_420.out.ex ee (fun h => h))
                        have G_421 := Lib.hid (G_420.out.ex ee (fun h => h))
                        have P_421 := Lib.hid (P_420.out.ex ee (fun h => h))
                        have W_421 := Lib.hid (W_420.out.ex ee (fun h => h))
                        have Z_421 := Lib.hid (ZZ9.out.ex ee (fun b_ h_ => h_.elim))
                        clear ee K_420 O_420 Q_420 V_420 N_420 T_420 L_420 A_420 J_420 C_420 D_420 G_420 P_420 W_420 ZZ9
                        generalize w16.drew = w17 at *
                        go_upto_region 16 with fail
                        go_wp2_with fail
                        exact ⟨⟨i + 1, updR q2 k ⟨(q2 k).a, (q2 k).o, (q2 k).b, x2, (q2 k).p, zd, (q2 k).sn⟩, sb, tn2, tt2, by have := HI.out; omega, rfl, by go_num, by have := HT.out; have := HTN.out; omega, by have := HT.out; have := HTN.out; omega, HSB.out.1, HSB.out.2, K_421.out, (by rw [SAME.out.1]; exact O_421.out), (by rw [SAME.out.2.2]; exact Q_421.out), V_421.out, (by rw [SAME.out.2.1]; exact N_421.out), T_421.out, L_421.out, Z_421.out⟩, by have := HI.out; simp [intOf]; omega⟩
                    · skip
                      as_aux_lemma =>
                        obtain ⟨hs1, hs2⟩ := hnz he0
                        have HS1 := Lib.hid hs1
                        have HS3 := Lib.hid hs2
                        have HW := Lib.hid hw
                        have kx : (x2.how == 1) = true := by rw [hw]; rfl
                        have kee : (x2.err != E9) = false := by rw [hr]; simp
                        have ke0 : (x2.err == 0) = false := by simpa using he0
                        have ke1 : (x2.err != 0) = true := by simpa using he0
                        have kxs : (x2.steps != x2.steps) = false := by simp
                        clear hs1 hs2 hw hr hz hnz he0
                        have eqs0 : (sa.mode == sa.mode) = true := by simp
                        have eqs1 : (sa.source == sa.source) = true := by simp
                        have eqs2 : (sa.hold == sa.hold) = true := by simp
                        have eqs3 : (sa.flags == sa.flags) = true := by simp
                        have eqs4 : (sa.epoch == sa.epoch) = true := by simp
                        go_upto_region 47 with fail
                        have hne : Nonempty (Held (Below w16.heap.size w16)) := ⟨⟨w16, (Below.refl _ _)⟩⟩
                        have oq : ∀ x : Held (Below w16.heap.size w16), x.w.cell? ⟨o3, k, none⟩ = some (.pointer (some ⟨o, 0, none⟩)) := fun x => ((O_420.out.bl x.ok).cell k).trans ((qArr_cell q2 HK3.out).1.trans (by rw [HQ.out]))
                        have ra0 : ∀ x : Held (Below w16.heap.size w16), x.w.cell? ⟨c1, 0, none⟩ = some (.int .i64 sa.mode) := fun x => (C_420.out.bl x.ok).cell 0
                        have ra1 : ∀ x : Held (Below w16.heap.size w16), x.w.cell? ⟨c1, 1, none⟩ = some (.int .i64 sa.source) := fun x => (C_420.out.bl x.ok).cell 1
                        have ra2 : ∀ x : Held (Below w16.heap.size w16), x.w.cell? ⟨c1, 2, none⟩ = some (.bool sa.hold) := fun x => (C_420.out.bl x.ok).cell 2
                        have ra3 : ∀ x : Held (Below w16.heap.size w16), x.w.cell? ⟨c1, 3, none⟩ = some (.int .i64 sa.flags) := fun x => (C_420.out.bl x.ok).cell 3
                        have ra4 : ∀ x : Held (Below w16.heap.size w16), x.w.cell? ⟨c1, 4, none⟩ = some (.int .u64 sa.epoch) := fun x => (C_420.out.bl x.ok).cell 4
                        have rb0 : ∀ x : Held (Below w16.heap.size w16), x.w.cell? ⟨c2, 0, none⟩ = some (.int .i64 sa.mode) := fun x => ((D_420.out.bl x.ok).cell 0).trans (show (#[.int .i64 sb.mode, .int .i64 sb.source, .bool sb.hold, .int .i64 sb.flags, .int .u64 sb.epoch] : Array Value)[0]? = some (.int .i64 sa.mode) by rw [HS3.out]; rfl)
                        have rb1 : ∀ x : Held (Below w16.heap.size w16), x.w.cell? ⟨c2, 1, none⟩ = some (.int .i64 sa.source) := fun x => ((D_420.out.bl x.ok).cell 1).trans (show (#[.int .i64 sb.mode, .int .i64 sb.source, .bool sb.hold, .int .i64 sb.flags, .int .u64 sb.epoch] : Array Value)[1]? = some (.int .i64 sa.source) by rw [HS3.out]; rfl)
                        have rb2 : ∀ x : Held (Below w16.heap.size w16), x.w.cell? ⟨c2, 2, none⟩ = some (.bool sa.hold) := fun x => ((D_420.out.bl x.ok).cell 2).trans (show (#[.int .i64 sb.mode, .int .i64 sb.source, .bool sb.hold, .int .i64 sb.flags, .int .u64 sb.epoch] : Array Value)[2]? = some (.bool sa.hold) by rw [HS3.out]; rfl)
                        have rb3 : ∀ x : Held (Below w16.heap.size w16), x.w.cell? ⟨c2, 3, none⟩ = some (.int .i64 sa.flags) := fun x => ((D_420.out.bl x.ok).cell 3).trans (show (#[.int .i64 sb.mode, .int .i64 sb.source, .bool sb.hold, .int .i64 sb.flags, .int .u64 sb.epoch] : Array Value)[3]? = some (.int .i64 sa.flags) by rw [HS3.out]; rfl)
                        have rb4 : ∀ x : Held (Below w16.heap.size w16), x.w.cell? ⟨c2, 4, none⟩ = some (.int .u64 sa.epoch) := fun x => ((D_420.out.bl x.ok).cell 4).trans (show (#[.int .i64 sb.mode, .int .i64 sb.source, .bool sb.hold, .int .i64 sb.flags, .int .u64 sb.epoch] : Array Value)[4]? = some (.int .u64 sa.epoch) by rw [HS3.out]; rfl)
                        have rc0 : ∀ x : Held (Below w16.heap.size w16), x.w.cell? ⟨c3, 0, none⟩ = some (.int .i64 sa.mode) := fun x => ((G_420.out.bl x.ok).cell 0).trans (show (#[.int .i64 x2.st.mode, .int .i64 x2.st.source, .bool x2.st.hold, .int .i64 x2.st.flags, .int .u64 x2.st.epoch] : Array Value)[0]? = some (.int .i64 sa.mode) by rw [HS1.out]; rfl)
                        have rc1 : ∀ x : Held (Below w16.heap.size w16), x.w.cell? ⟨c3, 1, none⟩ = some (.int .i64 sa.source) := fun x => ((G_420.out.bl x.ok).cell 1).trans (show (#[.int .i64 x2.st.mode, .int .i64 x2.st.source, .bool x2.st.hold, .int .i64 x2.st.flags, .int .u64 x2.st.epoch] : Array Value)[1]? = some (.int .i64 sa.source) by rw [HS1.out]; rfl)
                        have rc2 : ∀ x : Held (Below w16.heap.size w16), x.w.cell? ⟨c3, 2, none⟩ = some (.bool sa.hold) := fun x => ((G_420.out.bl x.ok).cell 2).trans (show (#[.int .i64 x2.st.mode, .int .i64 x2.st.source, .bool x2.st.hold, .int .i64 x2.st.flags, .int .u64 x2.st.epoch] : Array Value)[2]? = some (.bool sa.hold) by rw [HS1.out]; rfl)
                        have rc3 : ∀ x : Held (Below w16.heap.size w16), x.w.cell? ⟨c3, 3, none⟩ = some (.int .i64 sa.flags) := fun x => ((G_420.out.bl x.ok).cell 3).trans (show (#[.int .i64 x2.st.mode, .int .i64 x2.st.source, .bool x2.st.hold, .int .i64 x2.st.flags, .int .u64 x2.st.epoch] : Array Value)[3]? = some (.int .i64 sa.flags) by rw [HS1.out]; rfl)
                        have rc4 : ∀ x : Held (Below w16.heap.size w16), x.w.cell? ⟨c3, 4, none⟩ = some (.int .u64 sa.epoch) := fun x => ((G_420.out.bl x.ok).cell 4).trans (show (#[.int .i64 x2.st.mode, .int .i64 x2.st.source, .bool x2.st.hold, .int .i64 x2.st.flags, .int .u64 x2.st.epoch] : Array Value)[4]? = some (.int .u64 sa.epoch) by rw [HS1.out]; rfl)
                        have rd0 : ∀ x : Held (Below w16.heap.size w16), x.w.cell? ⟨wb, 0, none⟩ = some (.int .i64 W9.mode) := fun x => (W_420.out.bl x.ok).cell 0
                        have rd1 : ∀ x : Held (Below w16.heap.size w16), x.w.cell? ⟨wb, 1, none⟩ = some (.int .i64 W9.source) := fun x => (W_420.out.bl x.ok).cell 1
                        have rd2 : ∀ x : Held (Below w16.heap.size w16), x.w.cell? ⟨wb, 2, none⟩ = some (.bool W9.hold) := fun x => (W_420.out.bl x.ok).cell 2
                        have rd3 : ∀ x : Held (Below w16.heap.size w16), x.w.cell? ⟨wb, 3, none⟩ = some (.int .i64 W9.flags) := fun x => (W_420.out.bl x.ok).cell 3
                        have rd4 : ∀ x : Held (Below w16.heap.size w16), x.w.cell? ⟨wb, 4, none⟩ = some (.int .u64 W9.epoch) := fun x => (W_420.out.bl x.ok).cell 4
                        refine drawn_bars (S := (Below w16.heap.size w16)) [([0, 1, 2, 3, 4, 5, 6, 7, 8, 9, 10, 11, 12, 13, 14, 15, 16, 17, 18, 19, 20, 21, 22, 23, 24, 25, 26, 27, 28, 29, 30, 31, 32, 33, 34, 35, 37, 38, 39, 40], 36), ([], 41)] [42, 43] (by kernel_rfl) (by kernel_rfl) s47 rfl (Below.refl _ _).drew ?_
                        refine Phased.go ?_
                        simp only [pick, List.map_cons, List.map_nil, List.getElem?_cons_zero, List.getElem?_cons_succ, Option.getD_some]
                        repeat (go_big_quiet_step (fail))
                        refine wpQuiet_nil ?_
                        go_wp2_with fail
                        have ha8 : ArbAt w16.drew o b pp.kd 0 x2 := A_420.out.ex (T := fun _ => False) (Ex.refl _ w16).drew (fun h => h) (fun h => h)
                        refine (At_done o b pp.kd 0 x2 w16.drew ha8 HW.out).mono ?_; rintro e wt ⟨rfl, rfl⟩
                        have hb0 := (Below.refl w16.heap.size w16).drew
                        go_wp2_with fail
                        refine behind_normal ⟨(Below w16.heap.size w16), fun W h => h, hb0, ?_⟩
                        refine Phased.go ?_
                        simp only [pick, List.map_cons, List.map_nil, List.getElem?_cons_zero, List.getElem?_cons_succ, Option.getD_some]
                        repeat (go_big_quiet_step (fail))
                        refine wpQuiet_nil ?_
                        go_wp2_with fail
                        refine (Steps_any o b pp.kd 0 x2 w16.drew ha8).mono ?_; rintro e wt ⟨rfl, rfl⟩
                        go_wp2_with fail
                        refine behind_normal ⟨(Below w16.heap.size w16), fun W h => h, hb0, ?_⟩
                        refine Phased.end_ ?_
                        have hne5 : Nonempty (Held (fun W => W = w16.drew)) := ⟨⟨_, rfl⟩⟩
                        simp only [pick, List.map_cons, List.map_nil, List.getElem?_cons_zero, List.getElem?_cons_succ, Option.getD_some]
                        repeat (go_big_quiet_step (fail))
                        refine wpQuiet_nil ?_
                        clear hne5 hne oq ra0 ra1 ra2 ra3 ra4 rb0 rb1 rb2 rb3 rb4 rc0 rc1 rc2 rc3 rc4 rd0 rd1 rd2 rd3 rd4 ha8 hb0 kxs kx kee ke0 ke1 eqs0 eqs1 eqs2 eqs3 eqs4
                        have ee : Ex (fun _ => False) w16 w16.drew := (Ex.refl (fun _ => False) w16).drew
                        have K_421 := Lib.hid (K_420.out.ex ee (fun h => h) (fun h => h))
                        have O_421 := Lib.hid (O_420.out.ex ee (fun h => h))
                        have Q_421 := Lib.hid (Q_420.out.ex ee (fun h => h))
                        have V_421 := Lib.hid (V_420.out.ex ee (fun h => h))
                        have N_421 := Lib.hid (N_420.out.ex ee (fun h => h))
                        have T_421 := Lib.hid (T_420.out.ex ee (fun h => h))
                        have L_421 := Lib.hid (L_420.out.ex ee (fun b_ h_ => h_.elim))
                        have A_421 := Lib.hid (A_420.out.ex ee (fun h => h) (fun h => h))
                        have J_421 := Lib.hid (J_420.out.ex ee )
                        have C_421 := Lib.hid (C_420.out.ex ee (fun h => h))
                        have D_421 := Lib.hid (D_420.out.ex ee (fun h => h))
                        have G_421 := Lib.hid (G_420.out.ex ee (fun h => h))
                        have P_421 := Lib.hid (P_420.out.ex ee (fun h => h))
                        have W_421 := Lib.hid (W_420.out.ex ee (fun h => h))
                        have Z_421 := Lib.hid (ZZ9.out.ex ee (fun b_ h_ => h_.elim))
                        clear ee K_420 O_420 Q_420 V_420 N_420 T_420 L_420 A_420 J_420 C_420 D_420 G_420 P_420 W_420 ZZ9
                        generalize w16.drew = w17 at *
                        go_upto_region 16 with fail
                        go_wp2_with fail
                        exact ⟨⟨i + 1, updR q2 k ⟨(q2 k).a, (q2 k).o, (q2 k).b, x2, (q2 k).p, zd, (q2 k).sn⟩, sb, tn2, tt2, by have := HI.out; omega, rfl, by go_num, by have := HT.out; have := HTN.out; omega, by have := HT.out; have := HTN.out; omega, HSB.out.1, HSB.out.2, K_421.out, (by rw [SAME.out.1]; exact O_421.out), (by rw [SAME.out.2.2]; exact Q_421.out), V_421.out, (by rw [SAME.out.2.1]; exact N_421.out), T_421.out, L_421.out, Z_421.out⟩, by have := HI.out; simp [intOf]; omega⟩
                  · skip
                    as_aux_lemma =>
                      have HW := Lib.hid hw
                      have HST := Lib.hid hst
                      have HSS := Lib.hid hss
                      have kx1 : (x2.how == 1) = false := by rw [hw]; rfl
                      have kx2 : (x2.how == 2) = true := by rw [hw]; rfl
                      have ke0 : (x2.err != 20) = false := by rw [hr]; rfl
                      have w2n : wrap64 (2 * n) = 2 * n := by unfold wrap64; have := HNN.out; omega
                      have htt : tn2 = tn := by rcases HTN.out with ⟨_, h⟩ | ⟨h, _⟩; exact h; exact absurd hss h
                      have wsn : wrap64 (tn2 - sn) = tn2 - sn := by unfold wrap64; have := HT5.out; have := HSN.out; omega
                      have kdn : decide (tn2 - sn < n) = false := decide_eq_false (by omega)
                      have ksp : (x2.steps != 2 * n) = false := by rw [hp]; simp
                      clear hw hr hst hss hp hd htt
                      have eqa0 : (sa.mode == sa.mode) = true := by simp
                      have eqa1 : (sa.source == sa.source) = true := by simp
                      have eqa2 : (sa.hold == sa.hold) = true := by simp
                      have eqa3 : (sa.flags == sa.flags) = true := by simp
                      have eqa4 : (sa.epoch == sa.epoch) = true := by simp
                      have oq := (O_420.out.cell k).trans (qArr_cell q2 HK3.out).1
                      rw [HQ.out] at oq
                      simp only at oq
                      have nq := (N_420.out.cell k).trans (qArr_cell q2 HK3.out).2.2
                      rw [HQ.out] at nq
                      simp only at nq
                      have GZ := G_420.out
                      rw [HST.out] at GZ
                      simp only [St.zero] at GZ
                      have DZ := D_420.out
                      rw [HSS.out] at DZ
                      have Gq0 := (GZ).cell 0
                      have Gq1 := (GZ).cell 1
                      have Gq2 := (GZ).cell 2
                      have Gq3 := (GZ).cell 3
                      have Gq4 := (GZ).cell 4
                      simp only [List.getElem?_toArray, List.getElem?_cons_succ, List.getElem?_cons_zero] at Gq0 Gq1 Gq2 Gq3 Gq4
                      have Cq0 := (C_420.out).cell 0
                      have Cq1 := (C_420.out).cell 1
                      have Cq2 := (C_420.out).cell 2
                      have Cq3 := (C_420.out).cell 3
                      have Cq4 := (C_420.out).cell 4
                      simp only [List.getElem?_toArray, List.getElem?_cons_succ, List.getElem?_cons_zero] at Cq0 Cq1 Cq2 Cq3 Cq4
                      have Dq0 := (DZ).cell 0
                      have Dq1 := (DZ).cell 1
                      have Dq2 := (DZ).cell 2
                      have Dq3 := (DZ).cell 3
                      have Dq4 := (DZ).cell 4
                      simp only [List.getElem?_toArray, List.getElem?_cons_succ, List.getElem?_cons_zero] at Dq0 Dq1 Dq2 Dq3 Dq4
                      go_wp2_with fail
                      refine (At_not o b pp.kd 0 x2 w16 A_420.out (by rw [HW.out]; decide)).mono ?_; rintro e w_ ⟨rfl, rfl⟩
                      go_wp2_with fail
                      refine (Steps_any o b pp.kd 0 x2 w16 A_420.out).mono ?_; rintro e w_ ⟨rfl, rfl⟩
                      go_upto_region 16 with fail
                      clear Gq0 Gq1 Gq2 Gq3 Gq4 Cq0 Cq1 Cq2 Cq3 Cq4 Dq0 Dq1 Dq2 Dq3 Dq4
                      clear w2n wsn kdn ksp oq nq kx1 kx2 ke0 GZ DZ eqa0 eqa1 eqa2 eqa3 eqa4
                      go_wp2_with fail
                      exact ⟨⟨i + 1, updR q2 k ⟨(q2 k).a, (q2 k).o, (q2 k).b, x2, (q2 k).p, zd, (q2 k).sn⟩, sb, tn2, tt2, by have := HI.out; omega, rfl, by go_num, by have := HT.out; have := HTN.out; omega, by have := HT.out; have := HTN.out; omega, HSB.out.1, HSB.out.2, K_420.out, (by rw [SAME.out.1]; exact O_420.out), (by rw [SAME.out.2.2]; exact Q_420.out), V_420.out, (by rw [SAME.out.2.1]; exact N_420.out), T_420.out, L_420.out, ZZ9.out⟩, by have := HI.out; simp [intOf]; omega⟩
      · have kw : decide ((i : Int) < (ws.length : Int)) = false := decide_eq_false (by omega)
        go_wp2_with fail
        refine (awake_any wr T0.out).mono ?_; rintro e w2 ⟨rfl, hb⟩
        have ee : Ex (fun _ => False) wr w2 := Ex.of_below hb
        have K_701 := Lib.hid (K0.out.ex ee (fun h => h) (fun h => h))
        have O_701 := Lib.hid (O0.out.ex ee (fun h => h))
        have Q_701 := Lib.hid (Q0.out.ex ee (fun h => h))
        have V_701 := Lib.hid (V0.out.ex ee (fun h => h))
        have N_701 := Lib.hid (N0.out.ex ee (fun h => h))
        have T_701 := Lib.hid (T0.out.ex ee (fun h => h))
        have L_701 := Lib.hid (L0.out.ex ee (fun b_ h_ => h_.elim))
        have Z_701 := Lib.hid (Z0.out.ex ee (fun b_ h_ => h_.elim))
        clear ee K0 O0 Q0 V0 N0 T0 L0 Z0 hb
        go_wp2_with fail
        go_ret
        exact ⟨rfl, L_701.out.low.mono HBS.out⟩
    · have kd : decide ((i : Int) < (na : Int)) = false := decide_eq_false (by omega)
      go_wp2_with fail
      refine (awake_any wr T0.out).mono ?_; rintro e w2 ⟨rfl, hb⟩
      have ee : Ex (fun _ => False) wr w2 := Ex.of_below hb
      have K_801 := Lib.hid (K0.out.ex ee (fun h => h) (fun h => h))
      have O_801 := Lib.hid (O0.out.ex ee (fun h => h))
      have Q_801 := Lib.hid (Q0.out.ex ee (fun h => h))
      have V_801 := Lib.hid (V0.out.ex ee (fun h => h))
      have N_801 := Lib.hid (N0.out.ex ee (fun h => h))
      have T_801 := Lib.hid (T0.out.ex ee (fun h => h))
      have L_801 := Lib.hid (L0.out.ex ee (fun b_ h_ => h_.elim))
      have Z_801 := Lib.hid (Z0.out.ex ee (fun b_ h_ => h_.elim))
      clear ee K0 O0 Q0 V0 N0 T0 L0 Z0 hb
      go_wp2_with fail
      go_ret
      exact ⟨rfl, L_801.out.low.mono HBS.out⟩
theorem ArbiterRuns_walk (v0 : Value) (s : St) (n : Int) (hnb : -9223372036854775808 ≤ n ∧ n ≤ 9223372036854775807) (v2 : Value) (x : Value × Value × Nat × (Nat → Pl) × List Int) (w : World) (hs : s.Ok ∧ v0 = s.val) (h2 : PicksAt w v2 x.1 x.2.1 x.2.2.1 x.2.2.2.1 x.2.2.2.2) (ht : Tab w) :
    Calls Tryd.prog 7 #[v0, .int .i64 n, v2] w fun e w' => e = .returned (.bool true) ∧ Below w.heap.size w w' := by
  obtain ⟨hs, rfl⟩ := hs
  by_cases h0 : mayE s = 0
  · by_cases h1 : n < 1
    · exact Ru_bad1 s hs n hnb v2 x w h2 ht ⟨h0, h1⟩
    · by_cases h3 : 16 < n
      · exact Ru_bad2 s hs n hnb v2 x w h2 ht ⟨h0, h3⟩
      · by_cases h4 : 200 < x.2.2.1
        · exact Ru_bad3 s hs n hnb v2 x w h2 ht ⟨h0, by omega, by omega, h4⟩
        · exact Ru_good s hs n hnb v2 x w h2 ht ⟨h0, by omega, by omega, by omega⟩
  · exact Ru_bad0 s hs n hnb v2 x w h2 ht h0
end Go.Proofs.YtkmlikohgilnbaaDoor.Arb
