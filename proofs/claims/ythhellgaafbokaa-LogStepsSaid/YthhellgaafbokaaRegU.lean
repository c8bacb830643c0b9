/-
  Reg: the walk through Unpack. Conditions stand at each. By an AI agent.
-/
import Derived.Test.YthhellgaafbokaaRegW
import Derived.Deep.RegionHeld3
import Derived.Deep.RegionWith
import Derived.Deep.DrawnRows
import Derived.Deep.CutRange
namespace Go.Proofs.Ythhellgaafbokaa.Reg
set_option linter.unusedVariables false
set_option linter.unusedSimpArgs false
open Go Go.RowKit Go.Proofs.Ythhellgaafbokaa.Base Go.Proofs.Ythhellgaafbokaa.Modes Go.Deep
attribute [local go_sem ↓] Go.wp_at_zero Go.wp_at_succ

section
variable {w : World} {g k : Nat} {t u : TypeId} {cs : Array Value} {a b c d e x0 x1 x2 x3 x4 : Value}
theorem blk_new' (w : World) {g : Nat} (h : w.heap.size = g) (t : TypeId) (cs : Array Value) : Blk (w.alloc (.cells cs t)) g t cs := h ▸ Blk.new w t cs
theorem blk_set5 (h : Blk w g t #[a, b, c, d, e]) : Blk (((((w.setCell ⟨g, 0, none⟩ x0).setCell ⟨g, 1, none⟩ x1).setCell ⟨g, 2, none⟩ x2).setCell ⟨g, 3, none⟩ x3).setCell ⟨g, 4, none⟩ x4) g t #[x0, x1, x2, x3, x4] := by
  have := ((((h.set_ 0 x0).set_ 1 x1).set_ 2 x2).set_ 3 x3).set_ 4 x4
  simpa using this
theorem far_set5 (h : Blk w k u cs) (hne : k ≠ g) : Blk (((((w.setCell ⟨g, 0, none⟩ x0).setCell ⟨g, 1, none⟩ x1).setCell ⟨g, 2, none⟩ x2).setCell ⟨g, 3, none⟩ x3).setCell ⟨g, 4, none⟩ x4) k u cs :=
  ((((h.far (p := ⟨g, 0, none⟩) hne _).far (p := ⟨g, 1, none⟩) hne _).far (p := ⟨g, 2, none⟩) hne _).far (p := ⟨g, 3, none⟩) hne _).far (p := ⟨g, 4, none⟩) hne _
theorem below_set5 {B : Nat} {w0 : World} (h : Below B w0 w) (hg : B ≤ g) : Below B w0 (((((w.setCell ⟨g, 0, none⟩ x0).setCell ⟨g, 1, none⟩ x1).setCell ⟨g, 2, none⟩ x2).setCell ⟨g, 3, none⟩ x3).setCell ⟨g, 4, none⟩ x4) :=
  ((((h.setCell (p := ⟨g, 0, none⟩) hg _).setCell (p := ⟨g, 1, none⟩) hg _).setCell (p := ⟨g, 2, none⟩) hg _).setCell (p := ⟨g, 3, none⟩) hg _).setCell (p := ⟨g, 4, none⟩) hg _
end
theorem wraps_u64 (n : Int) (h₀ : 0 ≤ n) (h₁ : n < 2 ^ 64) : IntKind.u64.wrap n = n := by rw [IntKind.wrap_u64]; omega
theorem mask_u64 (i : Nat) (hi : i ≤ 64) (x : Int) (h₀ : 0 ≤ x) (h₁ : x ≤ 18446744073709551615) : bits .and .u64 x (2 ^ i - 1) = x % 2 ^ i := bits_mask .u64 64 (by decide) wraps_u64 i hi x h₀ (by omega)
set_option maxRecDepth 100000 in
set_option maxHeartbeats 4000000 in
theorem p03 (g : Nat) (x : Int) (hx : 0 ≤ x ∧ x ≤ 18446744073709551615) (w : World) (hc : w.cell? ⟨g, 0, none⟩ = some (.int .u64 x)) :
    Calls Try.prog 45 #[.int .i64 0, .int .i64 3, .pointer (some ⟨g, 0, none⟩)] w fun e w' => e = .returned (.int .i64 (x % 8)) ∧ ∃ n, w' = w.drewN n := by
  obtain ⟨h0, h1⟩ := hx
  have hm : wrap64 (bits .and .u64 x (2 ^ 3 - 1)) = x % 8 := by
    rw [mask_u64 3 (by decide) _ (by omega) (by omega)]
    unfold wrap64
    omega
  have HM := Lib.hid hm
  clear hm
  go_enter Try.func45, Try.ntmps45
  go_wp2_with fail
  go_quiet (fail)
  go_wp2_with fail
  go_ret
  exact ⟨congrArg (fun z => Ending.returned (.int .i64 z)) HM.out, _, rfl⟩
set_option maxRecDepth 100000 in
set_option maxHeartbeats 4000000 in
theorem p35 (g : Nat) (x : Int) (hx : 0 ≤ x ∧ x ≤ 18446744073709551615) (w : World) (hc : w.cell? ⟨g, 0, none⟩ = some (.int .u64 x)) :
    Calls Try.prog 45 #[.int .i64 3, .int .i64 5, .pointer (some ⟨g, 0, none⟩)] w fun e w' => e = .returned (.int .i64 (x / 8 % 4)) ∧ ∃ n, w' = w.drewN n := by
  obtain ⟨h0, h1⟩ := hx
  have hm : wrap64 (bits .and .u64 (x / 8) (2 ^ 2 - 1)) = x / 8 % 4 := by
    rw [mask_u64 2 (by decide) _ (by omega) (by omega)]
    unfold wrap64
    omega
  have HM := Lib.hid hm
  clear hm
  go_enter Try.func45, Try.ntmps45
  go_wp2_with fail
  go_quiet (fail)
  go_wp2_with fail
  go_ret
  exact ⟨congrArg (fun z => Ending.returned (.int .i64 z)) HM.out, _, rfl⟩
set_option maxRecDepth 100000 in
set_option maxHeartbeats 4000000 in
theorem p56 (g : Nat) (x : Int) (hx : 0 ≤ x ∧ x ≤ 18446744073709551615) (w : World) (hc : w.cell? ⟨g, 0, none⟩ = some (.int .u64 x)) :
    Calls Try.prog 45 #[.int .i64 5, .int .i64 6, .pointer (some ⟨g, 0, none⟩)] w fun e w' => e = .returned (.int .i64 (x / 32 % 2)) ∧ ∃ n, w' = w.drewN n := by
  obtain ⟨h0, h1⟩ := hx
  have hm : wrap64 (bits .and .u64 (x / 32) (2 ^ 1 - 1)) = x / 32 % 2 := by
    rw [mask_u64 1 (by decide) _ (by omega) (by omega)]
    unfold wrap64
    omega
  have HM := Lib.hid hm
  clear hm
  go_enter Try.func45, Try.ntmps45
  go_wp2_with fail
  go_quiet (fail)
  go_wp2_with fail
  go_ret
  exact ⟨congrArg (fun z => Ending.returned (.int .i64 z)) HM.out, _, rfl⟩
set_option maxRecDepth 100000 in
set_option maxHeartbeats 4000000 in
theorem p612 (g : Nat) (x : Int) (hx : 0 ≤ x ∧ x ≤ 18446744073709551615) (w : World) (hc : w.cell? ⟨g, 0, none⟩ = some (.int .u64 x)) :
    Calls Try.prog 45 #[.int .i64 6, .int .i64 12, .pointer (some ⟨g, 0, none⟩)] w fun e w' => e = .returned (.int .i64 (x / 64 % 64)) ∧ ∃ n, w' = w.drewN n := by
  obtain ⟨h0, h1⟩ := hx
  have hm : wrap64 (bits .and .u64 (x / 64) (2 ^ 6 - 1)) = x / 64 % 64 := by
    rw [mask_u64 6 (by decide) _ (by omega) (by omega)]
    unfold wrap64
    omega
  have HM := Lib.hid hm
  clear hm
  go_enter Try.func45, Try.ntmps45
  go_wp2_with fail
  go_quiet (fail)
  go_wp2_with fail
  go_ret
  exact ⟨congrArg (fun z => Ending.returned (.int .i64 z)) HM.out, _, rfl⟩

set_option maxRecDepth 100000 in
set_option maxHeartbeats 8000000 in
theorem Unpack_any (x : Int) (hx : 0 ≤ x ∧ x ≤ 18446744073709551615) (w : World) :
    Calls Try.prog 23 #[.int .u64 x] w fun e w' => e = .returned (.tuple #[(unS x).val, .int .i64 (unE x)]) ∧ Below w.heap.size w w' := by
  have HM := Lib.hid (may_any (partsOf x) (partsOf_ok hx))
  have HX := Lib.hid hx
  have c0 : ((w.alloc (.cells #[.int .u64 x] 25)).alloc (.cells #[.int .i64 0, .int .i64 0, .bool false, .int .i64 0, .int .u64 0] 28)).cell? ⟨w.heap.size, 0, none⟩ = some (.int .u64 x) := ((Blk.new w _ _).alloc _).cell 0
  obtain ⟨hx0, hx1⟩ := hx
  have n1 : ¬ w.heap.size = w.heap.size + 1 + 1 := by omega
  have n2 : ¬ w.heap.size + 1 + 1 = w.heap.size := by omega
  go_enter Try.func23, Try.ntmps23
  go_upto_region 2 with fail
  go_cut [5] from 7 to 18 (fun p wx => p = .pointer (some ⟨w.heap.size + 1 + 1, 0, none⟩) ∧ Blk wx (w.heap.size + 1 + 1) 28 #[.int .i64 (x % 8), .int .i64 (x / 8 % 4), .bool (x / 32 % 2 == 1), .int .i64 (x / 64 % 64), .int .u64 (x / 4096)] ∧ Blk wx (w.heap.size + 1) 28 #[.int .i64 0, .int .i64 0, .bool false, .int .i64 0, .int .u64 0] ∧ Below w.heap.size w wx)
  case first =>
    go_region_held3 (fun w' => w'.cell? ⟨w.heap.size, 0, none⟩ = some (.int .u64 x)) (go_keep) ((go_at_call 45; first
        | ((with_reducible refine (p03 _ x HX.out _ (by go_simp)).mono ?_); rintro e w' ⟨rfl, n, rfl⟩)
        | ((with_reducible refine (p35 _ x HX.out _ (by go_simp)).mono ?_); rintro e w' ⟨rfl, n, rfl⟩)
        | ((with_reducible refine (p56 _ x HX.out _ (by go_simp)).mono ?_); rintro e w' ⟨rfl, n, rfl⟩)
        | ((with_reducible refine (p612 _ x HX.out _ (by go_simp)).mono ?_); rintro e w' ⟨rfl, n, rfl⟩)))
    all_goals go_wp2_with fail
    all_goals go_meet
    all_goals refine ⟨rfl, ?_, ?_, ?_⟩
    all_goals first
      | ((with_reducible refine blk_set5 (a := .int .i64 0) (b := .int .i64 0) (c := .bool false) (d := .int .i64 0) (e := .int .u64 0) ?_); (try with_reducible refine Blk.drewN ?_ _); (with_reducible refine blk_new' _ ?_ _ _); simp; done)
      | ((with_reducible refine far_set5 ?_ ?_); rotate_left; omega; (try with_reducible refine Blk.drewN ?_ _); (with_reducible refine Blk.alloc ?_ _); (try with_reducible refine Blk.drewN ?_ _); (with_reducible refine blk_new' _ ?_ _ _); simp; done)
      | ((with_reducible refine below_set5 ?_ ?_); rotate_left; omega; (try with_reducible refine below_drewN ?_ _); (with_reducible refine Below.alloc ?_ ?_ _); rotate_left; simp; omega; (try with_reducible refine below_drewN ?_ _); exact ((Below.refl _ _).alloc (Nat.le_refl _) _).alloc (by simp) _)
      | ((with_reducible refine Below.alloc ?_ ?_ _); rotate_left; simp; omega; (try with_reducible refine below_drewN ?_ _); exact ((Below.refl _ _).alloc (Nat.le_refl _) _).alloc (by simp) _)
      | ((with_reducible refine blk_new' _ ?_ _ _); simp; done)
      | ((with_reducible refine Blk.alloc ?_ _); (try with_reducible refine Blk.drewN ?_ _); (with_reducible refine blk_new' _ ?_ _ _); simp; done)
  case rest =>
    obtain ⟨rfl, hp, hz, hb⟩ := hcut
    have hp : Blk wc (w.heap.size + 1 + 1) 28 #[.int .i64 (partsOf x).mode, .int .i64 (partsOf x).source, .bool (partsOf x).hold, .int .i64 (partsOf x).flags, .int .u64 (partsOf x).epoch] := hp
    have k0 := hp.cell 0
    have k1 := hp.cell 1
    have k2 := hp.cell 2
    have k3 := hp.cell 3
    have k4 := hp.cell 4
    simp only [List.getElem?_toArray, List.getElem?_cons_succ, List.getElem?_cons_zero] at k0 k1 k2 k3 k4
    unfold St.val at HM
    have HZ := Lib.hid hz
    have HP := Lib.hid hp
    have HB := Lib.hid hb
    clear hz hp hb c0 n1 n2 HX
    obtain ⟨P, hPP⟩ : ∃ P, P = partsOf x := ⟨_, rfl⟩
    have hUS : unS x = if mayE P = 0 then P else St.zero := by unfold unS; rw [← hPP]
    have hUE : unE x = if mayE P = 0 then 0 else 11 := by unfold unE; rw [← hPP]
    rw [← hPP] at HM k0 k1 k2 k3 k4 HP
    have HPP := Lib.hid hPP
    clear hPP
    by_cases hy : mayE P = 0
    · rw [hy] at HM
      rw [if_pos hy] at hUS hUE
      have HUS := Lib.hid hUS
      have HUE := Lib.hid hUE
      clear hy hUS hUE
      go_wp2_with fail
      refine (HM.out _).mono ?_; rintro e w3 ⟨rfl, hb3⟩
      have HZ3 := Lib.hid (HZ.out.bl hb3)
      have HB3 := Lib.hid (bl HB.out hb3)
      have hp3 := HP.out.bl hb3
      clear k0 k1 k2 k3 k4 hb3
      have k0 := hp3.cell 0
      have k1 := hp3.cell 1
      have k2 := hp3.cell 2
      have k3 := hp3.cell 3
      have k4 := hp3.cell 4
      have z0 := HZ3.out.cell 0
      have z1 := HZ3.out.cell 1
      have z2 := HZ3.out.cell 2
      have z3 := HZ3.out.cell 3
      have z4 := HZ3.out.cell 4
      have f0 := HZ3.out.frozen 0
      have f1 := HZ3.out.frozen 1
      have f2 := HZ3.out.frozen 2
      have f3 := HZ3.out.frozen 3
      have f4 := HZ3.out.frozen 4
      simp only [List.getElem?_toArray, List.getElem?_cons_succ, List.getElem?_cons_zero] at k0 k1 k2 k3 k4 z0 z1 z2 z3 z4
      have HP3 := Lib.hid hp3
      clear hp3
      go_wp2_with fail
      (try simp only [Exit.inBlock, Exit.then])
      refine bodyPost_ret (v := .tuple #[.agg #[.int .i64 P.mode, .int .i64 P.source, .bool P.hold, .int .i64 P.flags, .int .u64 P.epoch], .int .i64 0]) ?_ rfl ⟨by rw [HUS.out, HUE.out]; rfl, below_set5 HB3.out (by omega)⟩
      rw [results_cell_tmp rfl]; go_simp
    · rw [if_neg hy] at hUS hUE
      have HUS := Lib.hid hUS
      have HUE := Lib.hid hUE
      have hy1 : (mayE P != 0) = true := by simpa using hy
      generalize mayE P = er at *
      clear hy hUS hUE
      go_wp2_with fail
      refine (HM.out _).mono ?_; rintro e w3 ⟨rfl, hb3⟩
      have HZ3 := Lib.hid (HZ.out.bl hb3)
      have HB3 := Lib.hid (bl HB.out hb3)
      have hp3 := HP.out.bl hb3
      clear k0 k1 k2 k3 k4 hb3
      have k0 := hp3.cell 0
      have k1 := hp3.cell 1
      have k2 := hp3.cell 2
      have k3 := hp3.cell 3
      have k4 := hp3.cell 4
      have z0 := HZ3.out.cell 0
      have z1 := HZ3.out.cell 1
      have z2 := HZ3.out.cell 2
      have z3 := HZ3.out.cell 3
      have z4 := HZ3.out.cell 4
      have f0 := HZ3.out.frozen 0
      have f1 := HZ3.out.frozen 1
      have f2 := HZ3.out.frozen 2
      have f3 := HZ3.out.frozen 3
      have f4 := HZ3.out.frozen 4
      simp only [List.getElem?_toArray, List.getElem?_cons_succ, List.getElem?_cons_zero] at k0 k1 k2 k3 k4 z0 z1 z2 z3 z4
      have HP3 := Lib.hid hp3
      clear hp3
      go_wp2_with fail
      (try simp only [Exit.inBlock, Exit.then])
      refine bodyPost_ret (v := .tuple #[.agg #[.int .i64 0, .int .i64 0, .bool false, .int .i64 0, .int .u64 0], .int .i64 11]) ?_ rfl ⟨by rw [HUS.out, HUE.out]; rfl, below_set5 HB3.out (by omega)⟩
      rw [results_cell_tmp rfl]; go_simp
end Go.Proofs.Ythhellgaafbokaa.Reg
