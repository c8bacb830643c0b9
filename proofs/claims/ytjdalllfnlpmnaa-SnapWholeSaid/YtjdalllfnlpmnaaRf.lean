/-
  The document's answers: which spots are right, and where a place begins. Printed by wip/tools/mkrf.py. No condition. By an AI agent.
-/
import Derived.Test.YtjdalllfnlpmnaaWrA
import Derived.Deep.CutRange
namespace Go.Proofs.Ytjdalllfnlpmnaa.Bank
set_option linter.unusedVariables false
set_option linter.unusedSimpArgs false
open Go Go.RowKit Go.Proofs.Ytjdalllfnlpmnaa.Base

theorem rRight_any (s : Spot) (w : World) :
    Calls Try.prog 57 #[s.val] w fun e w' => e = .returned (.bool (decide s.Right)) ∧ Below w.heap.size w w' := by
  obtain ⟨ow, sq, fi, wo, de⟩ := s
  have B0 := Lib.hid (Blk.new w 95 #[.int .i64 ow, .int .i64 sq, .int .i64 fi, .int .i64 wo, .int .i64 de])
  have L0 := Lib.hid ((Below.refl w.heap.size w).alloc (Nat.le_refl _) (.cells #[.int .i64 ow, .int .i64 sq, .int .i64 fi, .int .i64 wo, .int .i64 de] 95))
  unfold Spot.val
  simp only
  obtain ⟨bd, hbd⟩ : ∃ bd, decide (Spot.Right ⟨ow, sq, fi, wo, de⟩) = bd := ⟨_, rfl⟩
  rw [hbd]
  have HBT := Lib.hid (fun h : Spot.Right ⟨ow, sq, fi, wo, de⟩ => show bd = true by rw [← hbd]; exact decide_eq_true h)
  have HBF := Lib.hid (fun h : ¬ Spot.Right ⟨ow, sq, fi, wo, de⟩ => show bd = false by rw [← hbd]; exact decide_eq_false h)
  clear hbd
  unfold Spot.Right at HBT HBF
  simp only at HBT HBF
  by_cases h0 : wo ≥ 1
  case neg =>
    have hb9 : bd = false := HBF.out (fun h => by omega)
    subst hb9
    have k0 : decide (wo ≥ 1) = false := decide_eq_false h0
    clear HBT HBF h0
    go_enter Try.func57, Try.ntmps57
    go_wp2_with fail
    go_ret
    exact ⟨rfl, L0.out⟩
  by_cases h1 : wo ≤ 64
  case neg =>
    have hb9 : bd = false := HBF.out (fun h => by omega)
    subst hb9
    have k0 : decide (wo ≥ 1) = true := decide_eq_true h0
    have k1 : decide (wo ≤ 64) = false := decide_eq_false h1
    clear HBT HBF h0 h1
    go_enter Try.func57, Try.ntmps57
    go_wp2_with fail
    go_ret
    exact ⟨rfl, L0.out⟩
  by_cases h2 : de ≥ 2
  case neg =>
    have hb9 : bd = false := HBF.out (fun h => by omega)
    subst hb9
    have k0 : decide (wo ≥ 1) = true := decide_eq_true h0
    have k1 : decide (wo ≤ 64) = true := decide_eq_true h1
    have k2 : decide (de ≥ 2) = false := decide_eq_false h2
    clear HBT HBF h0 h1 h2
    go_enter Try.func57, Try.ntmps57
    go_wp2_with fail
    go_ret
    exact ⟨rfl, L0.out⟩
  by_cases h3 : de ≤ 16
  case neg =>
    have hb9 : bd = false := HBF.out (fun h => by omega)
    subst hb9
    have k0 : decide (wo ≥ 1) = true := decide_eq_true h0
    have k1 : decide (wo ≤ 64) = true := decide_eq_true h1
    have k2 : decide (de ≥ 2) = true := decide_eq_true h2
    have k3 : decide (de ≤ 16) = false := decide_eq_false h3
    clear HBT HBF h0 h1 h2 h3
    go_enter Try.func57, Try.ntmps57
    go_wp2_with fail
    go_ret
    exact ⟨rfl, L0.out⟩
  by_cases h4 : ow ≥ 0
  case neg =>
    have hb9 : bd = false := HBF.out (fun h => by omega)
    subst hb9
    have k0 : decide (wo ≥ 1) = true := decide_eq_true h0
    have k1 : decide (wo ≤ 64) = true := decide_eq_true h1
    have k2 : decide (de ≥ 2) = true := decide_eq_true h2
    have k3 : decide (de ≤ 16) = true := decide_eq_true h3
    have k4 : decide (ow ≥ 0) = false := decide_eq_false h4
    clear HBT HBF h0 h1 h2 h3 h4
    go_enter Try.func57, Try.ntmps57
    go_wp2_with fail
    go_ret
    exact ⟨rfl, L0.out⟩
  by_cases h5 : ow ≤ 1048576
  case neg =>
    have hb9 : bd = false := HBF.out (fun h => by omega)
    subst hb9
    have k0 : decide (wo ≥ 1) = true := decide_eq_true h0
    have k1 : decide (wo ≤ 64) = true := decide_eq_true h1
    have k2 : decide (de ≥ 2) = true := decide_eq_true h2
    have k3 : decide (de ≤ 16) = true := decide_eq_true h3
    have k4 : decide (ow ≥ 0) = true := decide_eq_true h4
    have k5 : decide (ow ≤ 1048576) = false := decide_eq_false h5
    clear HBT HBF h0 h1 h2 h3 h4 h5
    go_enter Try.func57, Try.ntmps57
    go_wp2_with fail
    go_ret
    exact ⟨rfl, L0.out⟩
  by_cases h6 : sq ≥ 0
  case neg =>
    have hb9 : bd = false := HBF.out (fun h => by omega)
    subst hb9
    have k0 : decide (wo ≥ 1) = true := decide_eq_true h0
    have k1 : decide (wo ≤ 64) = true := decide_eq_true h1
    have k2 : decide (de ≥ 2) = true := decide_eq_true h2
    have k3 : decide (de ≤ 16) = true := decide_eq_true h3
    have k4 : decide (ow ≥ 0) = true := decide_eq_true h4
    have k5 : decide (ow ≤ 1048576) = true := decide_eq_true h5
    have k6 : decide (sq ≥ 0) = false := decide_eq_false h6
    clear HBT HBF h0 h1 h2 h3 h4 h5 h6
    go_enter Try.func57, Try.ntmps57
    go_wp2_with fail
    go_ret
    exact ⟨rfl, L0.out⟩
  by_cases h7 : sq ≤ 1048576
  case neg =>
    have hb9 : bd = false := HBF.out (fun h => by omega)
    subst hb9
    have k0 : decide (wo ≥ 1) = true := decide_eq_true h0
    have k1 : decide (wo ≤ 64) = true := decide_eq_true h1
    have k2 : decide (de ≥ 2) = true := decide_eq_true h2
    have k3 : decide (de ≤ 16) = true := decide_eq_true h3
    have k4 : decide (ow ≥ 0) = true := decide_eq_true h4
    have k5 : decide (ow ≤ 1048576) = true := decide_eq_true h5
    have k6 : decide (sq ≥ 0) = true := decide_eq_true h6
    have k7 : decide (sq ≤ 1048576) = false := decide_eq_false h7
    clear HBT HBF h0 h1 h2 h3 h4 h5 h6 h7
    go_enter Try.func57, Try.ntmps57
    go_wp2_with fail
    go_ret
    exact ⟨rfl, L0.out⟩
  by_cases h8 : fi ≥ 0
  case neg =>
    have hb9 : bd = false := HBF.out (fun h => by omega)
    subst hb9
    have k0 : decide (wo ≥ 1) = true := decide_eq_true h0
    have k1 : decide (wo ≤ 64) = true := decide_eq_true h1
    have k2 : decide (de ≥ 2) = true := decide_eq_true h2
    have k3 : decide (de ≤ 16) = true := decide_eq_true h3
    have k4 : decide (ow ≥ 0) = true := decide_eq_true h4
    have k5 : decide (ow ≤ 1048576) = true := decide_eq_true h5
    have k6 : decide (sq ≥ 0) = true := decide_eq_true h6
    have k7 : decide (sq ≤ 1048576) = true := decide_eq_true h7
    have k8 : decide (fi ≥ 0) = false := decide_eq_false h8
    clear HBT HBF h0 h1 h2 h3 h4 h5 h6 h7 h8
    go_enter Try.func57, Try.ntmps57
    go_wp2_with fail
    go_ret
    exact ⟨rfl, L0.out⟩
  by_cases h9 : fi ≤ 1048576
  case neg =>
    have hb9 : bd = false := HBF.out (fun h => by omega)
    subst hb9
    have k0 : decide (wo ≥ 1) = true := decide_eq_true h0
    have k1 : decide (wo ≤ 64) = true := decide_eq_true h1
    have k2 : decide (de ≥ 2) = true := decide_eq_true h2
    have k3 : decide (de ≤ 16) = true := decide_eq_true h3
    have k4 : decide (ow ≥ 0) = true := decide_eq_true h4
    have k5 : decide (ow ≤ 1048576) = true := decide_eq_true h5
    have k6 : decide (sq ≥ 0) = true := decide_eq_true h6
    have k7 : decide (sq ≤ 1048576) = true := decide_eq_true h7
    have k8 : decide (fi ≥ 0) = true := decide_eq_true h8
    have k9 : decide (fi ≤ 1048576) = false := decide_eq_false h9
    clear HBT HBF h0 h1 h2 h3 h4 h5 h6 h7 h8 h9
    go_enter Try.func57, Try.ntmps57
    go_wp2_with fail
    go_ret
    exact ⟨rfl, L0.out⟩
  have hb9 : bd = true := HBT.out (by omega)
  subst hb9
  have k0 : decide (wo ≥ 1) = true := decide_eq_true h0
  have k1 : decide (wo ≤ 64) = true := decide_eq_true h1
  have k2 : decide (de ≥ 2) = true := decide_eq_true h2
  have k3 : decide (de ≤ 16) = true := decide_eq_true h3
  have k4 : decide (ow ≥ 0) = true := decide_eq_true h4
  have k5 : decide (ow ≤ 1048576) = true := decide_eq_true h5
  have k6 : decide (sq ≥ 0) = true := decide_eq_true h6
  have k7 : decide (sq ≤ 1048576) = true := decide_eq_true h7
  have k8 : decide (fi ≥ 0) = true := decide_eq_true h8
  have k9 : decide (fi ≤ 1048576) = true := decide_eq_true h9
  clear HBT HBF h0 h1 h2 h3 h4 h5 h6 h7 h8 h9
  go_enter Try.func57, Try.ntmps57
  go_wp2_with fail
  go_ret
  exact ⟨rfl, L0.out⟩
set_option maxHeartbeats 2000000 in
theorem rAt_any (s : Spot) (gen : Int) (w : World) (hg : 0 ≤ gen ∧ gen ≤ 18446744073709551615) (h : s.AtOk) :
    Calls Try.prog 38 #[s.val, .int .u64 gen] w fun e w' => e = .returned (.int .i64 (atF s gen)) ∧ Below w.heap.size w w' := by
  rw [atF_ok h]
  have hb := atF_bounds (gen := gen) h
  obtain ⟨ow, sq, fi, wo, de⟩ := s
  unfold Spot.val
  simp only at h hb ⊢
  have he : wrap64 (fi + wrap64 (wo * wrap64 (gen.tmod de))) = fi + gen % de * wo := by
    obtain ⟨⟨h1, h2⟩, ⟨h3, h4⟩, h5, h6⟩ := h
    simp only at h1 h2 h3 h4 h5 h6
    rw [Int.tmod_eq_emod_of_nonneg hg.1, wrap64_in (gen % de) (by omega), Int.mul_comm wo, wrap64_in (gen % de * wo) (by omega), wrap64_in _ (by omega)]
  have HE := Lib.hid he
  clear he
  have hw1 : IntKind.u64.wrap de = de := u64_wrap_in (by have h3 := h.2.1; simp only at h3; omega)
  have hde : ¬ de = 0 := by have h3 := h.2.1; simp only at h3; omega
  have h' : (1 ≤ wo ∧ wo ≤ 64) ∧ (1 ≤ de ∧ de ≤ 16) ∧ (0 ≤ fi ∧ fi ≤ 1048576) := h
  have k1 : decide (wo < 1) = false := decide_eq_false (by omega)
  have k2 : decide (wo > 64) = false := decide_eq_false (by omega)
  have k3 : decide (de < 1) = false := decide_eq_false (by omega)
  have k4 : decide (de > 16) = false := decide_eq_false (by omega)
  have k5 : decide (fi < 0) = false := decide_eq_false (by omega)
  have k6 : decide (fi > 1048576) = false := decide_eq_false (by omega)
  have B0 := Lib.hid (Blk.new w 95 #[.int .i64 ow, .int .i64 sq, .int .i64 fi, .int .i64 wo, .int .i64 de])
  have L0 := Lib.hid ((Below.refl w.heap.size w).alloc (Nat.le_refl _) (.cells #[.int .i64 ow, .int .i64 sq, .int .i64 fi, .int .i64 wo, .int .i64 de] 95))
  clear h hb h' hg
  go_enter Try.func38, Try.ntmps38
  go_upto_region 3 with fail
  generalize hw1w : w.alloc (.cells #[.int .i64 ow, .int .i64 sq, .int .i64 fi, .int .i64 wo, .int .i64 de] 95) = w1 at *
  have hne : Nonempty (Held (fun W => W = w1.drew)) := ⟨⟨_, rfl⟩⟩
  have s2 : ∀ x : Held (fun W => W = w1.drew), x.w.cell? ⟨w.heap.size, 2, none⟩ = some (.int .i64 fi) := fun x => by rw [x.ok]; exact B0.out.cell 2
  have s3 : ∀ x : Held (fun W => W = w1.drew), x.w.cell? ⟨w.heap.size, 3, none⟩ = some (.int .i64 wo) := fun x => by rw [x.ok]; exact B0.out.cell 3
  have s4 : ∀ x : Held (fun W => W = w1.drew), x.w.cell? ⟨w.heap.size, 4, none⟩ = some (.int .i64 de) := fun x => by rw [x.ok]; exact B0.out.cell 4
  refine drawn_bars (S := fun _ => True) [] [0, 1, 2, 3, 4, 5, 6, 7, 8, 9, 10, 11, 12] (by kernel_rfl) (by kernel_rfl) (by kernel_rfl) rfl trivial ?_
  refine Phased.end_ ?_
  simp only [pick, List.map_cons, List.map_nil, List.getElem?_cons_zero, List.getElem?_cons_succ, Option.getD_some]
  repeat (go_big_quiet_step (fail))
  refine wpQuiet_nil ?_
  clear hne s2 s3 s4 hw1w
  have L1 := Lib.hid L0.out.drew
  generalize w1.drew = w2 at *
  go_wp2_with fail
  go_ret
  exact ⟨congrArg (fun z => Ending.returned (.int .i64 z)) HE.out, L1.out⟩
end Go.Proofs.Ytjdalllfnlpmnaa.Bank
