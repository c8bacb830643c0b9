/-
  Law 10: place. Conditions stand at each. By an AI agent.
-/
import Derived.Test.YtjdalllfnlpmnaaSnN
namespace Go.Proofs.Ytjdalllfnlpmnaa.Bank
set_option linter.unusedVariables false
set_option linter.unusedSimpArgs false
open Go Go.RowKit Go.Proofs.Ytjdalllfnlpmnaa.Base Go.Deep Go.ChangeShapes Go.WideShapes
theorem widthF_step {l : Nat → Spot} {n : Nat} (h : allR l n = true) {i : Nat} (hi : i < n) : widthF l i + 1 ≤ widthF l (i + 1) ∧ widthF l (i + 1) = widthF l i + (l i).words ∧ (l i).words ≤ 64 := by
  have := ((allR_iff l n).mp h i hi).1
  exact ⟨by show _ ≤ widthF l i + (l i).words; omega, rfl, this.2⟩
theorem widthF_mono {l : Nat → Spot} {n : Nat} (h : allR l n = true) {i j : Nat} (hij : i ≤ j) (hj : j ≤ n) : widthF l i ≤ widthF l j := by
  induction j with
  | zero => rw [show i = 0 by omega]; exact Int.le_refl _
  | succ k ih =>
    by_cases e : i = k + 1
    · subst e; exact Int.le_refl _
    · have := ih (by omega) (by omega)
      have := widthF_step h (i := k) (by omega)
      omega
/-- whose the q-th word is -/
def findT (l : Nat → Spot) : Nat → Int → Nat
  | 0, _ => 0
  | k + 1, q => if widthF l k ≤ q then k else findT l k q
theorem findT_in {l : Nat → Spot} {n : Nat} {q : Int} (h0 : 0 ≤ q) (h1 : q < widthF l n) : findT l n q < n ∧ widthF l (findT l n q) ≤ q ∧ q < widthF l (findT l n q + 1) := by
  induction n with
  | zero => exact absurd h1 (by show ¬ q < 0; omega)
  | succ k ih =>
    unfold findT
    by_cases h : widthF l k ≤ q
    · rw [if_pos h]; exact ⟨by omega, h, h1⟩
    · rw [if_neg h]
      have := ih (by omega)
      exact ⟨by omega, this.2⟩
def sPlace (l : Nat → Spot) (gl : List Int) (n : Nat) (q : Int) : Int := atF (l (findT l n q)) (nth gl (findT l n q)) + (q - widthF l (findT l n q))
theorem SpsIn.five {w : World} {r n : Nat} {l : Nat → Spot} (h : SpsIn w r n l) {i : Nat} (hi : i < n) :
    w.cell? ⟨r, i * 5, none⟩ = some (.int .i64 (l i).owners) ∧ w.cell? ⟨r, i * 5 + 1, none⟩ = some (.int .i64 (l i).seq) ∧ w.cell? ⟨r, i * 5 + 2, none⟩ = some (.int .i64 (l i).first) ∧ w.cell? ⟨r, i * 5 + 3, none⟩ = some (.int .i64 (l i).words) ∧ w.cell? ⟨r, i * 5 + 4, none⟩ = some (.int .i64 (l i).depth) :=
  ⟨h.cells i hi 0 (by decide), h.cells i hi 1 (by decide), h.cells i hi 2 (by decide), h.cells i hi 3 (by decide), h.cells i hi 4 (by decide)⟩
theorem down_num {l : Nat → Spot} {n j : Nat} {q : Int} (h : allR l n = true) (hn : n ≤ 64) (hj : j < n) (h0 : 0 ≤ q) (h1 : q ≤ 4096) : Value.int .i64 (wrap64 (q - widthF l j - (l j).words)) = .int .i64 (q - widthF l (j + 1)) := by
  have b := widthF_bounds h j (by omega)
  have r := widthF_step h hj
  rw [wrap64_in _ (by omega)]
  congr 1
  show _ = q - (widthF l j + (l j).words)
  omega
theorem SnAt.bl {w w' : World} {o rs cs rg rw n m : Nat} {l : Nat → Spot} {tries done begun steps how : Int} {gl wl : List Int} (h : SnAt w o rs cs rg rw n m l tries done begun steps how gl wl) (hb : Below w.heap.size w w') :
    SnAt w' o rs cs rg rw n m l tries done begun steps how gl wl :=
  ⟨h.box.bl hb, h.spots.bl hb, h.gens.bl hb, h.glen, h.words.bl hb, h.wlen, h.apart⟩
set_option maxRecDepth 100000 in
set_option maxHeartbeats 8000000 in
theorem place_any (o rs cs rg rw n m : Nat) (l : Nat → Spot) (tries done begun steps how : Int) (gl wl : List Int) (q : Int) (w : World) (h : SnAt w o rs cs rg rw n m l tries done begun steps how gl wl)
    (hr : allR l n = true) (h64 : n ≤ 64) (hg : ∀ x ∈ gl, 0 ≤ x ∧ x ≤ 18446744073709551615) (h0 : 0 ≤ q) (h1 : q < widthF l n) :
    Calls Try.prog 39 #[.pointer (some ⟨o, 0, none⟩), .int .i64 q] w fun e w' => e = .returned (.int .i64 (sPlace l gl n q)) ∧ Below w.heap.size w w' := by
  unfold sPlace
  obtain ⟨hi, hlo, hup⟩ := findT_in h0 h1
  generalize findT l n q = i at *
  have HB := Lib.hid h
  have HR := Lib.hid hr
  have H64 := Lib.hid h64
  have HG := Lib.hid hg
  have H0 := Lib.hid h0
  have HI := Lib.hid hi
  have HLO := Lib.hid hlo
  have HUP := Lib.hid hup
  have H4 := Lib.hid (show q ≤ 4096 by have := widthF_bounds hr n (Nat.le_refl _); omega)
  have b0 := h.box.cell 0
  simp only [List.getElem?_toArray, List.getElem?_cons_zero, List.getElem?_cons_succ] at b0
  clear h hr h64 hg h0 h1 hi hlo hup
  go_enter Try.func39, Try.ntmps39
  go_wp2_with fail
  clear b0
  go_loopw [1, 5, 6, 12] (fun s1 s5 s6 s12 wr => ∃ j : Nat, j ≤ i ∧ s12 = .int .i64 j ∧ s1 = .int .i64 (q - widthF l j) ∧ Below w.heap.size w wr) (fun s1 s5 s6 s12 _ => n - (intOf s12).toNat)
  case atStart => exact ⟨0, by omega, rfl, by show _ = Value.int .i64 (q - 0); rw [Int.sub_zero], Below.refl _ _⟩
  case round =>
    obtain ⟨j, hj, rfl, rfl, hl⟩ := hrel
    have L0 := Lib.hid hl
    have HJ := Lib.hid hj
    clear hl hj
    have HJN := Lib.hid (show j < n by have := HJ.out; have := HI.out; omega)
    have kd : decide ((j : Int) < (n : Int)) = true := decide_eq_true (by have := HJN.out; omega)
    have kj0 : (0 : Int) ≤ (j : Int) := by omega
    have kj1 : (j : Int) < (n : Int) := by have := HJN.out; omega
    have A0 := Lib.hid (HB.out.bl L0.out)
    obtain ⟨c0, c1, c2, c3, c4⟩ := A0.out.spots.five HJN.out
    have HQ := Lib.hid (turn_no j n HJN.out (by have := H64.out; unfold maxLen; omega))
    have L1 := Lib.hid (L0.out.alloc L0.out.size (.cells #[.int .i64 (l j).owners, .int .i64 (l j).seq, .int .i64 (l j).first, .int .i64 (l j).words, .int .i64 (l j).depth] 65))
    by_cases hji : j = i
    · subst hji
      have kw : decide (q - widthF l j < (l j).words) = true := decide_eq_true (by have := widthF_step HR.out HJN.out; have := HUP.out; omega)
      have HAT := Lib.hid (fun W => At_any (l j) (nth gl j) W (HG.out _ (nth_mem (by rw [HB.out.glen]; exact HJN.out))) ((allR_iff l n).mp HR.out j HJN.out).atOk)
      have HAB := Lib.hid (atF_bounds (gen := nth gl j) ((allR_iff l n).mp HR.out j HJN.out).atOk)
      have HAF := Lib.hid (atF_ok (gen := nth gl j) ((allR_iff l n).mp HR.out j HJN.out).atOk)
      have HFI := Lib.hid ((allR_iff l n).mp HR.out j HJN.out).2.2.2.2
      unfold Spot.val at HAT
      go_upto_region 5 with fail
      have B0 := Blk.new wr 65 #[.int .i64 (l j).owners, .int .i64 (l j).seq, .int .i64 (l j).first, .int .i64 (l j).words, .int .i64 (l j).depth]
      have hb := (Below.refl wr.heap.size wr).alloc (Nat.le_refl _) (.cells #[.int .i64 (l j).owners, .int .i64 (l j).seq, .int .i64 (l j).first, .int .i64 (l j).words, .int .i64 (l j).depth] 65)
      obtain ⟨sb, hsb⟩ : ∃ sb, wr.heap.size = sb := ⟨_, rfl⟩
      have A1 := Lib.hid (A0.out.bl hb)
      simp only [hsb] at B0 ⊢
      generalize wr.alloc (.cells #[.int .i64 (l j).owners, .int .i64 (l j).seq, .int .i64 (l j).first, .int .i64 (l j).words, .int .i64 (l j).depth] 65) = w7 at *
      have BS := Lib.hid B0
      clear B0 hb hsb c0 c1 c2 c3 c4
      have hne : Nonempty (Held (Below w7.heap.size w7)) := ⟨⟨w7, Below.refl _ _⟩⟩
      have s0 : ∀ x : Held (Below w7.heap.size w7), x.w.cell? ⟨sb, 0, none⟩ = some (.int .i64 (l j).owners) := fun x => (BS.out.bl x.ok).cell 0
      have s1 : ∀ x : Held (Below w7.heap.size w7), x.w.cell? ⟨sb, 1, none⟩ = some (.int .i64 (l j).seq) := fun x => (BS.out.bl x.ok).cell 1
      have s2 : ∀ x : Held (Below w7.heap.size w7), x.w.cell? ⟨sb, 2, none⟩ = some (.int .i64 (l j).first) := fun x => (BS.out.bl x.ok).cell 2
      have s3 : ∀ x : Held (Below w7.heap.size w7), x.w.cell? ⟨sb, 3, none⟩ = some (.int .i64 (l j).words) := fun x => (BS.out.bl x.ok).cell 3
      have s4 : ∀ x : Held (Below w7.heap.size w7), x.w.cell? ⟨sb, 4, none⟩ = some (.int .i64 (l j).depth) := fun x => (BS.out.bl x.ok).cell 4
      have p0 : ∀ x : Held (Below w7.heap.size w7), x.w.cell? ⟨o, 0, none⟩ = some (.slice (some ⟨rs, 0, none⟩) n cs) := fun x => (A1.out.box.bl x.ok).cell 0
      have p3 : ∀ x : Held (Below w7.heap.size w7), x.w.cell? ⟨o, 3, none⟩ = some (.slice (some ⟨rg, 0, none⟩) n n) := fun x => (A1.out.box.bl x.ok).cell 3
      have g0 : ∀ x : Held (Below w7.heap.size w7), x.w.cell? ⟨rg, j, none⟩ = some (.int .u64 (nth gl j)) := fun x => (A1.out.gens.bl x.ok).word (by rw [HB.out.glen]; exact HJN.out)
      refine drawn_bars (S := Below w7.heap.size w7) [([0, 1, 2, 3, 4, 5, 6, 7, 9], 8)] [10, 11] (by kernel_rfl) (by kernel_rfl) (by kernel_rfl) rfl (Below.refl _ _).drew ?_
      refine Phased.go ?_
      simp only [pick, List.map_cons, List.map_nil, List.getElem?_cons_zero, List.getElem?_cons_succ, Option.getD_some]
      repeat (go_big_quiet_step (fail))
      refine wpQuiet_nil ?_
      go_wp2_with fail
      refine (HAT.out _).mono ?_; rintro e w8 ⟨rfl, hl4⟩
      have hl5 := bl ((Below.refl w7.heap.size w7).drew) hl4
      go_wp2_with fail
      refine behind_normal ⟨Below w7.heap.size w7, fun W h => h, hl5, ?_⟩
      refine Phased.end_ ?_
      have hne4 : Nonempty (Held (fun W => W = w8)) := ⟨⟨_, rfl⟩⟩
      simp only [pick, List.map_cons, List.map_nil, List.getElem?_cons_zero, List.getElem?_cons_succ, Option.getD_some]
      repeat (go_big_quiet_step (fail))
      refine wpQuiet_nil ?_
      have L8 := Lib.hid (bl L1.out hl5)
      clear hne4 hne s0 s1 s2 s3 s4 p0 p3 g0 hl4 hl5
      have hwr : wrap64 (atF (l j) (nth gl j) + (q - widthF l j)) = atF (l j) (nth gl j) + (q - widthF l j) := wrap64_in _ (by
        have := HAB.out; have := HFI.out; have := HLO.out; have := H4.out
        have := widthF_bounds HR.out j (by have := HJN.out; omega)
        rw [HAF.out]; omega)
      go_wp2_with fail
      go_ret
      exact ⟨congrArg (fun z => Ending.returned (Value.int .i64 z)) hwr, L8.out⟩
    · have HNW := Lib.hid (down_num HR.out H64.out HJN.out H0.out H4.out)
      have kw : decide (q - widthF l j < (l j).words) = false := decide_eq_false (by have := widthF_step HR.out HJN.out; have := widthF_mono HR.out (i := j + 1) (j := i) (by have := HJ.out; omega) (by have := HI.out; omega); have := HLO.out; omega)
      go_wp2_with fail
      go_roundw
      case rel => exact ⟨j + 1, by have := HJ.out; omega, HQ.out.1, HNW.out, L1.out⟩
      case measure => exact HQ.out.2
end Go.Proofs.Ytjdalllfnlpmnaa.Bank
