/-
  Law 12: two rows of words, compared. Conditions stand at each. By an AI agent.
-/
import Derived.Test.YthcaagkgddeabaaPoN
import Derived.BigQuiet
import Derived.Deep.CutRange
namespace Go.Proofs.Ythcaagkgddeabaa.Bank
set_option linter.unusedVariables false
set_option linter.unusedSimpArgs false
open Go Go.RowKit Go.Proofs.Ythcaagkgddeabaa.Base
theorem eq_of_nth {xs ys : List Int} (hl : xs.length = ys.length) (h : ∀ i, i < xs.length → nth xs i = nth ys i) : xs = ys := by
  refine List.ext_getElem hl fun i h1 h2 => ?_
  have := h i h1
  simpa [nth, List.getD_eq_getElem?_getD, List.getElem?_eq_getElem h1, List.getElem?_eq_getElem h2] using this
set_option maxHeartbeats 2000000 in
theorem same_any (v1 v2 : Value) (xs ys : List Int) (w : World) (h1 : Ints w .u64 v1 xs) (h2 : Ints w .u64 v2 ys) (hs : xs.length ≤ 1000) :
    Calls Try.prog 18 #[v1, v2] w fun e w' => e = .returned (.bool (decide (xs = ys))) ∧ Below w.heap.size w w' := by
  obtain ⟨A1, c1, rfl, -, hf1⟩ := h1.form
  obtain ⟨A2, c2, rfl, -, hf2⟩ := h2.form
  have HF1 := Lib.hid hf1
  have HF2 := Lib.hid hf2
  clear h1 h2 hf1 hf2
  by_cases hl : xs.length = ys.length
  · have HE := Lib.hid (fun h : ∀ i, i < xs.length → nth xs i = nth ys i => eq_of_nth hl h)
    have HNE := Lib.hid (fun i (h : nth xs i ≠ nth ys i) => show ¬ xs = ys from fun e => h (by rw [e]))
    have HLY := Lib.hid hl
    have ho : ((xs.length : Int) != (ys.length : Int)) = false := by rw [hl]; simp
    obtain ⟨dd, hdd⟩ : ∃ dd, decide (xs = ys) = dd := ⟨_, rfl⟩
    rw [hdd]
    have HDT := Lib.hid (fun h : xs = ys => show dd = true by rw [← hdd]; exact decide_eq_true h)
    have HDF := Lib.hid (fun h : ¬ xs = ys => show dd = false by rw [← hdd]; exact decide_eq_false h)
    clear hdd hl
    generalize hn : xs.length = n at *
    generalize hm : ys.length = m at *
    have HLM := Lib.hid hm
    have HN := Lib.hid hn
    clear hn hm
    go_enter Try.func18, Try.ntmps18
    go_wp2_with fail
    obtain ⟨w0, rfl⟩ : ∃ w0 : World, w0 = w := ⟨_, rfl⟩
    go_loopw [5] (fun iv wr => ∃ i : Nat, i ≤ n ∧ iv = .int .i64 i ∧ (∀ j, j < i → nth xs j = nth ys j) ∧ Below w0.heap.size w0 wr) (fun iv _ => n - (intOf iv).toNat)
    case atStart => exact ⟨0, by omega, rfl, fun j hj => by omega, Below.refl _ _⟩
    case round =>
      obtain ⟨i, hi, rfl, hp, hl⟩ := hrel
      have L0 := Lib.hid hl
      have HP := Lib.hid hp
      clear hp hl
      by_cases hlt : i < n
      · have kd : decide ((i : Int) < (n : Int)) = true := decide_eq_true (by omega)
        have ki0 : (0 : Int) ≤ (i : Int) := by omega
        have ki1 : (i : Int) < (n : Int) := by omega
        have ki2 : (i : Int) < (m : Int) := by have := HLY.out; omega
        have ki5 : (i : Int) ≤ 1000 := by omega
        obtain ⟨b1, o1, rfl, hb1, hc1⟩ := HF1.out (by intro hh; have := HN.out; rw [hh] at this; simp at this; omega)
        obtain ⟨b2, o2, rfl, hb2, hc2⟩ := HF2.out (by intro hh; have := HLY.out; have h9 := HLM.out; rw [hh] at h9; simp at h9; omega)
        go_upto_region 6 with fail
        have hne : Nonempty (Held (fun W => W = wr.drew)) := ⟨⟨_, rfl⟩⟩
        have p1 : ∀ y : Held (fun W => W = wr.drew), y.w.cell? ⟨b1, o1 + i, none⟩ = some (.int .u64 (nth xs i)) := fun y => by rw [y.ok]; exact (L0.out.drew.cell (p := ⟨b1, o1 + i, none⟩) hb1).trans (hc1 i hlt)
        have p2 : ∀ y : Held (fun W => W = wr.drew), y.w.cell? ⟨b2, o2 + i, none⟩ = some (.int .u64 (nth ys i)) := fun y => by rw [y.ok]; exact (L0.out.drew.cell (p := ⟨b2, o2 + i, none⟩) hb2).trans (hc2 i (by have := HLY.out; omega))
        refine drawn_bars (S := fun _ => True) [] [0, 1, 2, 3, 4, 5, 6, 7, 8] (by kernel_rfl) (by kernel_rfl) (by kernel_rfl) rfl trivial ?_
        refine Phased.end_ ?_
        simp only [pick, List.map_cons, List.map_nil, List.getElem?_cons_zero, List.getElem?_cons_succ, Option.getD_some]
        repeat (go_big_quiet_step (fail))
        refine wpQuiet_nil ?_
        clear hne p1 p2 hc1 hc2
        have L1 := Lib.hid L0.out.drew
        clear L0
        generalize wr.drew = w5 at *
        by_cases hq : nth xs i = nth ys i
        · have kq : (nth xs i != nth ys i) = false := by rw [hq]; simp
          have HQ := Lib.hid hq
          clear hq
          go_wp2_with fail
          go_roundw
          case rel => exact ⟨i + 1, by omega, by go_num, fun j hj => by
            by_cases h : j = i
            · rw [h]; exact HQ.out
            · exact HP.out j (by omega), L1.out⟩
          case measure => simp [intOf]; omega
        · have kq : (nth xs i != nth ys i) = true := by simpa using hq
          have hdf := HDF.out (HNE.out i hq)
          subst hdf
          clear hq
          go_wp2_with fail
          go_ret
          exact ⟨rfl, L1.out⟩
      · obtain rfl : i = n := by omega
        have kd : decide ((i : Int) < (i : Int)) = false := decide_eq_false (by omega)
        have hdt := HDT.out (HE.out (fun j hj => HP.out j hj))
        subst hdt
        go_wp2_with fail
        go_ret
        exact ⟨rfl, L0.out⟩
  · have hd : decide (xs = ys) = false := decide_eq_false (fun e => hl (by rw [e]))
    rw [hd]
    have ho : ((xs.length : Int) != (ys.length : Int)) = true := by rw [bne_iff_ne]; omega
    clear hl hd
    go_enter Try.func18, Try.ntmps18
    go_wp2_with fail
    go_ret
    exact ⟨rfl, Below.refl _ _⟩
end Go.Proofs.Ythcaagkgddeabaa.Bank
