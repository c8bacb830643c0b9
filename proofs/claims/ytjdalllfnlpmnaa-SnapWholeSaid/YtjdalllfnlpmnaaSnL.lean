/-
  The laws' own small functions: the chapter's example, two rows of words; and what the steps of a snapshot keep. Printed by wip/tools/mksnl.py. No condition. By an AI agent.
-/
import Derived.Test.YtjdalllfnlpmnaaSnF
import Derived.Test.YtjdalllfnlpmnaaSnD
namespace Go.Proofs.Ytjdalllfnlpmnaa.Bank
set_option linter.unusedVariables false
set_option linter.unusedSimpArgs false
open Go Go.RowKit Go.Proofs.Ytjdalllfnlpmnaa.Base

theorem BNew_ex (n : Nat) (h1 : 1 ≤ n) (h2 : n ≤ 1048576) (w : World) :
    Calls Try.prog 9 #[.int .i64 n] w fun e w' => ∃ g h, e = .returned (.tuple #[.pointer (some ⟨g, 0, none⟩), .int .i64 0]) ∧ BankAt w' g h (zeros n) 0 ∧ w.heap.size ≤ h ∧ h < g ∧ g < w'.heap.size ∧ Below w.heap.size w w' :=
  (New_in n h1 h2 w).mono fun e w' ⟨he, hb, hl, hs⟩ => ⟨_, _, he, hb, Nat.le_refl _, by omega, by omega, hl⟩
/-- what holds of a snapshot, however it stands, behind so many steps -/
structure SOk (n m : Nat) (l : Nat → Spot) (T : Int) (x : SX) (c : Nat) : Prop where
  inv : x.how = 0 → SInv n m l x.tries x.steps x.gl ∧ 0 ≤ x.k ∧ x.k < 2 * (n : Int) + (m : Int)
  len : x.gl.length = n ∧ x.wl.length = m
  tr : x.tries ≤ T ∧ T ≤ 16
  st : 0 ≤ x.steps ∧ x.steps ≤ c
  n1 : 1 ≤ n ∧ n ≤ 64
  m1 : 1 ≤ m ∧ m ≤ 4096
theorem m_of {n m : Nat} {l : Nat → Spot} {T : Int} (h0 : wrongE n l T = 0) (hm : widthF l n = (m : Int)) : 1 ≤ m ∧ m ≤ 4096 := by
  obtain ⟨⟨h1, h2⟩, hr, _⟩ := wrongE_zero h0
  have hb := widthF_bounds hr n (Nat.le_refl _)
  have hs := widthF_step hr (show 0 < n by omega)
  have hmn := widthF_mono hr (show 1 ≤ n by omega) (Nat.le_refl _)
  have h9 : widthF l 0 = 0 := rfl
  have h8 : widthF l (0 + 1) = widthF l 1 := rfl
  omega
theorem SOk.zero {n m : Nat} {l : Nat → Spot} {T : Int} (h0 : wrongE n l T = 0) (hm : widthF l n = (m : Int)) : SOk n m l T (SX.zero T n m) 0 := by
  have hw := wrongE_zero h0
  have hmm := m_of h0 hm
  refine ⟨fun _ => ⟨⟨hw.1.1, hw.1.2, hmm.2, hw.2.1, hm, zeros_fit n, hw.2.2, by show (0 : Int) ≤ 0 ∧ (0 : Int) ≤ _; omega⟩, by show (0 : Int) ≤ 0; omega, by show (0 : Int) < _; have := hw.1.1; omega⟩, ⟨zeros_len n, zeros_len m⟩, ⟨Int.le_refl _, hw.2.2.2⟩, ⟨Int.le_refl _, Int.le_refl _⟩, hw.1, hmm⟩
theorem sStepF_len (l : Nat → Spot) (n m : Nat) (ws : List Int) (x : SX) : (sStepF l n m ws x).gl.length = x.gl.length ∧ (sStepF l n m ws x).wl.length = x.wl.length ∧ (sStepF l n m ws x).tries ≤ x.tries := by
  unfold sStepF
  split
  · exact ⟨rfl, rfl, Int.le_refl _⟩
  split
  · exact ⟨rfl, rfl, Int.le_refl _⟩
  split
  · exact ⟨List.length_set .., rfl, Int.le_refl _⟩
  split
  · exact ⟨rfl, List.length_set .., Int.le_refl _⟩
  split
  · exact ⟨rfl, rfl, Int.le_refl _⟩
  · exact ⟨rfl, rfl, by show x.tries - 1 ≤ _; omega⟩
theorem SOk.step {n m : Nat} {l : Nat → Spot} {T : Int} {x : SX} {c : Nat} {ws : List Int} (h : SOk n m l T x c) (hw : ∀ i, 0 ≤ wordF ws i ∧ wordF ws i ≤ 18446744073709551615) (hc : c < 1000000) : SOk n m l T (sStepF l n m ws x) (c + 1) := by
  have hl := sStepF_len l n m ws x
  have hs := sStepF_steps l n m ws x
  refine ⟨fun h1 => ?_, ⟨hl.1.trans h.len.1, hl.2.1.trans h.len.2⟩, ⟨Int.le_trans hl.2.2 h.tr.1, h.tr.2⟩, ⟨Int.le_trans h.st.1 hs.1, by have := h.st; omega⟩, h.n1, h.m1⟩
  by_cases h0 : x.how = 0
  · exact sStepF_inv hw (h.inv h0).1 (h.inv h0).2 h0 (by have := h.st; omega) h1
  · have es : sStepF l n m ws x = x := if_pos h0
    rw [es] at h1
    exact absurd h1 h0
theorem nth_wordF {ws : List Int} (h : ∀ i, 0 ≤ wordF ws i ∧ wordF ws i ≤ 18446744073709551615) (i : Nat) : 0 ≤ nth ws i ∧ nth ws i ≤ 18446744073709551615 := by
  by_cases hi : i < ws.length
  · rw [← wordF_nat ws i hi]; exact h _
  · unfold nth
    rw [List.getD_eq_getElem?_getD, List.getElem?_eq_none (by omega)]
    exact ⟨by decide, by decide⟩
theorem SnX.bl {w w' : World} {o rs cs rg rw n m : Nat} {l : Nat → Spot} {x : SX} (h : SnX w o rs cs rg rw n m l x) (p : Below w.heap.size w w') : SnX w' o rs cs rg rw n m l x := SnAt.bl h p
theorem SnX.ex {T : Nat → Prop} {w w' : World} {o rs cs rg rw n m : Nat} {l : Nat → Spot} {x : SX} (h : SnX w o rs cs rg rw n m l x) (p : Ex T w w') (h1 : ¬ T o) (h2 : ¬ T rs) (h3 : ¬ T rg) (h4 : ¬ T rw) : SnX w' o rs cs rg rw n m l x :=
  ⟨h.box.ex p h1, h.spots.ex p h2, h.gens.ex p h3, h.glen, h.words.ex p h4, h.wlen, h.apart⟩
theorem SnX.lt {w : World} {o rs cs rg rw n m : Nat} {l : Nat → Spot} {x : SX} (h : SnX w o rs cs rg rw n m l x) : o < w.heap.size ∧ rs < w.heap.size ∧ rg < w.heap.size ∧ rw < w.heap.size := ⟨h.box.lt, h.spots.lt, h.gens.lt, h.words.lt⟩
theorem URow.ints {w : World} {q : Nat} {xs : List Int} (h : URow w q xs) (hl : xs.length ≤ maxLen) : Ints w .u64 (.slice (some ⟨q, 0, none⟩) xs.length xs.length) xs :=
  ⟨_, _, rfl, hl, fun _ => ⟨q, 0, rfl, h.lt, fun i hi => by rw [Nat.zero_add]; exact h.word hi⟩⟩
/-- what Got tells, as two rows -/
theorem got_ints {w : World} {base q m n G : Nat} {wl gl : List Int} (h : w.ownsRow base 42 1 (.slice (some ⟨q, 0, none⟩) (m + n) G) (m + n) ((wl ++ gl).map (Value.int .u64))) (hw : wl.length = m) (hg : gl.length = n) (hm : m ≤ 4096) (hn : n ≤ 64) :
    Ints w .u64 (.slice (some ⟨q, 0, none⟩) m m) wl ∧ Ints w .u64 (.slice (some ⟨q, m, none⟩) n (G - m)) gl := by
  have hlt := (World.ownsRow.lt h q rfl).2
  have hc : ∀ i, i < (wl ++ gl).length → w.cell? ⟨q, i, none⟩ = some (.int .u64 (nth (wl ++ gl) i)) := by
    intro i hi
    have := World.ownsRow.cells h (g := q) rfl i (.int .u64 (nth (wl ++ gl) i)) (by simp only [nth, List.getD_eq_getElem?_getD, List.getElem?_map, List.getElem?_eq_getElem hi]; rfl)
    have e : (⟨q, 0, none⟩ : Addr).add i = ⟨q, i, none⟩ := by unfold Addr.add; split <;> simp_all
    rwa [e] at this
  have hlen : (wl ++ gl).length = m + n := by rw [List.length_append, hw, hg]
  refine ⟨⟨_, _, by rw [hw], by unfold maxLen; omega, fun _ => ⟨q, 0, rfl, hlt, fun i hi => ?_⟩⟩, ⟨_, _, by rw [hg], by unfold maxLen; omega, fun _ => ⟨q, m, rfl, hlt, fun i hi => ?_⟩⟩⟩
  · rw [Nat.zero_add, hc i (by omega)]
    unfold nth
    simp only [List.getD_eq_getElem?_getD, List.getElem?_append_left hi]
  · rw [hc (m + i) (by omega)]
    unfold nth
    simp only [List.getD_eq_getElem?_getD]
    rw [List.getElem?_append_right (by omega), show m + i - wl.length = i by omega]
theorem XSteps_any (o rs cs rg rw n m : Nat) (l : Nat → Spot) (x : SX) (w : World) (ho : SnX w o rs cs rg rw n m l x) : Calls Try.prog 18 #[.pointer (some ⟨o, 0, none⟩)] w fun e w' => e = .returned (.int .i64 x.steps) ∧ w = w' :=
  SnSteps_any o rs cs rg rw n m l x.tries x.k x.begun x.steps x.how x.gl x.wl w ho
theorem XAt_any (o rs cs rg rw n m : Nat) (l : Nat → Spot) (x : SX) (w : World) (ho : SnX w o rs cs rg rw n m l x) : Calls Try.prog 21 #[.pointer (some ⟨o, 0, none⟩)] w fun e w' => e = .returned (.int .i64 (if x.how = 1 then x.begun else 0)) ∧ w = w' :=
  SnAt_any o rs cs rg rw n m l x.tries x.k x.begun x.steps x.how x.gl x.wl w ho
theorem XGot_not (o rs cs rg rw n m : Nat) (l : Nat → Spot) (x : SX) (w : World) (ho : SnX w o rs cs rg rw n m l x) (h : x.how ≠ 1) : Calls Try.prog 19 #[.pointer (some ⟨o, 0, none⟩)] w fun e w' => e = .returned (.tuple #[.slice none 0 0, .slice none 0 0]) ∧ w = w' :=
  SnGot_not o rs cs rg rw n m l x.tries x.k x.begun x.steps x.how x.gl x.wl w ho h
theorem XGot_done (o rs cs rg rw n m : Nat) (l : Nat → Spot) (x : SX) (w : World) (ho : SnX w o rs cs rg rw n m l x) (h : x.how = 1) (hm : 1 ≤ m ∧ m ≤ 4096) (hn : 1 ≤ n ∧ n ≤ 64) : Calls Try.prog 19 #[.pointer (some ⟨o, 0, none⟩)] w fun e w' => ∃ q G, e = .returned (.tuple #[.slice (some ⟨q, 0, none⟩) m m, .slice (some ⟨q, m, none⟩) n (G - m)]) ∧ w.heap.size ≤ q ∧ Ints w' .u64 (.slice (some ⟨q, 0, none⟩) m m) x.wl ∧ Ints w' .u64 (.slice (some ⟨q, m, none⟩) n (G - m)) x.gl ∧ m + n ≤ G ∧ w'.ownsRow w.heap.size 42 1 (.slice (some ⟨q, 0, none⟩) (m + n) G) (m + n) ((x.wl ++ x.gl).map (Value.int .u64)) ∧ Below w.heap.size w w' := by
  have ho1 : SnAt w o rs cs rg rw n m l x.tries x.k x.begun x.steps 1 x.gl x.wl := by unfold SnX at ho; rw [h] at ho; exact ho
  refine (SnGot_any o rs cs rg rw n m l x.tries x.k x.begun x.steps x.gl x.wl w ho1 hm.1 hm.2 hn.1 hn.2).mono ?_
  rintro e w' ⟨q, G, rfl, h1, h2, h3, h4⟩
  have := got_ints h3 ho.wlen ho.glen hm.2 hn.2
  exact ⟨q, G, rfl, h1, this.1, this.2, h2, h3, h4⟩
/-- the snapshot, and the bank's ticks, behind so many steps -/
def sN (l : Nat → Spot) (n m : Nat) (T : Int) (ws : List Int) (t : Int) : Nat → SX × Int
  | 0 => (SX.zero T n m, t)
  | i + 1 => (sStepF l n m ws (sN l n m T ws t i).1, sTickF l n m ws (sN l n m T ws t i).1 (sN l n m T ws t i).2)
theorem sN_ok {n m : Nat} {l : Nat → Spot} {T : Int} (h0 : wrongE n l T = 0) (hm : widthF l n = (m : Int)) {ws : List Int} (hw : ∀ i, 0 ≤ wordF ws i ∧ wordF ws i ≤ 18446744073709551615) (t : Int) : ∀ i, i < 100000 → SOk n m l T (sN l n m T ws t i).1 i
  | 0, _ => SOk.zero h0 hm
  | i + 1, h => (sN_ok h0 hm hw t i (by omega)).step hw (by omega)
theorem zeros_word (n : Nat) (i : Int) : 0 ≤ wordF (zeros n) i ∧ wordF (zeros n) i ≤ 18446744073709551615 := by
  unfold wordF
  split
  · rename_i h
    have := h.2
    rw [zeros_len] at this
    exact zeros_fit n _ (nth_mem (by rw [zeros_len]; have := h.1; omega))
  · exact ⟨by decide, by decide⟩
deriving instance DecidableEq for SX
def lA : Nat → Spot := fun i => if i = 0 then ⟨0, 1, 2, 1, 2⟩ else ⟨0, 5, 6, 1, 3⟩
theorem spsA (w : World) : Sps (w.alloc (.cells #[.int .i64 0, .int .i64 1, .int .i64 2, .int .i64 1, .int .i64 2, .int .i64 0, .int .i64 5, .int .i64 6, .int .i64 1, .int .i64 3] 65)) (.slice (some ⟨w.heap.size, 0, none⟩) 2 2) 2 lA := by
  refine ⟨_, _, rfl, by decide, fun _ => ⟨_, _, rfl, by simp, fun i hi => ?_⟩⟩
  have B := Blk.new w 65 #[.int .i64 0, .int .i64 1, .int .i64 2, .int .i64 1, .int .i64 2, .int .i64 0, .int .i64 5, .int .i64 6, .int .i64 1, .int .i64 3]
  match i, hi with
  | 0, _ => exact ⟨B.cell 0, B.cell 1, B.cell 2, B.cell 3, B.cell 4⟩
  | 1, _ => exact ⟨B.cell 5, B.cell 6, B.cell 7, B.cell 8, B.cell 9⟩
theorem sA_ok : wrongE 2 lA 1 = 0 ∧ widthF lA 2 = ((2 : Nat) : Int) := by decide +kernel
theorem sA_busy : ∀ i, i < 6 → (sN lA 2 2 1 (zeros 20) 0 i).1.how = 0 := by decide +kernel
theorem sA_end : (sN lA 2 2 1 (zeros 20) 0 6).1.how = 1 ∧ (sN lA 2 2 1 (zeros 20) 0 6).1.wl = [0, 0] ∧ (sN lA 2 2 1 (zeros 20) 0 6).1.gl = [0, 0] ∧ (sN lA 2 2 1 (zeros 20) 0 6).1.begun = 2 ∧ (sN lA 2 2 1 (zeros 20) 0 6).1.steps = 6 := by decide +kernel
theorem eq_of_nth {xs ys : List Int} (hl : xs.length = ys.length) (h : ∀ i, i < xs.length → nth xs i = nth ys i) : xs = ys := by
  refine List.ext_getElem hl fun i h1 h2 => ?_
  have := h i h1
  simpa [nth, List.getD_eq_getElem?_getD, List.getElem?_eq_getElem h1, List.getElem?_eq_getElem h2] using this
set_option maxHeartbeats 2000000 in
theorem words_any (v1 v2 : Value) (xs ys : List Int) (w : World) (h1 : Ints w .u64 v1 xs) (h2 : Ints w .u64 v2 ys) (hs : xs.length ≤ 5000) :
    Calls Try.prog 20 #[v1, v2] w fun e w' => e = .returned (.bool (decide (xs = ys))) ∧ Below w.heap.size w w' := by
  obtain ⟨A1, c1, rfl, -, hf1⟩ := h1.form
  obtain ⟨A2, c2, rfl, -, hf2⟩ := h2.form
  have HF1 := Lib.hid hf1
  have HF2 := Lib.hid hf2
  clear h1 h2 hf1 hf2
  by_cases hl : xs.length = ys.length
  · have HE := Lib.hid (fun h : ∀ i, i < xs.length → nth xs i = nth ys i => eq_of_nth hl h)
    have HNE := Lib.hid (fun i (h : nth xs i ≠ nth ys i) => show ¬ xs = ys from fun e => h (by rw [e]))
    have HLY := Lib.hid hl
    have ho : ((xs.length : Int) != (ys.length : Int)) = false := by rw [hl]; simp
    obtain ⟨dd, hdd⟩ : ∃ dd, decide (xs = ys) = dd := ⟨_, rfl⟩
    rw [hdd]
    have HDT := Lib.hid (fun h : xs = ys => show dd = true by rw [← hdd]; exact decide_eq_true h)
    have HDF := Lib.hid (fun h : ¬ xs = ys => show dd = false by rw [← hdd]; exact decide_eq_false h)
    clear hdd hl
    generalize hn : xs.length = n at *
    generalize hm : ys.length = m at *
    have HLM := Lib.hid hm
    have HN := Lib.hid hn
    clear hn hm
    go_enter Try.func20, Try.ntmps20
    go_wp2_with fail
    obtain ⟨w0, rfl⟩ : ∃ w0 : World, w0 = w := ⟨_, rfl⟩
    go_loopw [5] (fun iv wr => ∃ i : Nat, i ≤ n ∧ iv = .int .i64 i ∧ (∀ j, j < i → nth xs j = nth ys j) ∧ Below w0.heap.size w0 wr) (fun iv _ => n - (intOf iv).toNat)
    case atStart => exact ⟨0, by omega, rfl, fun j hj => by omega, Below.refl _ _⟩
    case round =>
      obtain ⟨i, hi, rfl, hp, hl⟩ := hrel
      have L0 := Lib.hid hl
      have HP := Lib.hid hp
      clear hp hl
      by_cases hlt : i < n
      · have kd : decide ((i : Int) < (n : Int)) = true := decide_eq_true (by omega)
        have ki0 : (0 : Int) ≤ (i : Int) := by omega
        have ki1 : (i : Int) < (n : Int) := by omega
        have ki2 : (i : Int) < (m : Int) := by have := HLY.out; omega
        have ki5 : (i : Int) ≤ 5000 := by omega
        obtain ⟨b1, o1, rfl, hb1, hc1⟩ := HF1.out (by intro hh; have := HN.out; rw [hh] at this; simp at this; omega)
        obtain ⟨b2, o2, rfl, hb2, hc2⟩ := HF2.out (by intro hh; have := HLY.out; have h9 := HLM.out; rw [hh] at h9; simp at h9; omega)
        go_upto_region 6 with fail
        have hne : Nonempty (Held (fun W => W = wr.drew)) := ⟨⟨_, rfl⟩⟩
        have p1 : ∀ y : Held (fun W => W = wr.drew), y.w.cell? ⟨b1, o1 + i, none⟩ = some (.int .u64 (nth xs i)) := fun y => by rw [y.ok]; exact (L0.out.drew.cell (p := ⟨b1, o1 + i, none⟩) hb1).trans (hc1 i hlt)
        have p2 : ∀ y : Held (fun W => W = wr.drew), y.w.cell? ⟨b2, o2 + i, none⟩ = some (.int .u64 (nth ys i)) := fun y => by rw [y.ok]; exact (L0.out.drew.cell (p := ⟨b2, o2 + i, none⟩) hb2).trans (hc2 i (by have := HLY.out; omega))
        refine drawn_bars (S := fun _ => True) [] [0, 1, 2, 3, 4, 5, 6, 7, 8] (by kernel_rfl) (by kernel_rfl) (by kernel_rfl) rfl trivial ?_
        refine Phased.end_ ?_
        simp only [pick, List.map_cons, List.map_nil, List.getElem?_cons_zero, List.getElem?_cons_succ, Option.getD_some]
        repeat (go_big_quiet_step (fail))
        refine wpQuiet_nil ?_
        clear hne p1 p2 hc1 hc2
        have L1 := Lib.hid L0.out.drew
        clear L0
        generalize wr.drew = w5 at *
        by_cases hq : nth xs i = nth ys i
        · have kq : (nth xs i != nth ys i) = false := by rw [hq]; simp
          have HQ := Lib.hid hq
          clear hq
          go_wp2_with fail
          go_roundw
          case rel => exact ⟨i + 1, by omega, by go_num, fun j hj => by
            by_cases h : j = i
            · rw [h]; exact HQ.out
            · exact HP.out j (by omega), L1.out⟩
          case measure => simp [intOf]; omega
        · have kq : (nth xs i != nth ys i) = true := by simpa using hq
          have hdf := HDF.out (HNE.out i hq)
          subst hdf
          clear hq
          go_wp2_with fail
          go_ret
          exact ⟨rfl, L1.out⟩
      · obtain rfl : i = n := by omega
        have kd : decide ((i : Int) < (i : Int)) = false := decide_eq_false (by omega)
        have hdt := HDT.out (HE.out (fun j hj => HP.out j hj))
        subst hdt
        go_wp2_with fail
        go_ret
        exact ⟨rfl, L0.out⟩
  · have hd : decide (xs = ys) = false := decide_eq_false (fun e => hl (by rw [e]))
    rw [hd]
    have ho : ((xs.length : Int) != (ys.length : Int)) = true := by rw [bne_iff_ne]; omega
    clear hl hd
    go_enter Try.func20, Try.ntmps20
    go_wp2_with fail
    go_ret
    exact ⟨rfl, Below.refl _ _⟩
set_option maxRecDepth 100000 in
set_option maxHeartbeats 4000000 in
set_option maxRecDepth 100000 in
set_option maxHeartbeats 4000000 in
theorem awake_any (w : World) : Calls Try.prog 8 #[] w fun e w' => e = .returned (.bool true) ∧ Below w.heap.size w w' := by
  go_enter Try.func8, Try.ntmps8
  go_wp2_with fail
  refine (BNew_ex 20 (by omega) (by omega) _).mono ?_; rintro e w1 ⟨g, h, rfl, hk, h1, h2, h3, hl⟩
  have OR0 := Lib.hid (show w.heap.size ≤ h ∧ h < g ∧ g < w1.heap.size from ⟨h1, h2, h3⟩)
  have K0 := Lib.hid hk
  have L0 := Lib.hid hl
  clear hk hl h1 h2 h3
  go_wp2_with fail
  refine (SNew_in _ 2 lA 1 _ (spsA w1) sA_ok.1 2 sA_ok.2).mono ?_; rintro e w2 ⟨o, rs, cs, rg, rw, rfl, ho, h1, h2, h3, h4, hl⟩
  have hl2 : Below w1.heap.size w1 w2 := bl ((Below.refl w1.heap.size w1).alloc (Nat.le_refl _) _) hl
  have h9 : w1.heap.size ≤ (w1.alloc (.cells #[.int .i64 0, .int .i64 1, .int .i64 2, .int .i64 1, .int .i64 2, .int .i64 0, .int .i64 5, .int .i64 6, .int .i64 1, .int .i64 3] 65)).heap.size := by simp
  have ORD := Lib.hid (show w.heap.size ≤ h ∧ h < g ∧ g < rs ∧ g < rg ∧ g < rw ∧ g < o from by have := OR0.out; omega)
  clear h1 h2 h3 h4 h9 OR0 hl
  have ee : Ex (fun _ => False) w1 w2 := Ex.of_below hl2
  have K_1 := Lib.hid (K0.out.ex ee (fun h => h) (fun h => h))
  have L_1 := Lib.hid (Ex.below L0.out ee (fun k hk => hk.elim))
  have O_1 := Lib.hid (show SnX w2 o rs cs rg rw 2 2 lA (sN lA 2 2 1 (zeros 20) 0 0).1 from ho)
  clear ee K0 L0 ho hl2
  go_wp2_with fail
  go_loopw [5] (fun iv wr => ∃ i : Nat, i ≤ 5 ∧ iv = .int .i64 i ∧ BankAt wr g h (zeros 20) (sN lA 2 2 1 (zeros 20) 0 i).2 ∧ SnX wr o rs cs rg rw 2 2 lA (sN lA 2 2 1 (zeros 20) 0 i).1 ∧ Below w.heap.size w wr) (fun iv _ => 5 - (intOf iv).toNat)
  case atStart => exact ⟨0, by omega, rfl, K_1.out, O_1.out, L_1.out⟩
  case round =>
    clear K_1 O_1 L_1
    obtain ⟨i, hi, rfl, hk, ho, hl⟩ := hrel
    have K0 := Lib.hid hk
    have O0 := Lib.hid ho
    have L0 := Lib.hid hl
    clear hk ho hl
    by_cases hlt : i < 5
    · have kd : decide ((i : Int) < 5) = true := decide_eq_true (by omega)
      go_wp2_with fail
      have HB_ := Lib.hid (sA_busy (i + 1) (by omega))
      have HI_ := Lib.hid (sN_ok sA_ok.1 sA_ok.2 (zeros_word 20) 0 i (by omega))
      refine (SStep_any g h o rs cs rg rw 2 2 (zeros 20) (sN lA 2 2 1 (zeros 20) 0 i).2 lA (sN lA 2 2 1 (zeros 20) 0 i).1 _ K0.out O0.out HI_.out.inv (by have o_ := ORD.out; omega)).mono ?_; rintro e w3 ⟨rfl, hk, ho, hx⟩
      have ee : Ex (fun k => k = g ∨ k = h ∨ k = o ∨ k = rg ∨ k = rw) wr w3 := hx
      have L_2 := Lib.hid (Ex.below L0.out ee (fun k hk => by have o_ := ORD.out; have hk : k = g ∨ k = h ∨ k = o ∨ k = rg ∨ k = rw := hk; omega))
      have K_2 := Lib.hid (show BankAt w3 g h (zeros 20) (sN lA 2 2 1 (zeros 20) 0 (i + 1)).2 from hk)
      have O_2 := Lib.hid (show SnX w3 o rs cs rg rw 2 2 lA (sN lA 2 2 1 (zeros 20) 0 (i + 1)).1 from ho)
      clear ee K0 O0 L0 hk ho hx HI_
      rw [show (sStepF lA 2 2 (zeros 20) (sN lA 2 2 1 (zeros 20) 0 i).1).how = 0 from HB_.out]
      go_wp2_with fail
      go_roundw
      case rel => exact ⟨i + 1, by omega, by go_num, K_2.out, O_2.out, L_2.out⟩
      case measure => simp [intOf]; omega
    · obtain rfl : i = 5 := by omega
      have kd : decide (((5 : Nat) : Int) < 5) = false := by decide
      go_wp2_with fail
      have HB_ := Lib.hid (sA_end.1)
      have HI_ := Lib.hid (sN_ok sA_ok.1 sA_ok.2 (zeros_word 20) 0 5 (by omega))
      refine (SStep_any g h o rs cs rg rw 2 2 (zeros 20) (sN lA 2 2 1 (zeros 20) 0 5).2 lA (sN lA 2 2 1 (zeros 20) 0 5).1 _ K0.out O0.out HI_.out.inv (by have o_ := ORD.out; omega)).mono ?_; rintro e w3 ⟨rfl, hk, ho, hx⟩
      have ee : Ex (fun k => k = g ∨ k = h ∨ k = o ∨ k = rg ∨ k = rw) wr w3 := hx
      have L_2 := Lib.hid (Ex.below L0.out ee (fun k hk => by have o_ := ORD.out; have hk : k = g ∨ k = h ∨ k = o ∨ k = rg ∨ k = rw := hk; omega))
      have K_2 := Lib.hid (show BankAt w3 g h (zeros 20) (sN lA 2 2 1 (zeros 20) 0 (5 + 1)).2 from hk)
      have O_2 := Lib.hid (show SnX w3 o rs cs rg rw 2 2 lA (sN lA 2 2 1 (zeros 20) 0 (5 + 1)).1 from ho)
      clear ee K0 O0 L0 hk ho hx HI_
      rw [show (sStepF lA 2 2 (zeros 20) (sN lA 2 2 1 (zeros 20) 0 5).1).how = 1 from HB_.out]
      go_wp2_with fail
      refine (XGot_done o rs cs rg rw 2 2 lA _ w3 O_2.out sA_end.1 (by decide) (by decide)).mono ?_; rintro e w4 ⟨q, G, rfl, hq, hi1, hi2, hG, hown, hb⟩
      rw [sA_end.2.1] at hi1
      rw [sA_end.2.2.1] at hi2
      have I1 := Lib.hid hi1
      have I2 := Lib.hid hi2
      clear hq hG hown hi1 hi2
      have ee : Ex (fun _ => False) w3 w4 := Ex.of_below hb
      have K_3 := Lib.hid (K_2.out.ex ee (fun h => h) (fun h => h))
      have O_3 := Lib.hid (O_2.out.ex ee (fun h => h) (fun h => h) (fun h => h) (fun h => h))
      have L_3 := Lib.hid (Ex.below L_2.out ee (fun k hk => hk.elim))
      clear ee K_2 O_2 L_2 hb
      go_wp2_with fail
      refine (words_any _ _ [0, 0] [0, 0] (w4.alloc (.cells #[.int .u64 0, .int .u64 0] 42)) (I1.out.below ((Below.refl _ _).alloc (Nat.le_refl _) _)) (URow.ints (Blk.new w4 42 #[.int .u64 0, .int .u64 0]) (by decide)) (by decide)).mono ?_; rintro e w5 ⟨rfl, hb1⟩
      rw [decide_eq_true (show ([0, 0] : List Int) = [0, 0] from rfl)]
      have hb2 : Below w4.heap.size w4 w5 := bl ((Below.refl _ _).alloc (Nat.le_refl _) _) hb1
      have I2b := Lib.hid (I2.out.below hb2)
      clear I2 I1
      have ee : Ex (fun _ => False) w4 w5 := Ex.of_below hb2
      have K_4 := Lib.hid (K_3.out.ex ee (fun h => h) (fun h => h))
      have O_4 := Lib.hid (O_3.out.ex ee (fun h => h) (fun h => h) (fun h => h) (fun h => h))
      have L_4 := Lib.hid (Ex.below L_3.out ee (fun k hk => hk.elim))
      clear ee K_3 O_3 L_3 hb1 hb2
      go_wp2_with fail
      refine (words_any _ _ [0, 0] [0, 0] (w5.alloc (.cells #[.int .u64 0, .int .u64 0] 42)) (I2b.out.below ((Below.refl _ _).alloc (Nat.le_refl _) _)) (URow.ints (Blk.new w5 42 #[.int .u64 0, .int .u64 0]) (by decide)) (by decide)).mono ?_; rintro e w6 ⟨rfl, hb1⟩
      rw [decide_eq_true (show ([0, 0] : List Int) = [0, 0] from rfl)]
      have hb2 : Below w5.heap.size w5 w6 := bl ((Below.refl _ _).alloc (Nat.le_refl _) _) hb1
      clear I2b
      have ee : Ex (fun _ => False) w5 w6 := Ex.of_below hb2
      have K_5 := Lib.hid (K_4.out.ex ee (fun h => h) (fun h => h))
      have O_5 := Lib.hid (O_4.out.ex ee (fun h => h) (fun h => h) (fun h => h) (fun h => h))
      have L_5 := Lib.hid (Ex.below L_4.out ee (fun k hk => hk.elim))
      clear ee K_4 O_4 L_4 hb1 hb2
      go_wp2_with fail
      refine (XAt_any o rs cs rg rw 2 2 lA _ w6 O_5.out).mono ?_; rintro e w7 ⟨rfl, rfl⟩
      rw [show (if (sN lA 2 2 1 (zeros 20) 0 (5 + 1)).1.how = 1 then (sN lA 2 2 1 (zeros 20) 0 (5 + 1)).1.begun else 0) = 2 by decide +kernel]
      go_wp2_with fail
      refine (XSteps_any o rs cs rg rw 2 2 lA _ w6 O_5.out).mono ?_; rintro e w7 ⟨rfl, rfl⟩
      rw [show (sN lA 2 2 1 (zeros 20) 0 (5 + 1)).1.steps = 6 from sA_end.2.2.2.2]
      go_wp2_with fail
      go_ret
      exact ⟨rfl, L_5.out⟩
end Go.Proofs.Ytjdalllfnlpmnaa.Bank
