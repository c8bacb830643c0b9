/-
  The document's answer for chapter 8: a publishing over plain words. Printed by wip/tools/mkrf8.py. No condition. By an AI agent.
-/
import Derived.Test.YtpfjadgcnaffgaaRf
namespace Go.Proofs.Ytpfjadgcnaffgaa.Bank
set_option linter.unusedVariables false
set_option linter.unusedSimpArgs false
open Go Go.RowKit Go.Proofs.Ytpfjadgcnaffgaa.Base

def RowW (w : World) (r : Nat) (xs : List Int) : Prop := Blk w r 49 (xs.map (Value.int .u64)).toArray
theorem RowW.word {w : World} {r : Nat} {xs : List Int} (b : RowW w r xs) {i : Nat} (hi : i < xs.length) : w.cell? ⟨r, i, none⟩ = some (.int .u64 (nth xs i)) := by
  rw [Blk.cell b i]
  simp [nth, List.getD_eq_getElem?_getD, List.getElem?_eq_getElem hi]
theorem RowW.stored {w : World} {r : Nat} {xs : List Int} (b : RowW w r xs) (i : Nat) (x : Int) : RowW (w.setCell ⟨r, i, none⟩ (.int .u64 x)) r (xs.set i x) := by
  have := Blk.set_ b i (.int .u64 x)
  unfold RowW
  have e : ((xs.map (Value.int .u64)).toArray.setIfInBounds i (.int .u64 x)) = ((xs.set i x).map (Value.int .u64)).toArray := by
    rw [List.setIfInBounds_toArray, List.map_set]
  rwa [e] at this
theorem RowW.ex {T : Nat → Prop} {w w' : World} {r : Nat} {xs : List Int} (b : RowW w r xs) (p : Ex T w w') (h : ¬ T r) : RowW w' r xs := Blk.ex b p h
theorem RowW.bl {w w' : World} {r : Nat} {xs : List Int} (b : RowW w r xs) (p : Below w.heap.size w w') : RowW w' r xs := Blk.bl b p
theorem RowW.lt {w : World} {r : Nat} {xs : List Int} (b : RowW w r xs) : r < w.heap.size := Blk.lt b
/-- its struct's cells -/
def fCs (s : Spot) (tries : Int) (v : Value) (x : WS) : Array Value :=
  #[.int .i64 s.owners, .int .i64 s.seq, .int .i64 s.first, .int .i64 s.words, .int .i64 s.depth, v, .int .i64 tries, .int .i64 (x.next + 1), .int .i64 x.had, .int .u64 x.sq, .int .i64 x.n, .int .i64 x.how, .int .i64 x.steps]
def RefAt (w : World) (o : Nat) (s : Spot) (tries : Int) (v : Value) (x : WS) : Prop := Blk w o 56 (fCs s tries v x)
theorem RefAt.ex {T : Nat → Prop} {w w' : World} {o : Nat} {s : Spot} {tries : Int} {v : Value} {x : WS} (h : RefAt w o s tries v x) (p : Ex T w w') (ho : ¬ T o) : RefAt w' o s tries v x := Blk.ex h p ho
theorem mayF_false {s : Spot} {tries : Int} (h : mayF s tries = false) : decide s.Right = false ∨ (decide s.Right = true ∧ tries < 1) ∨ (decide s.Right = true ∧ 1 ≤ tries ∧ 16 < tries) := by
  unfold mayF at h
  have h := of_decide_eq_false h
  by_cases hr : s.Right
  · rw [decide_eq_true hr]
    have h2 : ¬ (1 ≤ tries ∧ tries ≤ 16) := fun h9 => h ⟨hr, h9⟩
    rcases Int.lt_or_le tries 1 with h1 | h1
    · exact .inr (.inl ⟨rfl, h1⟩)
    · exact .inr (.inr ⟨rfl, h1, by omega⟩)
  · exact .inl (decide_eq_false hr)
theorem mayF_true {s : Spot} {tries : Int} (h : mayF s tries = true) : decide s.Right = true ∧ 1 ≤ tries ∧ tries ≤ 16 := by
  have h : s.Right ∧ 1 ≤ tries ∧ tries ≤ 16 := of_decide_eq_true h
  exact ⟨decide_eq_true h.1, h.2⟩
theorem fNew_may (s : Spot) (tries : Int) (v : Value) (w : World) (hm : mayF s tries = false) :
    Calls Try.prog 12 #[s.val, v, .int .i64 tries] w fun e w' => e = .returned (.tuple #[.pointer none, .int .i64 10]) ∧ Below w.heap.size w w' := by
  obtain ⟨ow, sq, fi, wo, de⟩ := s
  have hr := rRight_any ⟨ow, sq, fi, wo, de⟩ (w.alloc (.cells #[.int .i64 ow, .int .i64 sq, .int .i64 fi, .int .i64 wo, .int .i64 de] 45))
  have B0 := Lib.hid (Blk.new w 45 #[.int .i64 ow, .int .i64 sq, .int .i64 fi, .int .i64 wo, .int .i64 de])
  have L0 := Lib.hid ((Below.refl w.heap.size w).alloc (Nat.le_refl _) (.cells #[.int .i64 ow, .int .i64 sq, .int .i64 fi, .int .i64 wo, .int .i64 de] 45))
  rcases mayF_false hm with hd | ⟨hd, ht⟩ | ⟨hd, ht0, ht⟩
  · rw [hd] at hr
    unfold Spot.val at hr ⊢
    simp only at hr ⊢
    have HR := Lib.hid hr
    clear hr hm hd
    go_enter Try.func12, Try.ntmps12
    have s0 := B0.out.cell 0
    have s1 := B0.out.cell 1
    have s2 := B0.out.cell 2
    have s3 := B0.out.cell 3
    have s4 := B0.out.cell 4
    simp only [List.getElem?_toArray, List.getElem?_cons_succ, List.getElem?_cons_zero] at s0 s1 s2 s3 s4
    go_wp2_with fail
    refine HR.out.mono ?_; rintro e w2 ⟨rfl, hb⟩
    have L1 := Lib.hid (bl L0.out hb)
    clear hb s0 s1 s2 s3 s4
    go_wp2_with fail
    go_ret2
    exact ⟨rfl, L1.out⟩
  · rw [hd] at hr
    unfold Spot.val at hr ⊢
    simp only at hr ⊢
    have HR := Lib.hid hr
    have k1 : decide (tries < 1) = true := decide_eq_true ht
    clear hr hm hd ht
    go_enter Try.func12, Try.ntmps12
    have s0 := B0.out.cell 0
    have s1 := B0.out.cell 1
    have s2 := B0.out.cell 2
    have s3 := B0.out.cell 3
    have s4 := B0.out.cell 4
    simp only [List.getElem?_toArray, List.getElem?_cons_succ, List.getElem?_cons_zero] at s0 s1 s2 s3 s4
    go_wp2_with fail
    refine HR.out.mono ?_; rintro e w2 ⟨rfl, hb⟩
    have L1 := Lib.hid (bl L0.out hb)
    clear hb s0 s1 s2 s3 s4
    go_wp2_with fail
    go_ret2
    exact ⟨rfl, L1.out⟩
  · rw [hd] at hr
    unfold Spot.val at hr ⊢
    simp only at hr ⊢
    have HR := Lib.hid hr
    have k1 : decide (tries < 1) = false := decide_eq_false (by omega)
    have k2 : decide (tries > 16) = true := decide_eq_true ht
    clear hr hm hd ht ht0
    go_enter Try.func12, Try.ntmps12
    have s0 := B0.out.cell 0
    have s1 := B0.out.cell 1
    have s2 := B0.out.cell 2
    have s3 := B0.out.cell 3
    have s4 := B0.out.cell 4
    simp only [List.getElem?_toArray, List.getElem?_cons_succ, List.getElem?_cons_zero] at s0 s1 s2 s3 s4
    go_wp2_with fail
    refine HR.out.mono ?_; rintro e w2 ⟨rfl, hb⟩
    have L1 := Lib.hid (bl L0.out hb)
    clear hb s0 s1 s2 s3 s4
    go_wp2_with fail
    go_ret2
    exact ⟨rfl, L1.out⟩
theorem fNew_width (s : Spot) (tries : Int) (a : Option Addr) (n c : Nat) (w : World) (hm : mayF s tries = true) (hn : (n : Int) ≠ s.words) :
    Calls Try.prog 12 #[s.val, .slice a n c, .int .i64 tries] w fun e w' => e = .returned (.tuple #[.pointer none, .int .i64 17]) ∧ Below w.heap.size w w' := by
  obtain ⟨ow, sq, fi, wo, de⟩ := s
  simp only at hn
  have hr := rRight_any ⟨ow, sq, fi, wo, de⟩ (w.alloc (.cells #[.int .i64 ow, .int .i64 sq, .int .i64 fi, .int .i64 wo, .int .i64 de] 45))
  have B0 := Lib.hid (Blk.new w 45 #[.int .i64 ow, .int .i64 sq, .int .i64 fi, .int .i64 wo, .int .i64 de])
  have L0 := Lib.hid ((Below.refl w.heap.size w).alloc (Nat.le_refl _) (.cells #[.int .i64 ow, .int .i64 sq, .int .i64 fi, .int .i64 wo, .int .i64 de] 45))
  obtain ⟨hd, ht1, ht2⟩ := mayF_true hm
  rw [hd] at hr
  unfold Spot.val at hr ⊢
  simp only at hr ⊢
  have HR := Lib.hid hr
  have k1 : decide (tries < 1) = false := decide_eq_false (by omega)
  have k2 : decide (tries > 16) = false := decide_eq_false (by omega)
  have k3 : ((n : Int) != wo) = true := by simpa using hn
  clear hn
  clear hr hm hd ht1 ht2
  go_enter Try.func12, Try.ntmps12
  have s0 := B0.out.cell 0
  have s1 := B0.out.cell 1
  have s2 := B0.out.cell 2
  have s3 := B0.out.cell 3
  have s4 := B0.out.cell 4
  simp only [List.getElem?_toArray, List.getElem?_cons_succ, List.getElem?_cons_zero] at s0 s1 s2 s3 s4
  go_wp2_with fail
  refine HR.out.mono ?_; rintro e w2 ⟨rfl, hb⟩
  have L1 := Lib.hid (bl L0.out hb)
  have B1 := Lib.hid (B0.out.bl hb)
  clear hb s0 s1 s2 s3 s4
  have s0 := B1.out.cell 0
  have s1 := B1.out.cell 1
  have s2 := B1.out.cell 2
  have s3 := B1.out.cell 3
  have s4 := B1.out.cell 4
  simp only [List.getElem?_toArray, List.getElem?_cons_succ, List.getElem?_cons_zero] at s0 s1 s2 s3 s4
  go_wp2_with fail
  go_ret2
  exact ⟨rfl, L1.out⟩
set_option maxRecDepth 100000 in
theorem fNew_in (s : Spot) (tries : Int) (a : Option Addr) (n c : Nat) (w : World) (hm : mayF s tries = true) (hn : (n : Int) = s.words) :
    Calls Try.prog 12 #[s.val, .slice a n c, .int .i64 tries] w fun e w' => ∃ o, e = .returned (.tuple #[.pointer (some ⟨o, 0, none⟩), .int .i64 0]) ∧ RefAt w' o s tries (.slice a n c) WS.zero ∧ w.heap.size ≤ o ∧ Below w.heap.size w w' := by
  obtain ⟨ow, sq, fi, wo, de⟩ := s
  simp only at hn
  have hr := rRight_any ⟨ow, sq, fi, wo, de⟩ (w.alloc (.cells #[.int .i64 ow, .int .i64 sq, .int .i64 fi, .int .i64 wo, .int .i64 de] 45))
  have B0 := Lib.hid (Blk.new w 45 #[.int .i64 ow, .int .i64 sq, .int .i64 fi, .int .i64 wo, .int .i64 de])
  have L0 := Lib.hid ((Below.refl w.heap.size w).alloc (Nat.le_refl _) (.cells #[.int .i64 ow, .int .i64 sq, .int .i64 fi, .int .i64 wo, .int .i64 de] 45))
  obtain ⟨hd, ht1, ht2⟩ := mayF_true hm
  rw [hd] at hr
  unfold Spot.val at hr ⊢
  simp only at hr ⊢
  have HR := Lib.hid hr
  have k1 : decide (tries < 1) = false := decide_eq_false (by omega)
  have k2 : decide (tries > 16) = false := decide_eq_false (by omega)
  have k3 : ((n : Int) != wo) = false := by simpa using hn
  clear hn
  clear hr hm hd ht1 ht2
  go_enter Try.func12, Try.ntmps12
  have s0 := B0.out.cell 0
  have s1 := B0.out.cell 1
  have s2 := B0.out.cell 2
  have s3 := B0.out.cell 3
  have s4 := B0.out.cell 4
  simp only [List.getElem?_toArray, List.getElem?_cons_succ, List.getElem?_cons_zero] at s0 s1 s2 s3 s4
  go_wp2_with fail
  refine HR.out.mono ?_; rintro e w2 ⟨rfl, hb⟩
  have L1 := Lib.hid (bl L0.out hb)
  have B1 := Lib.hid (B0.out.bl hb)
  clear hb s0 s1 s2 s3 s4
  have s0 := B1.out.cell 0
  have s1 := B1.out.cell 1
  have s2 := B1.out.cell 2
  have s3 := B1.out.cell 3
  have s4 := B1.out.cell 4
  simp only [List.getElem?_toArray, List.getElem?_cons_succ, List.getElem?_cons_zero] at s0 s1 s2 s3 s4
  go_wp2_with fail
  have OB := Lib.hid (Blk.new w2 56 #[.int .i64 ow, .int .i64 sq, .int .i64 fi, .int .i64 wo, .int .i64 de, .slice a n c, .int .i64 tries, .int .i64 1, .int .i64 0, .int .u64 0, .int .i64 0, .int .i64 0, .int .i64 0])
  have L2 := Lib.hid (L1.out.alloc L1.out.size (.cells #[.int .i64 ow, .int .i64 sq, .int .i64 fi, .int .i64 wo, .int .i64 de, .slice a n c, .int .i64 tries, .int .i64 1, .int .i64 0, .int .u64 0, .int .i64 0, .int .i64 0, .int .i64 0] 56))
  go_ret2
  exact ⟨w2.heap.size, rfl, OB.out, L1.out.size, L2.out⟩
theorem fMost_any (s : Spot) (tries : Int) (w : World) :
    Calls Try.prog 15 #[s.val, .int .i64 tries] w fun e w' => e = .returned (.int .i64 (mostF s tries)) ∧ Below w.heap.size w w' := by
  unfold mostF
  by_cases hm : mayF s tries = true
  case neg =>
    rw [if_neg hm]
    rw [Bool.not_eq_true] at hm
    obtain ⟨ow, sq, fi, wo, de⟩ := s
    have hr := rRight_any ⟨ow, sq, fi, wo, de⟩ (w.alloc (.cells #[.int .i64 ow, .int .i64 sq, .int .i64 fi, .int .i64 wo, .int .i64 de] 45))
    have B0 := Lib.hid (Blk.new w 45 #[.int .i64 ow, .int .i64 sq, .int .i64 fi, .int .i64 wo, .int .i64 de])
    have L0 := Lib.hid ((Below.refl w.heap.size w).alloc (Nat.le_refl _) (.cells #[.int .i64 ow, .int .i64 sq, .int .i64 fi, .int .i64 wo, .int .i64 de] 45))
    rcases mayF_false hm with hd | ⟨hd, ht⟩ | ⟨hd, ht0, ht⟩
    · rw [hd] at hr
      unfold Spot.val at hr ⊢
      simp only at hr ⊢
      have HR := Lib.hid hr
      clear hr hm hd
      go_enter Try.func15, Try.ntmps15
      have s0 := B0.out.cell 0
      have s1 := B0.out.cell 1
      have s2 := B0.out.cell 2
      have s3 := B0.out.cell 3
      have s4 := B0.out.cell 4
      simp only [List.getElem?_toArray, List.getElem?_cons_succ, List.getElem?_cons_zero] at s0 s1 s2 s3 s4
      go_wp2_with fail
      refine HR.out.mono ?_; rintro e w2 ⟨rfl, hb⟩
      have L1 := Lib.hid (bl L0.out hb)
      clear hb s0 s1 s2 s3 s4
      go_wp2_with fail
      go_ret
      exact ⟨rfl, L1.out⟩
    · rw [hd] at hr
      unfold Spot.val at hr ⊢
      simp only at hr ⊢
      have HR := Lib.hid hr
      have k1 : decide (tries < 1) = true := decide_eq_true ht
      clear hr hm hd ht
      go_enter Try.func15, Try.ntmps15
      have s0 := B0.out.cell 0
      have s1 := B0.out.cell 1
      have s2 := B0.out.cell 2
      have s3 := B0.out.cell 3
      have s4 := B0.out.cell 4
      simp only [List.getElem?_toArray, List.getElem?_cons_succ, List.getElem?_cons_zero] at s0 s1 s2 s3 s4
      go_wp2_with fail
      refine HR.out.mono ?_; rintro e w2 ⟨rfl, hb⟩
      have L1 := Lib.hid (bl L0.out hb)
      clear hb s0 s1 s2 s3 s4
      go_wp2_with fail
      go_ret
      exact ⟨rfl, L1.out⟩
    · rw [hd] at hr
      unfold Spot.val at hr ⊢
      simp only at hr ⊢
      have HR := Lib.hid hr
      have k1 : decide (tries < 1) = false := decide_eq_false (by omega)
      have k2 : decide (tries > 16) = true := decide_eq_true ht
      clear hr hm hd ht ht0
      go_enter Try.func15, Try.ntmps15
      have s0 := B0.out.cell 0
      have s1 := B0.out.cell 1
      have s2 := B0.out.cell 2
      have s3 := B0.out.cell 3
      have s4 := B0.out.cell 4
      simp only [List.getElem?_toArray, List.getElem?_cons_succ, List.getElem?_cons_zero] at s0 s1 s2 s3 s4
      go_wp2_with fail
      refine HR.out.mono ?_; rintro e w2 ⟨rfl, hb⟩
      have L1 := Lib.hid (bl L0.out hb)
      clear hb s0 s1 s2 s3 s4
      go_wp2_with fail
      go_ret
      exact ⟨rfl, L1.out⟩
  rw [if_pos hm]
  obtain ⟨ow, sq, fi, wo, de⟩ := s
  have hr := rRight_any ⟨ow, sq, fi, wo, de⟩ (w.alloc (.cells #[.int .i64 ow, .int .i64 sq, .int .i64 fi, .int .i64 wo, .int .i64 de] 45))
  have B0 := Lib.hid (Blk.new w 45 #[.int .i64 ow, .int .i64 sq, .int .i64 fi, .int .i64 wo, .int .i64 de])
  have L0 := Lib.hid ((Below.refl w.heap.size w).alloc (Nat.le_refl _) (.cells #[.int .i64 ow, .int .i64 sq, .int .i64 fi, .int .i64 wo, .int .i64 de] 45))
  obtain ⟨hd, ht1, ht2⟩ := mayF_true hm
  rw [hd] at hr
  unfold Spot.val at hr ⊢
  simp only at hr ⊢
  have HR := Lib.hid hr
  have k1 : decide (tries < 1) = false := decide_eq_false (by omega)
  have k2 : decide (tries > 16) = false := decide_eq_false (by omega)
  have hwo : 1 ≤ wo ∧ wo ≤ 64 := (of_decide_eq_true hd).1
  have hw : wrap64 (wrap64 (wrap64 (2 * tries) + wo) + 1) = 2 * tries + wo + 1 := by
    rw [wrap64_in (2 * tries) (by omega), wrap64_in (2 * tries + wo) (by omega), wrap64_in _ (by omega)]
  have HW := Lib.hid hw
  clear hw hwo
  clear hr hm hd ht1 ht2
  go_enter Try.func15, Try.ntmps15
  have s0 := B0.out.cell 0
  have s1 := B0.out.cell 1
  have s2 := B0.out.cell 2
  have s3 := B0.out.cell 3
  have s4 := B0.out.cell 4
  simp only [List.getElem?_toArray, List.getElem?_cons_succ, List.getElem?_cons_zero] at s0 s1 s2 s3 s4
  go_wp2_with fail
  refine HR.out.mono ?_; rintro e w2 ⟨rfl, hb⟩
  have L1 := Lib.hid (bl L0.out hb)
  have B1 := Lib.hid (B0.out.bl hb)
  clear hb s0 s1 s2 s3 s4
  have s0 := B1.out.cell 0
  have s1 := B1.out.cell 1
  have s2 := B1.out.cell 2
  have s3 := B1.out.cell 3
  have s4 := B1.out.cell 4
  simp only [List.getElem?_toArray, List.getElem?_cons_succ, List.getElem?_cons_zero] at s0 s1 s2 s3 s4
  go_wp2_with fail
  go_ret
  exact ⟨congrArg (fun z => Ending.returned (.int .i64 z)) HW.out, L1.out⟩
/-- (*Op).again: what it leaves -/
theorem fagain_any (o : Nat) (s : Spot) (tries : Int) (v : Value) (x : WS) (w : World) (hb : Blk w o 56 (fCs s tries v x)) (hl : 0 ≤ x.had ∧ x.had < tries ∧ tries ≤ 16) :
    Calls Try.prog 34 #[.pointer (some ⟨o, 0, none⟩)] w fun e w' => e = .returned (.tuple #[]) ∧ Blk w' o 56 (fCs s tries v (x.again0 tries)) ∧ Ex (fun k => k = o) w w' := by
  have q0 := hb.cell 0
  have q8 := hb.cell 8
  have f8 := hb.frozen 8
  have f7 := hb.frozen 7
  have q7 := hb.cell 7
  obtain ⟨how, next, had, steps, sq, nn⟩ := x
  unfold fCs at q0 q8 q7
  simp only [List.getElem?_toArray, List.getElem?_cons_succ, List.getElem?_cons_zero] at q0 q8 q7
  have e1 := (hb.set_ 8 (.int .i64 (had + 1))).set_ 7 (.int .i64 1)
  unfold fCs at e1
  simp only [List.setIfInBounds_toArray, List.set_cons_succ, List.set_cons_zero] at e1
  have x1 := (((Ex.refl (fun k => k = o) w).setCell (q := ⟨o, 8, none⟩) (.inl rfl) (.int .i64 (had + 1))).setCell (q := ⟨o, 7, none⟩) (.inl rfl) (.int .i64 1))
  simp only at hl
  have hw : wrap64 (had + 1) = had + 1 := wrap64_in _ (by omega)
  have HL := Lib.hid hl
  have E1 := Lib.hid e1
  have X1 := Lib.hid x1
  clear hb e1 x1 hl
  unfold WS.again0
  simp only
  by_cases hd : had + 1 = tries
  · have HD := Lib.hid hd
    rw [if_pos hd]
    clear hd
    go_enter Try.func34, Try.ntmps34
    go_upto_region 2 with fail
    clear q0 q8 q7 f8 f7
    generalize (w.setCell ⟨o, 8, none⟩ (.int .i64 (had + 1))).setCell ⟨o, 7, none⟩ (.int .i64 1) = w2 at *
    have hne : Nonempty (Held (fun W => W = w2.drew)) := ⟨⟨_, rfl⟩⟩
    have s0 : ∀ y : Held (fun W => W = w2.drew), y.w.cell? ⟨o, 0, none⟩ = some (.int .i64 s.owners) := fun y => by rw [y.ok]; exact E1.out.cell 0
    have s6 : ∀ y : Held (fun W => W = w2.drew), y.w.cell? ⟨o, 6, none⟩ = some (.int .i64 tries) := fun y => by rw [y.ok]; exact E1.out.cell 6
    have s8 : ∀ y : Held (fun W => W = w2.drew), y.w.cell? ⟨o, 8, none⟩ = some (.int .i64 (had + 1)) := fun y => by rw [y.ok]; exact E1.out.cell 8
    refine drawn_bars (S := fun _ => True) [] [0, 1, 2, 3, 4, 5, 6, 7, 8] (by kernel_rfl) (by kernel_rfl) (by kernel_rfl) rfl trivial ?_
    refine Phased.end_ ?_
    simp only [pick, List.map_cons, List.map_nil, List.getElem?_cons_zero, List.getElem?_cons_succ, Option.getD_some]
    repeat (go_big_quiet_step (fail))
    refine wpQuiet_nil ?_
    clear hne s0 s6 s8
    have E2 := Lib.hid (show Blk w2.drew o 56 _ from E1.out)
    have X2 := Lib.hid (X1.out.drew)
    clear E1 X1
    generalize w2.drew = w3 at *
    have kd : decide (tries ≤ had + 1) = true := decide_eq_true (by have := HD.out; omega)
    have kp : tries ≤ had + 1 := by have := HD.out; omega
    have q0 := E2.out.cell 0
    have f11 := E2.out.frozen 11
    have q11 := E2.out.cell 11
    simp only [List.getElem?_toArray, List.getElem?_cons_succ, List.getElem?_cons_zero] at q0 q11
    have e3 := E2.out.set_ 11 (.int .i64 2)
    simp only [List.setIfInBounds_toArray, List.set_cons_succ, List.set_cons_zero] at e3
    have E3 := Lib.hid e3
    have X3 := Lib.hid (X2.out.setCell (q := ⟨o, 11, none⟩) (.inl rfl) (.int .i64 2))
    clear e3 E2 X2
    go_wp2_with fail
    go_end0
    exact ⟨rfl, E3.out, X3.out⟩
  · have HD := Lib.hid hd
    rw [if_neg hd]
    clear hd
    go_enter Try.func34, Try.ntmps34
    go_upto_region 2 with fail
    clear q0 q8 q7 f8 f7
    generalize (w.setCell ⟨o, 8, none⟩ (.int .i64 (had + 1))).setCell ⟨o, 7, none⟩ (.int .i64 1) = w2 at *
    have hne : Nonempty (Held (fun W => W = w2.drew)) := ⟨⟨_, rfl⟩⟩
    have s0 : ∀ y : Held (fun W => W = w2.drew), y.w.cell? ⟨o, 0, none⟩ = some (.int .i64 s.owners) := fun y => by rw [y.ok]; exact E1.out.cell 0
    have s6 : ∀ y : Held (fun W => W = w2.drew), y.w.cell? ⟨o, 6, none⟩ = some (.int .i64 tries) := fun y => by rw [y.ok]; exact E1.out.cell 6
    have s8 : ∀ y : Held (fun W => W = w2.drew), y.w.cell? ⟨o, 8, none⟩ = some (.int .i64 (had + 1)) := fun y => by rw [y.ok]; exact E1.out.cell 8
    refine drawn_bars (S := fun _ => True) [] [0, 1, 2, 3, 4, 5, 6, 7, 8] (by kernel_rfl) (by kernel_rfl) (by kernel_rfl) rfl trivial ?_
    refine Phased.end_ ?_
    simp only [pick, List.map_cons, List.map_nil, List.getElem?_cons_zero, List.getElem?_cons_succ, Option.getD_some]
    repeat (go_big_quiet_step (fail))
    refine wpQuiet_nil ?_
    clear hne s0 s6 s8
    have E2 := Lib.hid (show Blk w2.drew o 56 _ from E1.out)
    have X2 := Lib.hid (X1.out.drew)
    clear E1 X1
    generalize w2.drew = w3 at *
    have kd : decide (tries ≤ had + 1) = false := decide_eq_false (by have := HL.out; have := HD.out; omega)
    have kp : had + 1 < tries := by have := HL.out; have := HD.out; omega
    go_wp2_with fail
    go_end0
    exact ⟨rfl, E2.out, X2.out⟩
theorem fGen_any (o : Nat) (s : Spot) (tries : Int) (v : Value) (x : WS) (w : World) (ho : RefAt w o s tries v x) (hs : 0 ≤ x.sq ∧ x.sq ≤ 18446744073709551615) :
    Calls Try.prog 20 #[.pointer (some ⟨o, 0, none⟩)] w fun e w' => e = .returned (.int .u64 x.gen) ∧ w = w' := by
  have q0 := Blk.cell ho 0
  have q11 := Blk.cell ho 11
  have q9 := Blk.cell ho 9
  simp only [fCs, List.getElem?_toArray, List.getElem?_cons_succ, List.getElem?_cons_zero] at q0 q11 q9
  unfold WS.gen
  by_cases hh : x.how = 1
  · have hd : (x.how != 1) = false := by simpa using hh
    rw [if_pos hh]
    have hw : IntKind.u64.wrap (IntKind.u64.wrap (x.sq.tdiv 2) + 1) = IntKind.u64.wrap (x.sq / 2 + 1) := by rw [Int.tdiv_eq_ediv_of_nonneg hs.1, u64_wrap_in (show 0 ≤ x.sq / 2 ∧ x.sq / 2 ≤ 18446744073709551615 by omega)]
    have HW := Lib.hid hw
    clear ho hh hs hw
    go_enter Try.func20, Try.ntmps20
    go_wp2_with fail
    go_ret
    exact ⟨congrArg (fun z => Ending.returned (.int .u64 z)) HW.out, rfl⟩
  · have hd : (x.how != 1) = true := by simpa using hh
    rw [if_neg hh]
    clear ho hh
    go_enter Try.func20, Try.ntmps20
    go_wp2_with fail
    go_ret
    exact ⟨rfl, rfl⟩
end Go.Proofs.Ytpfjadgcnaffgaa.Bank
