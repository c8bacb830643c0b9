/-
  The document's answers for a reading: whether a generation is kept, what is new, how many steps there may be. Conditions stand at each. By an AI agent.
-/
import Derived.Test.YtihogagnjikghaaRf
import Derived.Test.YtihogagnjikghaaRdN
namespace Go.Proofs.Ytihogagnjikghaa.Bank
set_option linter.unusedVariables false
set_option linter.unusedSimpArgs false
open Go Go.RowKit Go.Proofs.Ytihogagnjikghaa.Base

theorem r7May_any (d : Int) (w : World) :
    Calls Try.prog 52 #[.int .i64 d] w fun e w' => e = .returned (.bool (decide (2 ≤ d ∧ d ≤ 16))) ∧ w = w' := by
  by_cases h1 : 2 ≤ d
  · have k1 : decide (d ≥ 2) = true := decide_eq_true h1
    by_cases h2 : d ≤ 16
    · have k2 : decide (d ≤ 16) = true := decide_eq_true h2
      rw [decide_eq_true (show 2 ≤ d ∧ d ≤ 16 from ⟨h1, h2⟩)]
      clear h1 h2
      go_enter Try.func52, Try.ntmps52
      go_wp2_with fail
      go_ret
      exact ⟨rfl, rfl⟩
    · have k2 : decide (d ≤ 16) = false := decide_eq_false h2
      rw [decide_eq_false (show ¬ (2 ≤ d ∧ d ≤ 16) from fun h => h2 h.2)]
      clear h1 h2
      go_enter Try.func52, Try.ntmps52
      go_wp2_with fail
      go_ret
      exact ⟨rfl, rfl⟩
  · have k1 : decide (d ≥ 2) = false := decide_eq_false h1
    rw [decide_eq_false (show ¬ (2 ≤ d ∧ d ≤ 16) from fun h => h1 h.1)]
    clear h1
    go_enter Try.func52, Try.ntmps52
    go_wp2_with fail
    go_ret
    exact ⟨rfl, rfl⟩
theorem r7Gen_any (v : Int) (w : World) (h : 0 ≤ v ∧ v ≤ 18446744073709551615) :
    Calls Try.prog 62 #[.int .u64 v] w fun e w' => e = .returned (.int .u64 (v / 2)) ∧ w = w' := by
  have hv : IntKind.u64.wrap (v.tdiv 2) = v / 2 := by rw [Int.tdiv_eq_ediv_of_nonneg h.1]; exact u64_wrap_in (by omega)
  have HV := Lib.hid hv
  clear h hv
  go_enter Try.func62, Try.ntmps62
  go_wp2_with fail
  go_ret
  first | exact ⟨by rw [← HV.out]; rfl, rfl⟩ | exact ⟨by rw [← HV.out], rfl⟩
theorem r7Held_any (v : Int) (w : World) (h : 0 ≤ v ∧ v ≤ 18446744073709551615) :
    Calls Try.prog 63 #[.int .u64 v] w fun e w' => e = .returned (.bool (v % 2 == 1)) ∧ w = w' := by
  have hv : (v.tmod 2 == 1) = (v % 2 == 1) := by rw [Int.tmod_eq_emod_of_nonneg h.1]
  have HV := Lib.hid hv
  clear h hv
  go_enter Try.func63, Try.ntmps63
  go_wp2_with fail
  go_ret
  exact ⟨by rw [← HV.out]; rfl, rfl⟩
theorem r7Whole_any (v g d : Int) (w : World) (h : 0 ≤ v ∧ v ≤ 18446744073709551615) (hg : 0 ≤ g) (hd : 2 ≤ d ∧ d ≤ 16) :
    Calls Try.prog 53 #[.int .u64 v, .int .u64 g, .int .i64 d] w fun e w' => e = .returned (.bool (keptB v g d)) ∧ w = w' := by
  have hk : keptB v g d = (decide (g ≤ v / 2) && decide (IntKind.u64.wrap (newF v - g) < d)) := by unfold keptB; rw [decide_eq_true hd, Bool.true_and]
  rw [hk]
  have hu : IntKind.u64.wrap d = d := u64_wrap_in (by omega)
  have HG := Lib.hid (r7Gen_any v w h)
  have HH := Lib.hid (r7Held_any v w h)
  unfold newF
  by_cases h1 : g ≤ v / 2
  case neg =>
    rw [decide_eq_false h1, Bool.false_and]
    generalize v / 2 = n at *
    have k1 : decide (g > n) = true := decide_eq_true (by omega)
    clear h hg hd hk hu HH h1
    go_enter Try.func53, Try.ntmps53
    go_wp2_with fail
    refine HG.out.mono ?_; rintro e w' ⟨rfl, rfl⟩
    go_wp2_with fail
    go_ret
    exact ⟨rfl, rfl⟩
  rw [decide_eq_true h1, Bool.true_and]
  have hw0 : IntKind.u64.wrap (v / 2 - g) = v / 2 - g := u64_wrap_in (by omega)
  have hw2 : IntKind.u64.wrap (v / 2 - g + 1) = v / 2 - g + 1 := u64_wrap_in (by omega)
  by_cases hh : v % 2 = 1
  · have hb : (v % 2 == 1) = true := beq_iff_eq.2 hh
    rw [hb] at HH
    rw [show v / 2 + v % 2 - g = v / 2 - g + 1 by omega, hw2]
    generalize v / 2 = n at *
    have k1 : decide (g > n) = false := decide_eq_false (by omega)
    generalize hq : decide (n - g + 1 < d) = q
    have HQ := Lib.hid hq
    clear h hg hd hk hq hb hh h1
    go_enter Try.func53, Try.ntmps53
    go_wp2_with fail
    refine HG.out.mono ?_; rintro e w' ⟨rfl, rfl⟩
    go_wp2_with fail
    refine HH.out.mono ?_; rintro e w' ⟨rfl, rfl⟩
    go_wp2_with fail
    go_ret
    exact ⟨by rw [← HQ.out]; rfl, rfl⟩
  · have hb : (v % 2 == 1) = false := beq_eq_false_iff_ne.2 hh
    rw [hb] at HH
    rw [show v / 2 + v % 2 - g = v / 2 - g by omega, hw0]
    generalize v / 2 = n at *
    have k1 : decide (g > n) = false := decide_eq_false (by omega)
    generalize hq : decide (n - g < d) = q
    have HQ := Lib.hid hq
    clear h hg hd hk hq hb hh h1
    go_enter Try.func53, Try.ntmps53
    go_wp2_with fail
    refine HG.out.mono ?_; rintro e w' ⟨rfl, rfl⟩
    go_wp2_with fail
    refine HH.out.mono ?_; rintro e w' ⟨rfl, rfl⟩
    go_wp2_with fail
    go_ret
    exact ⟨by rw [← HQ.out]; rfl, rfl⟩
theorem r7Kept_any (v g d : Int) (w : World) (h : 0 ≤ v ∧ v ≤ 18446744073709551615) (hg : 0 ≤ g) (hd : 2 ≤ d ∧ d ≤ 16) :
    Calls Try.prog 35 #[.int .u64 v, .int .u64 g, .int .i64 d] w fun e w' => e = .returned (.bool (keptB v g d)) ∧ w = w' := by
  have HM := Lib.hid (r7May_any d w)
  rw [decide_eq_true hd] at HM
  have HW := Lib.hid (r7Whole_any v g d w h hg hd)
  generalize keptB v g d = q at *
  clear h hg hd
  go_enter Try.func35, Try.ntmps35
  go_wp2_with fail
  refine HM.out.mono ?_; rintro e w' ⟨rfl, rfl⟩
  go_wp2_with fail
  refine HW.out.mono ?_; rintro e w' ⟨rfl, rfl⟩
  go_wp2_with fail
  go_ret
  exact ⟨rfl, rfl⟩
/-- its struct's cells -/
def frCs (s : Spot) (tries : Int) (v : Value) (x : RS) : Array Value :=
  #[.int .i64 s.owners, .int .i64 s.seq, .int .i64 s.first, .int .i64 s.words, .int .i64 s.depth, .int .i64 tries, .int .i64 (x.next + 1), .int .i64 x.had, .int .u64 x.gen, v, .int .i64 x.begun, .int .i64 x.how, .int .i64 x.steps]
/-- the document's reading in memory: its words in a row of its own, from block base on -/
structure RfAt (w : World) (base o : Nat) (s : Spot) (tries : Int) (v : Value) (W : List Int) (x : RS) : Prop where
  head : Blk w o 50 (frCs s tries v x)
  own : w.ownsRow base 43 1 v W.length (W.map (Value.int .u64))
  lt : o < base ∧ base ≤ w.heap.size
theorem ownsRow_ex {T : Nat → Prop} {w w' : World} {base e size n : Nat} {v : Value} {xs : List Value} (h : w.ownsRow base e size v n xs) (p : Ex T w w') (hT : ∀ k, v.ownBlock = some k → ¬ T k) : w'.ownsRow base e size v n xs := by
  have hlt := h.lt
  obtain ⟨h1, h2⟩ := h
  refine ⟨h1, ?_⟩
  rcases h2 with h2 | ⟨g, cap, cur, hv, hg, hh, r⟩
  · exact .inl h2
  · exact .inr ⟨g, cap, cur, hv, hg, (p.block g (hlt g (by rw [hv]; rfl)).2 (hT g (by rw [hv]; rfl))).trans hh, r⟩
theorem RfAt.ex {T : Nat → Prop} {w w' : World} {base o : Nat} {s : Spot} {tries : Int} {v : Value} {W : List Int} {x : RS} (h : RfAt w base o s tries v W x) (p : Ex T w w') (ho : ¬ T o) (hT : ∀ k, T k → k < base) : RfAt w' base o s tries v W x :=
  ⟨h.head.ex p ho, ownsRow_ex h.own p (fun k hk ht => by have h1 := hT k ht; have h2 := (h.own.lt k hk).1; omega), h.lt.1, Nat.le_trans h.lt.2 p.size⟩
theorem RfAt.below {w w' : World} {base o : Nat} {s : Spot} {tries : Int} {v : Value} {W : List Int} {x : RS} (h : RfAt w base o s tries v W x) (p : Below w.heap.size w w') : RfAt w' base o s tries v W x :=
  h.ex (T := fun _ => False) (Ex.of_below p) (fun h => h) (fun _ h => h.elim)
theorem mayF_false {s : Spot} {tries : Int} (h : mayF s tries = false) : decide s.Right = false ∨ (decide s.Right = true ∧ tries < 1) ∨ (decide s.Right = true ∧ 1 ≤ tries ∧ 16 < tries) := by
  unfold mayF at h
  have h := of_decide_eq_false h
  by_cases hr : s.Right
  · rw [decide_eq_true hr]
    have h2 : ¬ (1 ≤ tries ∧ tries ≤ 16) := fun h9 => h ⟨hr, h9⟩
    rcases Int.lt_or_le tries 1 with h1 | h1
    · exact .inr (.inl ⟨rfl, h1⟩)
    · exact .inr (.inr ⟨rfl, h1, by omega⟩)
  · exact .inl (decide_eq_false hr)
theorem mayF_true {s : Spot} {tries : Int} (h : mayF s tries = true) : decide s.Right = true ∧ 1 ≤ tries ∧ tries ≤ 16 := by
  have h : s.Right ∧ 1 ≤ tries ∧ tries ≤ 16 := of_decide_eq_true h
  exact ⟨decide_eq_true h.1, h.2⟩
theorem fRNew_may (s : Spot) (tries : Int) (w : World) (hm : mayF s tries = false) :
    Calls Try.prog 10 #[s.val, .int .i64 tries] w fun e w' => e = .returned (.tuple #[.pointer none, .int .i64 10]) ∧ Below w.heap.size w w' := by
  obtain ⟨ow, sq, fi, wo, de⟩ := s
  have hr := rRight_any ⟨ow, sq, fi, wo, de⟩ (w.alloc (.cells #[.int .i64 ow, .int .i64 sq, .int .i64 fi, .int .i64 wo, .int .i64 de] 38))
  have L0 := Lib.hid ((Below.refl w.heap.size w).alloc (Nat.le_refl _) (.cells #[.int .i64 ow, .int .i64 sq, .int .i64 fi, .int .i64 wo, .int .i64 de] 38))
  have HW : (decide (Spot.Right ⟨ow, sq, fi, wo, de⟩) = false) ∨ (decide (Spot.Right ⟨ow, sq, fi, wo, de⟩) = true ∧ decide (tries < 1) = true) ∨ (decide (Spot.Right ⟨ow, sq, fi, wo, de⟩) = true ∧ decide (tries < 1) = false ∧ decide (tries > 16) = true) := by
    rcases mayF_false hm with hd | ⟨hd, ht⟩ | ⟨hd, ht0, ht⟩
    · exact .inl hd
    · exact .inr (.inl ⟨hd, decide_eq_true ht⟩)
    · exact .inr (.inr ⟨hd, decide_eq_false (by omega), decide_eq_true ht⟩)
  clear hm
  unfold Spot.val at *
  simp only at *
  rcases HW with hd | ⟨hd, ht⟩ | ⟨hd, ht0, ht⟩
  all_goals
    rw [hd] at hr
    have HR := Lib.hid hr
    clear hr hd
    go_enter Try.func10, Try.ntmps10
    go_wp2_with fail
    refine HR.out.mono ?_; rintro e w1 ⟨rfl, hb⟩
    have L1 := Lib.hid (bl L0.out hb)
    clear hb
    go_wp2_with fail
    go_ret2
    exact ⟨rfl, L1.out⟩
theorem fRNew_in (s : Spot) (tries : Int) (w : World) (hm : mayF s tries = true) :
    Calls Try.prog 10 #[s.val, .int .i64 tries] w fun e w' => ∃ o, e = .returned (.tuple #[.pointer (some ⟨o, 0, none⟩), .int .i64 0]) ∧ Blk w' o 50 (frCs s tries (.slice none 0 0) RS.zero) ∧ w.heap.size ≤ o ∧ Below w.heap.size w w' := by
  obtain ⟨ow, sq, fi, wo, de⟩ := s
  have hr := rRight_any ⟨ow, sq, fi, wo, de⟩ (w.alloc (.cells #[.int .i64 ow, .int .i64 sq, .int .i64 fi, .int .i64 wo, .int .i64 de] 38))
  have L0 := Lib.hid ((Below.refl w.heap.size w).alloc (Nat.le_refl _) (.cells #[.int .i64 ow, .int .i64 sq, .int .i64 fi, .int .i64 wo, .int .i64 de] 38))
  have B0 := Lib.hid (Blk.new w 38 #[.int .i64 ow, .int .i64 sq, .int .i64 fi, .int .i64 wo, .int .i64 de])
  obtain ⟨hd, h1, h2⟩ := mayF_true hm
  have k1 : decide (tries < 1) = false := decide_eq_false (by omega)
  have k2 : decide (tries > 16) = false := decide_eq_false (by omega)
  rw [hd] at hr
  unfold Spot.val at *
  simp only at *
  have HR := Lib.hid hr
  clear hr hd hm h1 h2
  go_enter Try.func10, Try.ntmps10
  go_wp2_with fail
  refine HR.out.mono ?_; rintro e w1 ⟨rfl, hb⟩
  have L1 := Lib.hid (bl L0.out hb)
  have B1 := Lib.hid (B0.out.bl hb)
  clear hb B0 L0
  have q0 := B1.out.cell 0
  have q1 := B1.out.cell 1
  have q2 := B1.out.cell 2
  have q3 := B1.out.cell 3
  have q4 := B1.out.cell 4
  simp only [List.getElem?_toArray, List.getElem?_cons_succ, List.getElem?_cons_zero] at q0 q1 q2 q3 q4
  go_wp2_with fail
  go_ret2
  exact ⟨_, rfl, Blk.new w1 _ _, L1.out.size, L1.out.alloc L1.out.size _⟩
theorem fRMost_any (s : Spot) (tries : Int) (w : World) :
    Calls Try.prog 13 #[s.val, .int .i64 tries] w fun e w' => e = .returned (.int .i64 (mostR s tries)) ∧ Below w.heap.size w w' := by
  have HF := fun h : mayF s tries = false => show mostR s tries = 0 by unfold mostR; rw [h]; rfl
  have HT := fun h : mayF s tries = true => show mostR s tries = (s.words + 2) * tries by unfold mostR; rw [if_pos h]
  obtain ⟨ow, sq, fi, wo, de⟩ := s
  have hr := rRight_any ⟨ow, sq, fi, wo, de⟩ (w.alloc (.cells #[.int .i64 ow, .int .i64 sq, .int .i64 fi, .int .i64 wo, .int .i64 de] 38))
  have L0 := Lib.hid ((Below.refl w.heap.size w).alloc (Nat.le_refl _) (.cells #[.int .i64 ow, .int .i64 sq, .int .i64 fi, .int .i64 wo, .int .i64 de] 38))
  have B0 := Lib.hid (Blk.new w 38 #[.int .i64 ow, .int .i64 sq, .int .i64 fi, .int .i64 wo, .int .i64 de])
  cases hm : mayF ⟨ow, sq, fi, wo, de⟩ tries with
  | true =>
    rw [HT hm]
    obtain ⟨hd, h1, h2⟩ := mayF_true hm
    have hright := of_decide_eq_true hd
    have k1 : decide (tries < 1) = false := decide_eq_false (by omega)
    have k2 : decide (tries > 16) = false := decide_eq_false (by omega)
    have hw1 : wrap64 (wo + 2) = wo + 2 := wrap64_in _ (by have := hright.1; simp only at this; omega)
    have hwt := words_tries hright ⟨h1, h2⟩
    simp only at hwt
    have hw2 : wrap64 ((wo + 2) * tries) = (wo + 2) * tries := wrap64_in _ (by omega)
    have HW1 := Lib.hid hw1
    have HW2 := Lib.hid hw2
    rw [hd] at hr
    unfold Spot.val at *
    simp only at *
    have HR := Lib.hid hr
    clear hr hd hm h1 h2 hright hwt HF HT hw1 hw2
    go_enter Try.func13, Try.ntmps13
    go_wp2_with fail
    refine HR.out.mono ?_; rintro e w1 ⟨rfl, hb⟩
    have L1 := Lib.hid (bl L0.out hb)
    have B1 := Lib.hid (B0.out.bl hb)
    clear hb B0 L0
    have q3 := B1.out.cell 3
    simp only [List.getElem?_toArray, List.getElem?_cons_succ, List.getElem?_cons_zero] at q3
    have hw1 := HW1.out
    go_wp2_with fail
    go_ret
    refine ⟨?_, L1.out⟩
    show Ending.returned (.int .i64 (wrap64 ((wo + 2) * tries))) = _
    rw [HW2.out]
  | false =>
    rw [HF hm]
    have HW : (decide (Spot.Right ⟨ow, sq, fi, wo, de⟩) = false) ∨ (decide (Spot.Right ⟨ow, sq, fi, wo, de⟩) = true ∧ decide (tries < 1) = true) ∨ (decide (Spot.Right ⟨ow, sq, fi, wo, de⟩) = true ∧ decide (tries < 1) = false ∧ decide (tries > 16) = true) := by
      rcases mayF_false hm with hd | ⟨hd, ht⟩ | ⟨hd, ht0, ht⟩
      · exact .inl hd
      · exact .inr (.inl ⟨hd, decide_eq_true ht⟩)
      · exact .inr (.inr ⟨hd, decide_eq_false (by omega), decide_eq_true ht⟩)
    clear hm HF HT
    unfold Spot.val at *
    simp only at *
    rcases HW with hd | ⟨hd, ht⟩ | ⟨hd, ht0, ht⟩
    all_goals
      rw [hd] at hr
      have HR := Lib.hid hr
      clear hr hd
      go_enter Try.func13, Try.ntmps13
      go_wp2_with fail
      refine HR.out.mono ?_; rintro e w1 ⟨rfl, hb⟩
      have L1 := Lib.hid (bl L0.out hb)
      clear hb
      go_wp2_with fail
      go_ret
      exact ⟨rfl, L1.out⟩
end Go.Proofs.Ytihogagnjikghaa.Bank
