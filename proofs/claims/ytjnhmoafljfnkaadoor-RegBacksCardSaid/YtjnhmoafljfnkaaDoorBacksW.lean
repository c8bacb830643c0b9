/-
  Reg: RegBacks: the law's walk. Condition: the table of ways lies in block 0. By an AI agent.
-/
import Derived.Test.YtjnhmoafljfnkaaDoorRegE
namespace Go.Proofs.YtjnhmoafljfnkaaDoor.Reg
set_option linter.unusedVariables false
set_option linter.unusedSimpArgs false
open Go Go.RowKit Go.Proofs.YtjnhmoafljfnkaaDoor.Base Go.Proofs.YtjnhmoafljfnkaaDoor.Modes Go.Deep

theorem unpack_word (s : St) (hs : s.Ok) (h : mayE s = 0) (W : World) : Calls Tryd.prog 12 #[.int .u64 (wordI s)] W fun e w' => e = .returned (.tuple #[s.val, .int .i64 0]) ∧ Below W.heap.size W w' := by
  have hp := (mayE_zero.1 h).1
  have := Unpack_any (wordI s) (wordI_range hp hs) W
  unfold unS unE at this
  rw [partsOf_word hp hs, if_pos h, if_pos h] at this
  exact this
theorem word_inj {s t : St} (hs : s.Ok) (ht : t.Ok) (h1 : s.Parts) (h2 : t.Parts) (h : wordI s = wordI t) : s = t := by
  rw [← partsOf_word h1 hs, h, partsOf_word h2 ht]
def eqB (s t : St) : Bool := s.mode == t.mode && s.source == t.source && (s.hold == t.hold) && s.flags == t.flags && s.epoch == t.epoch

set_option maxRecDepth 100000 in
set_option maxHeartbeats 32000000 in
theorem RegBacks_walk (s : St) (hs : s.Ok) (t : St) (hst : t.Ok) (x : Int) (hx : 0 ≤ x ∧ x ≤ 18446744073709551615) (w : World) (ht : Tab w) : Calls Tryd.prog 4 #[s.val, t.val, .int .u64 x] w fun e w' => e = .returned (.bool true) ∧ Below w.heap.size w w' := by
  have HT := Lib.hid ht
  clear ht
  have hU := Unpack_any x hx
  have hu : unE x = 0 ∧ (∀ W, Calls Tryd.prog 9 #[(unS x).val] W fun e w' => e = .returned (.tuple #[.int .u64 x, .int .i64 0]) ∧ Below W.heap.size W w') ∨ unE x = 11 ∧ unS x = St.zero := by
    unfold unS unE
    by_cases h : mayE (partsOf x) = 0
    · left
      rw [if_pos h, if_pos h]
      have := Pack_ok (partsOf x) (partsOf_ok hx) h
      rw [word_partsOf hx] at this
      exact ⟨rfl, this⟩
    · right; rw [if_neg h, if_neg h]; exact ⟨rfl, rfl⟩
  have hp : (∃ er, (er == 0) = false ∧ ∀ W, Calls Tryd.prog 9 #[s.val] W fun e w' => e = .returned (.tuple #[.int .u64 0, .int .i64 er]) ∧ Below W.heap.size W w') ∨
      (mayE s = 0 ∧ (∀ W, Calls Tryd.prog 9 #[s.val] W fun e w' => e = .returned (.tuple #[.int .u64 (wordI s), .int .i64 0]) ∧ Below W.heap.size W w') ∧ (∀ W, Calls Tryd.prog 12 #[.int .u64 (wordI s)] W fun e w' => e = .returned (.tuple #[s.val, .int .i64 0]) ∧ Below W.heap.size W w')) := by
    by_cases h : mayE s = 0
    · exact .inr ⟨h, Pack_ok s hs h, unpack_word s hs h⟩
    · exact .inl ⟨mayE s, by simpa using h, Pack_bad s hs h⟩
  have hq : (∃ er, (er == 0) = false ∧ ∀ W, Calls Tryd.prog 9 #[t.val] W fun e w' => e = .returned (.tuple #[.int .u64 0, .int .i64 er]) ∧ Below W.heap.size W w') ∨
      (mayE t = 0 ∧ ∀ W, Calls Tryd.prog 9 #[t.val] W fun e w' => e = .returned (.tuple #[.int .u64 (wordI t), .int .i64 0]) ∧ Below W.heap.size W w') := by
    by_cases h : mayE t = 0
    · exact .inr ⟨h, Pack_ok t hst h⟩
    · exact .inl ⟨mayE t, by simpa using h, Pack_bad t hst h⟩
  have hne : mayE s = 0 → mayE t = 0 → (s = t ∨ ((wordI s == wordI t) = false ∧ ((s.mode == t.mode) = false ∨ (s.mode == t.mode) = true ∧ (s.source == t.source) = false ∨ (s.mode == t.mode) = true ∧ (s.source == t.source) = true ∧ (s.hold == t.hold) = false ∨ (s.mode == t.mode) = true ∧ (s.source == t.source) = true ∧ (s.hold == t.hold) = true ∧ (s.flags == t.flags) = false ∨ (s.mode == t.mode) = true ∧ (s.source == t.source) = true ∧ (s.hold == t.hold) = true ∧ (s.flags == t.flags) = true ∧ (s.epoch == t.epoch) = false))) := by
    intro h1 h2
    by_cases h : s = t
    · exact .inl h
    · right
      refine ⟨?_, ?_⟩
      · have := fun hh => h (word_inj hs hst (mayE_zero.1 h1).1 (mayE_zero.1 h2).1 hh)
        simpa using this
      · obtain ⟨m, so, ho, fl, ep⟩ := s
        obtain ⟨m', so', ho', fl', ep'⟩ := t
        simp only
        by_cases a : m = m'
        · by_cases b : so = so'
          · by_cases c : ho = ho'
            · by_cases d : fl = fl'
              · have e : ¬ ep = ep' := fun e => h (by subst a b c d e; rfl)
                simp [a, b, c, d, e]
              · simp [a, b, c, d]
            · simp [a, b, c]
          · simp [a, b]
        · simp [a]
  generalize unE x = uE at *
  generalize unS x = U at *
  generalize wordI s = wi at *
  generalize hwj : wordI t = wj at *
  clear hwj hs hst
  rcases hp with ⟨er, her, hKS⟩ | ⟨hs0, hKS, hUS⟩
  · clear hne
    rcases hq with ⟨et, het, hKT⟩ | ⟨ht0, hKT⟩
    · rcases hu with ⟨rfl, hKU⟩ | ⟨rfl, rfl⟩
      · have HKS := Lib.hid hKS
        have HKT := Lib.hid hKT
        have HU := Lib.hid hU
        clear hKS hKT hU
        have HKU := Lib.hid hKU
        clear hKU
        have nx : (x == x) = true := by simp
        unfold St.val at *
        have Bs0 := Lib.hid ((blk_new' w (g := w.heap.size) (by simp) 24 #[.int .i64 s.mode, .int .i64 s.source, .bool s.hold, .int .i64 s.flags, .int .u64 s.epoch]).alloc (.cells #[.int .i64 t.mode, .int .i64 t.source, .bool t.hold, .int .i64 t.flags, .int .u64 t.epoch] 24))
        have Bt0 := Lib.hid (blk_new' (w.alloc (.cells #[.int .i64 s.mode, .int .i64 s.source, .bool s.hold, .int .i64 s.flags, .int .u64 s.epoch] 24)) (g := w.heap.size + 1) (by simp) 24 #[.int .i64 t.mode, .int .i64 t.source, .bool t.hold, .int .i64 t.flags, .int .u64 t.epoch])
        have L0 := Lib.hid (((Below.refl w.heap.size w).alloc (by first | exact Nat.le_refl _ | (simp; done) | (simp; omega)) (.cells #[.int .i64 s.mode, .int .i64 s.source, .bool s.hold, .int .i64 s.flags, .int .u64 s.epoch] 24)).alloc (by first | exact Nat.le_refl _ | (simp; done) | (simp; omega)) (.cells #[.int .i64 t.mode, .int .i64 t.source, .bool t.hold, .int .i64 t.flags, .int .u64 t.epoch] 24))
        have T0 := Lib.hid (HT.out.below L0.out)
        go_enter Tryd.func4, Tryd.ntmps4
        go_wp2_with fail
        refine (HKS.out _).mono ?_; rintro e wq1 ⟨rfl, hb1⟩
        have Bs1 := Lib.hid (Bs0.out.bl hb1)
        have Bt1 := Lib.hid (Bt0.out.bl hb1)
        have L1 := Lib.hid (bl L0.out hb1)
        have T1 := Lib.hid (T0.out.below hb1)
        clear hb1 Bs0 Bt0 L0 T0
        have sq0 := Bs1.out.cell 0
        have sq1 := Bs1.out.cell 1
        have sq2 := Bs1.out.cell 2
        have sq3 := Bs1.out.cell 3
        have sq4 := Bs1.out.cell 4
        simp only [List.getElem?_toArray, List.getElem?_cons_succ, List.getElem?_cons_zero] at sq0 sq1 sq2 sq3 sq4
        have tq0 := Bt1.out.cell 0
        have tq1 := Bt1.out.cell 1
        have tq2 := Bt1.out.cell 2
        have tq3 := Bt1.out.cell 3
        have tq4 := Bt1.out.cell 4
        simp only [List.getElem?_toArray, List.getElem?_cons_succ, List.getElem?_cons_zero] at tq0 tq1 tq2 tq3 tq4
        go_wp2_with fail
        refine (HKT.out _).mono ?_; rintro e wq2 ⟨rfl, hb2⟩
        have Bs2 := Lib.hid (Bs1.out.bl hb2)
        have Bt2 := Lib.hid (Bt1.out.bl hb2)
        have L2 := Lib.hid (bl L1.out hb2)
        have T2 := Lib.hid (T1.out.below hb2)
        clear sq0 sq1 sq2 sq3 sq4 tq0 tq1 tq2 tq3 tq4
        clear hb2 Bs1 Bt1 L1 T1
        have sq0 := Bs2.out.cell 0
        have sq1 := Bs2.out.cell 1
        have sq2 := Bs2.out.cell 2
        have sq3 := Bs2.out.cell 3
        have sq4 := Bs2.out.cell 4
        simp only [List.getElem?_toArray, List.getElem?_cons_succ, List.getElem?_cons_zero] at sq0 sq1 sq2 sq3 sq4
        have tq0 := Bt2.out.cell 0
        have tq1 := Bt2.out.cell 1
        have tq2 := Bt2.out.cell 2
        have tq3 := Bt2.out.cell 3
        have tq4 := Bt2.out.cell 4
        simp only [List.getElem?_toArray, List.getElem?_cons_succ, List.getElem?_cons_zero] at tq0 tq1 tq2 tq3 tq4
        go_wp2_with fail
        refine (HU.out _).mono ?_; rintro e wq3 ⟨rfl, hb3⟩
        have Bs3 := Lib.hid (Bs2.out.bl hb3)
        have Bt3 := Lib.hid (Bt2.out.bl hb3)
        have L3 := Lib.hid (bl L2.out hb3)
        have T3 := Lib.hid (T2.out.below hb3)
        clear sq0 sq1 sq2 sq3 sq4 tq0 tq1 tq2 tq3 tq4
        clear hb3 Bs2 Bt2 L2 T2
        have sq0 := Bs3.out.cell 0
        have sq1 := Bs3.out.cell 1
        have sq2 := Bs3.out.cell 2
        have sq3 := Bs3.out.cell 3
        have sq4 := Bs3.out.cell 4
        simp only [List.getElem?_toArray, List.getElem?_cons_succ, List.getElem?_cons_zero] at sq0 sq1 sq2 sq3 sq4
        have tq0 := Bt3.out.cell 0
        have tq1 := Bt3.out.cell 1
        have tq2 := Bt3.out.cell 2
        have tq3 := Bt3.out.cell 3
        have tq4 := Bt3.out.cell 4
        simp only [List.getElem?_toArray, List.getElem?_cons_succ, List.getElem?_cons_zero] at tq0 tq1 tq2 tq3 tq4
        have uge := Lib.hid (show w.heap.size ≤ wq3.heap.size from L3.out.size)
        have sn1 : ¬ w.heap.size = wq3.heap.size := by have := Bs3.out.lt; omega
        have sune := Lib.hid sn1
        have sn2 : w.heap.size < wq3.heap.size := Bs3.out.lt
        have tn1 : ¬ (w.heap.size + 1) = wq3.heap.size := by have := Bt3.out.lt; omega
        have tune := Lib.hid tn1
        have tn2 : (w.heap.size + 1) < wq3.heap.size := Bt3.out.lt
        have As3 := Lib.hid (Bs3.out.alloc (.cells #[.int .i64 U.mode, .int .i64 U.source, .bool U.hold, .int .i64 U.flags, .int .u64 U.epoch] 24))
        have At3 := Lib.hid (Bt3.out.alloc (.cells #[.int .i64 U.mode, .int .i64 U.source, .bool U.hold, .int .i64 U.flags, .int .u64 U.epoch] 24))
        have Ta3 := Lib.hid (T3.out.below ((Below.refl _ _).alloc (Nat.le_refl _) (.cells #[.int .i64 U.mode, .int .i64 U.source, .bool U.hold, .int .i64 U.flags, .int .u64 U.epoch] 24)))
        have Au3 := Lib.hid (Blk.new wq3 24 #[.int .i64 U.mode, .int .i64 U.source, .bool U.hold, .int .i64 U.flags, .int .u64 U.epoch])
        have M3 := Lib.hid (L3.out.alloc L3.out.size (.cells #[.int .i64 U.mode, .int .i64 U.source, .bool U.hold, .int .i64 U.flags, .int .u64 U.epoch] 24))
        clear Bs3 Bt3 L3 T3
        go_wp2_with fail
        refine (HKU.out _).mono ?_; rintro e wq4 ⟨rfl, hb4⟩
        have Bs4 := Lib.hid (As3.out.bl hb4)
        have Bt4 := Lib.hid (At3.out.bl hb4)
        have Bu4 := Lib.hid (Au3.out.bl hb4)
        have L4 := Lib.hid (bl M3.out hb4)
        have T4 := Lib.hid (Ta3.out.below hb4)
        clear sq0 sq1 sq2 sq3 sq4 tq0 tq1 tq2 tq3 tq4 sn1 sn2 tn1 tn2
        clear hb4 As3 At3 Au3 M3 Ta3
        generalize wq3.heap.size = gu at uge sune tune Bu4 ⊢
        have sq0 := Bs4.out.cell 0
        have sq1 := Bs4.out.cell 1
        have sq2 := Bs4.out.cell 2
        have sq3 := Bs4.out.cell 3
        have sq4 := Bs4.out.cell 4
        simp only [List.getElem?_toArray, List.getElem?_cons_succ, List.getElem?_cons_zero] at sq0 sq1 sq2 sq3 sq4
        have tq0 := Bt4.out.cell 0
        have tq1 := Bt4.out.cell 1
        have tq2 := Bt4.out.cell 2
        have tq3 := Bt4.out.cell 3
        have tq4 := Bt4.out.cell 4
        simp only [List.getElem?_toArray, List.getElem?_cons_succ, List.getElem?_cons_zero] at tq0 tq1 tq2 tq3 tq4
        have uq0 := Bu4.out.cell 0
        have uq1 := Bu4.out.cell 1
        have uq2 := Bu4.out.cell 2
        have uq3 := Bu4.out.cell 3
        have uq4 := Bu4.out.cell 4
        simp only [List.getElem?_toArray, List.getElem?_cons_succ, List.getElem?_cons_zero] at uq0 uq1 uq2 uq3 uq4
        go_wp2_with fail
        refine (awake_any _ T4.out).mono ?_; rintro e wq5 ⟨rfl, hb5⟩
        have Bs5 := Lib.hid (Bs4.out.bl hb5)
        have Bt5 := Lib.hid (Bt4.out.bl hb5)
        have Bu5 := Lib.hid (Bu4.out.bl hb5)
        have L5 := Lib.hid (bl L4.out hb5)
        have T5 := Lib.hid (T4.out.below hb5)
        clear sq0 sq1 sq2 sq3 sq4 tq0 tq1 tq2 tq3 tq4 uq0 uq1 uq2 uq3 uq4
        clear hb5 Bs4 Bt4 Bu4 L4 T4
        have sq0 := Bs5.out.cell 0
        have sq1 := Bs5.out.cell 1
        have sq2 := Bs5.out.cell 2
        have sq3 := Bs5.out.cell 3
        have sq4 := Bs5.out.cell 4
        simp only [List.getElem?_toArray, List.getElem?_cons_succ, List.getElem?_cons_zero] at sq0 sq1 sq2 sq3 sq4
        have tq0 := Bt5.out.cell 0
        have tq1 := Bt5.out.cell 1
        have tq2 := Bt5.out.cell 2
        have tq3 := Bt5.out.cell 3
        have tq4 := Bt5.out.cell 4
        simp only [List.getElem?_toArray, List.getElem?_cons_succ, List.getElem?_cons_zero] at tq0 tq1 tq2 tq3 tq4
        have uq0 := Bu5.out.cell 0
        have uq1 := Bu5.out.cell 1
        have uq2 := Bu5.out.cell 2
        have uq3 := Bu5.out.cell 3
        have uq4 := Bu5.out.cell 4
        simp only [List.getElem?_toArray, List.getElem?_cons_succ, List.getElem?_cons_zero] at uq0 uq1 uq2 uq3 uq4
        go_wp2_with fail
        go_ret
        exact ⟨rfl, L5.out⟩
      · have HKS := Lib.hid hKS
        have HKT := Lib.hid hKT
        have HU := Lib.hid hU
        clear hKS hKT hU
        unfold St.val at *
        unfold St.zero at HU
        simp only at HU
        have Bs0 := Lib.hid ((blk_new' w (g := w.heap.size) (by simp) 24 #[.int .i64 s.mode, .int .i64 s.source, .bool s.hold, .int .i64 s.flags, .int .u64 s.epoch]).alloc (.cells #[.int .i64 t.mode, .int .i64 t.source, .bool t.hold, .int .i64 t.flags, .int .u64 t.epoch] 24))
        have Bt0 := Lib.hid (blk_new' (w.alloc (.cells #[.int .i64 s.mode, .int .i64 s.source, .bool s.hold, .int .i64 s.flags, .int .u64 s.epoch] 24)) (g := w.heap.size + 1) (by simp) 24 #[.int .i64 t.mode, .int .i64 t.source, .bool t.hold, .int .i64 t.flags, .int .u64 t.epoch])
        have L0 := Lib.hid (((Below.refl w.heap.size w).alloc (by first | exact Nat.le_refl _ | (simp; done) | (simp; omega)) (.cells #[.int .i64 s.mode, .int .i64 s.source, .bool s.hold, .int .i64 s.flags, .int .u64 s.epoch] 24)).alloc (by first | exact Nat.le_refl _ | (simp; done) | (simp; omega)) (.cells #[.int .i64 t.mode, .int .i64 t.source, .bool t.hold, .int .i64 t.flags, .int .u64 t.epoch] 24))
        have T0 := Lib.hid (HT.out.below L0.out)
        go_enter Tryd.func4, Tryd.ntmps4
        go_wp2_with fail
        refine (HKS.out _).mono ?_; rintro e wq1 ⟨rfl, hb1⟩
        have Bs1 := Lib.hid (Bs0.out.bl hb1)
        have Bt1 := Lib.hid (Bt0.out.bl hb1)
        have L1 := Lib.hid (bl L0.out hb1)
        have T1 := Lib.hid (T0.out.below hb1)
        clear hb1 Bs0 Bt0 L0 T0
        have sq0 := Bs1.out.cell 0
        have sq1 := Bs1.out.cell 1
        have sq2 := Bs1.out.cell 2
        have sq3 := Bs1.out.cell 3
        have sq4 := Bs1.out.cell 4
        simp only [List.getElem?_toArray, List.getElem?_cons_succ, List.getElem?_cons_zero] at sq0 sq1 sq2 sq3 sq4
        have tq0 := Bt1.out.cell 0
        have tq1 := Bt1.out.cell 1
        have tq2 := Bt1.out.cell 2
        have tq3 := Bt1.out.cell 3
        have tq4 := Bt1.out.cell 4
        simp only [List.getElem?_toArray, List.getElem?_cons_succ, List.getElem?_cons_zero] at tq0 tq1 tq2 tq3 tq4
        go_wp2_with fail
        refine (HKT.out _).mono ?_; rintro e wq2 ⟨rfl, hb2⟩
        have Bs2 := Lib.hid (Bs1.out.bl hb2)
        have Bt2 := Lib.hid (Bt1.out.bl hb2)
        have L2 := Lib.hid (bl L1.out hb2)
        have T2 := Lib.hid (T1.out.below hb2)
        clear sq0 sq1 sq2 sq3 sq4 tq0 tq1 tq2 tq3 tq4
        clear hb2 Bs1 Bt1 L1 T1
        have sq0 := Bs2.out.cell 0
        have sq1 := Bs2.out.cell 1
        have sq2 := Bs2.out.cell 2
        have sq3 := Bs2.out.cell 3
        have sq4 := Bs2.out.cell 4
        simp only [List.getElem?_toArray, List.getElem?_cons_succ, List.getElem?_cons_zero] at sq0 sq1 sq2 sq3 sq4
        have tq0 := Bt2.out.cell 0
        have tq1 := Bt2.out.cell 1
        have tq2 := Bt2.out.cell 2
        have tq3 := Bt2.out.cell 3
        have tq4 := Bt2.out.cell 4
        simp only [List.getElem?_toArray, List.getElem?_cons_succ, List.getElem?_cons_zero] at tq0 tq1 tq2 tq3 tq4
        go_wp2_with fail
        refine (HU.out _).mono ?_; rintro e wq3 ⟨rfl, hb3⟩
        have Bs3 := Lib.hid (Bs2.out.bl hb3)
        have Bt3 := Lib.hid (Bt2.out.bl hb3)
        have L3 := Lib.hid (bl L2.out hb3)
        have T3 := Lib.hid (T2.out.below hb3)
        clear sq0 sq1 sq2 sq3 sq4 tq0 tq1 tq2 tq3 tq4
        clear hb3 Bs2 Bt2 L2 T2
        have sq0 := Bs3.out.cell 0
        have sq1 := Bs3.out.cell 1
        have sq2 := Bs3.out.cell 2
        have sq3 := Bs3.out.cell 3
        have sq4 := Bs3.out.cell 4
        simp only [List.getElem?_toArray, List.getElem?_cons_succ, List.getElem?_cons_zero] at sq0 sq1 sq2 sq3 sq4
        have tq0 := Bt3.out.cell 0
        have tq1 := Bt3.out.cell 1
        have tq2 := Bt3.out.cell 2
        have tq3 := Bt3.out.cell 3
        have tq4 := Bt3.out.cell 4
        simp only [List.getElem?_toArray, List.getElem?_cons_succ, List.getElem?_cons_zero] at tq0 tq1 tq2 tq3 tq4
        have uge := Lib.hid (show w.heap.size ≤ wq3.heap.size from L3.out.size)
        have sn1 : ¬ w.heap.size = wq3.heap.size := by have := Bs3.out.lt; omega
        have sune := Lib.hid sn1
        have sn2 : w.heap.size < wq3.heap.size := Bs3.out.lt
        have tn1 : ¬ (w.heap.size + 1) = wq3.heap.size := by have := Bt3.out.lt; omega
        have tune := Lib.hid tn1
        have tn2 : (w.heap.size + 1) < wq3.heap.size := Bt3.out.lt
        have As3 := Lib.hid (Bs3.out.alloc (.cells #[.int .i64 0, .int .i64 0, .bool false, .int .i64 0, .int .u64 0] 24))
        have At3 := Lib.hid (Bt3.out.alloc (.cells #[.int .i64 0, .int .i64 0, .bool false, .int .i64 0, .int .u64 0] 24))
        have Ta3 := Lib.hid (T3.out.below ((Below.refl _ _).alloc (Nat.le_refl _) (.cells #[.int .i64 0, .int .i64 0, .bool false, .int .i64 0, .int .u64 0] 24)))
        have Au3 := Lib.hid (Blk.new wq3 24 #[.int .i64 0, .int .i64 0, .bool false, .int .i64 0, .int .u64 0])
        have M3 := Lib.hid (L3.out.alloc L3.out.size (.cells #[.int .i64 0, .int .i64 0, .bool false, .int .i64 0, .int .u64 0] 24))
        clear Bs3 Bt3 L3 T3
        go_wp2_with fail
        refine (awake_any _ Ta3.out).mono ?_; rintro e wq4 ⟨rfl, hb4⟩
        have Bs4 := Lib.hid (As3.out.bl hb4)
        have Bt4 := Lib.hid (At3.out.bl hb4)
        have Bu4 := Lib.hid (Au3.out.bl hb4)
        have L4 := Lib.hid (bl M3.out hb4)
        have T4 := Lib.hid (Ta3.out.below hb4)
        clear sq0 sq1 sq2 sq3 sq4 tq0 tq1 tq2 tq3 tq4 sn1 sn2 tn1 tn2
        clear hb4 As3 At3 Au3 M3 Ta3
        generalize wq3.heap.size = gu at uge sune tune Bu4 ⊢
        have sq0 := Bs4.out.cell 0
        have sq1 := Bs4.out.cell 1
        have sq2 := Bs4.out.cell 2
        have sq3 := Bs4.out.cell 3
        have sq4 := Bs4.out.cell 4
        simp only [List.getElem?_toArray, List.getElem?_cons_succ, List.getElem?_cons_zero] at sq0 sq1 sq2 sq3 sq4
        have tq0 := Bt4.out.cell 0
        have tq1 := Bt4.out.cell 1
        have tq2 := Bt4.out.cell 2
        have tq3 := Bt4.out.cell 3
        have tq4 := Bt4.out.cell 4
        simp only [List.getElem?_toArray, List.getElem?_cons_succ, List.getElem?_cons_zero] at tq0 tq1 tq2 tq3 tq4
        have uq0 := Bu4.out.cell 0
        have uq1 := Bu4.out.cell 1
        have uq2 := Bu4.out.cell 2
        have uq3 := Bu4.out.cell 3
        have uq4 := Bu4.out.cell 4
        simp only [List.getElem?_toArray, List.getElem?_cons_succ, List.getElem?_cons_zero] at uq0 uq1 uq2 uq3 uq4
        go_wp2_with fail
        go_ret
        exact ⟨rfl, L4.out⟩
    · rcases hu with ⟨rfl, hKU⟩ | ⟨rfl, rfl⟩
      · have HKS := Lib.hid hKS
        have HKT := Lib.hid hKT
        have HU := Lib.hid hU
        clear hKS hKT hU
        have HKU := Lib.hid hKU
        clear hKU
        have nx : (x == x) = true := by simp
        unfold St.val at *
        have Bs0 := Lib.hid ((blk_new' w (g := w.heap.size) (by simp) 24 #[.int .i64 s.mode, .int .i64 s.source, .bool s.hold, .int .i64 s.flags, .int .u64 s.epoch]).alloc (.cells #[.int .i64 t.mode, .int .i64 t.source, .bool t.hold, .int .i64 t.flags, .int .u64 t.epoch] 24))
        have Bt0 := Lib.hid (blk_new' (w.alloc (.cells #[.int .i64 s.mode, .int .i64 s.source, .bool s.hold, .int .i64 s.flags, .int .u64 s.epoch] 24)) (g := w.heap.size + 1) (by simp) 24 #[.int .i64 t.mode, .int .i64 t.source, .bool t.hold, .int .i64 t.flags, .int .u64 t.epoch])
        have L0 := Lib.hid (((Below.refl w.heap.size w).alloc (by first | exact Nat.le_refl _ | (simp; done) | (simp; omega)) (.cells #[.int .i64 s.mode, .int .i64 s.source, .bool s.hold, .int .i64 s.flags, .int .u64 s.epoch] 24)).alloc (by first | exact Nat.le_refl _ | (simp; done) | (simp; omega)) (.cells #[.int .i64 t.mode, .int .i64 t.source, .bool t.hold, .int .i64 t.flags, .int .u64 t.epoch] 24))
        have T0 := Lib.hid (HT.out.below L0.out)
        go_enter Tryd.func4, Tryd.ntmps4
        go_wp2_with fail
        refine (HKS.out _).mono ?_; rintro e wq1 ⟨rfl, hb1⟩
        have Bs1 := Lib.hid (Bs0.out.bl hb1)
        have Bt1 := Lib.hid (Bt0.out.bl hb1)
        have L1 := Lib.hid (bl L0.out hb1)
        have T1 := Lib.hid (T0.out.below hb1)
        clear hb1 Bs0 Bt0 L0 T0
        have sq0 := Bs1.out.cell 0
        have sq1 := Bs1.out.cell 1
        have sq2 := Bs1.out.cell 2
        have sq3 := Bs1.out.cell 3
        have sq4 := Bs1.out.cell 4
        simp only [List.getElem?_toArray, List.getElem?_cons_succ, List.getElem?_cons_zero] at sq0 sq1 sq2 sq3 sq4
        have tq0 := Bt1.out.cell 0
        have tq1 := Bt1.out.cell 1
        have tq2 := Bt1.out.cell 2
        have tq3 := Bt1.out.cell 3
        have tq4 := Bt1.out.cell 4
        simp only [List.getElem?_toArray, List.getElem?_cons_succ, List.getElem?_cons_zero] at tq0 tq1 tq2 tq3 tq4
        go_wp2_with fail
        refine (HKT.out _).mono ?_; rintro e wq2 ⟨rfl, hb2⟩
        have Bs2 := Lib.hid (Bs1.out.bl hb2)
        have Bt2 := Lib.hid (Bt1.out.bl hb2)
        have L2 := Lib.hid (bl L1.out hb2)
        have T2 := Lib.hid (T1.out.below hb2)
        clear sq0 sq1 sq2 sq3 sq4 tq0 tq1 tq2 tq3 tq4
        clear hb2 Bs1 Bt1 L1 T1
        have sq0 := Bs2.out.cell 0
        have sq1 := Bs2.out.cell 1
        have sq2 := Bs2.out.cell 2
        have sq3 := Bs2.out.cell 3
        have sq4 := Bs2.out.cell 4
        simp only [List.getElem?_toArray, List.getElem?_cons_succ, List.getElem?_cons_zero] at sq0 sq1 sq2 sq3 sq4
        have tq0 := Bt2.out.cell 0
        have tq1 := Bt2.out.cell 1
        have tq2 := Bt2.out.cell 2
        have tq3 := Bt2.out.cell 3
        have tq4 := Bt2.out.cell 4
        simp only [List.getElem?_toArray, List.getElem?_cons_succ, List.getElem?_cons_zero] at tq0 tq1 tq2 tq3 tq4
        go_wp2_with fail
        refine (HU.out _).mono ?_; rintro e wq3 ⟨rfl, hb3⟩
        have Bs3 := Lib.hid (Bs2.out.bl hb3)
        have Bt3 := Lib.hid (Bt2.out.bl hb3)
        have L3 := Lib.hid (bl L2.out hb3)
        have T3 := Lib.hid (T2.out.below hb3)
        clear sq0 sq1 sq2 sq3 sq4 tq0 tq1 tq2 tq3 tq4
        clear hb3 Bs2 Bt2 L2 T2
        have sq0 := Bs3.out.cell 0
        have sq1 := Bs3.out.cell 1
        have sq2 := Bs3.out.cell 2
        have sq3 := Bs3.out.cell 3
        have sq4 := Bs3.out.cell 4
        simp only [List.getElem?_toArray, List.getElem?_cons_succ, List.getElem?_cons_zero] at sq0 sq1 sq2 sq3 sq4
        have tq0 := Bt3.out.cell 0
        have tq1 := Bt3.out.cell 1
        have tq2 := Bt3.out.cell 2
        have tq3 := Bt3.out.cell 3
        have tq4 := Bt3.out.cell 4
        simp only [List.getElem?_toArray, List.getElem?_cons_succ, List.getElem?_cons_zero] at tq0 tq1 tq2 tq3 tq4
        have uge := Lib.hid (show w.heap.size ≤ wq3.heap.size from L3.out.size)
        have sn1 : ¬ w.heap.size = wq3.heap.size := by have := Bs3.out.lt; omega
        have sune := Lib.hid sn1
        have sn2 : w.heap.size < wq3.heap.size := Bs3.out.lt
        have tn1 : ¬ (w.heap.size + 1) = wq3.heap.size := by have := Bt3.out.lt; omega
        have tune := Lib.hid tn1
        have tn2 : (w.heap.size + 1) < wq3.heap.size := Bt3.out.lt
        have As3 := Lib.hid (Bs3.out.alloc (.cells #[.int .i64 U.mode, .int .i64 U.source, .bool U.hold, .int .i64 U.flags, .int .u64 U.epoch] 24))
        have At3 := Lib.hid (Bt3.out.alloc (.cells #[.int .i64 U.mode, .int .i64 U.source, .bool U.hold, .int .i64 U.flags, .int .u64 U.epoch] 24))
        have Ta3 := Lib.hid (T3.out.below ((Below.refl _ _).alloc (Nat.le_refl _) (.cells #[.int .i64 U.mode, .int .i64 U.source, .bool U.hold, .int .i64 U.flags, .int .u64 U.epoch] 24)))
        have Au3 := Lib.hid (Blk.new wq3 24 #[.int .i64 U.mode, .int .i64 U.source, .bool U.hold, .int .i64 U.flags, .int .u64 U.epoch])
        have M3 := Lib.hid (L3.out.alloc L3.out.size (.cells #[.int .i64 U.mode, .int .i64 U.source, .bool U.hold, .int .i64 U.flags, .int .u64 U.epoch] 24))
        clear Bs3 Bt3 L3 T3
        go_wp2_with fail
        refine (HKU.out _).mono ?_; rintro e wq4 ⟨rfl, hb4⟩
        have Bs4 := Lib.hid (As3.out.bl hb4)
        have Bt4 := Lib.hid (At3.out.bl hb4)
        have Bu4 := Lib.hid (Au3.out.bl hb4)
        have L4 := Lib.hid (bl M3.out hb4)
        have T4 := Lib.hid (Ta3.out.below hb4)
        clear sq0 sq1 sq2 sq3 sq4 tq0 tq1 tq2 tq3 tq4 sn1 sn2 tn1 tn2
        clear hb4 As3 At3 Au3 M3 Ta3
        generalize wq3.heap.size = gu at uge sune tune Bu4 ⊢
        have sq0 := Bs4.out.cell 0
        have sq1 := Bs4.out.cell 1
        have sq2 := Bs4.out.cell 2
        have sq3 := Bs4.out.cell 3
        have sq4 := Bs4.out.cell 4
        simp only [List.getElem?_toArray, List.getElem?_cons_succ, List.getElem?_cons_zero] at sq0 sq1 sq2 sq3 sq4
        have tq0 := Bt4.out.cell 0
        have tq1 := Bt4.out.cell 1
        have tq2 := Bt4.out.cell 2
        have tq3 := Bt4.out.cell 3
        have tq4 := Bt4.out.cell 4
        simp only [List.getElem?_toArray, List.getElem?_cons_succ, List.getElem?_cons_zero] at tq0 tq1 tq2 tq3 tq4
        have uq0 := Bu4.out.cell 0
        have uq1 := Bu4.out.cell 1
        have uq2 := Bu4.out.cell 2
        have uq3 := Bu4.out.cell 3
        have uq4 := Bu4.out.cell 4
        simp only [List.getElem?_toArray, List.getElem?_cons_succ, List.getElem?_cons_zero] at uq0 uq1 uq2 uq3 uq4
        go_wp2_with fail
        refine (awake_any _ T4.out).mono ?_; rintro e wq5 ⟨rfl, hb5⟩
        have Bs5 := Lib.hid (Bs4.out.bl hb5)
        have Bt5 := Lib.hid (Bt4.out.bl hb5)
        have Bu5 := Lib.hid (Bu4.out.bl hb5)
        have L5 := Lib.hid (bl L4.out hb5)
        have T5 := Lib.hid (T4.out.below hb5)
        clear sq0 sq1 sq2 sq3 sq4 tq0 tq1 tq2 tq3 tq4 uq0 uq1 uq2 uq3 uq4
        clear hb5 Bs4 Bt4 Bu4 L4 T4
        have sq0 := Bs5.out.cell 0
        have sq1 := Bs5.out.cell 1
        have sq2 := Bs5.out.cell 2
        have sq3 := Bs5.out.cell 3
        have sq4 := Bs5.out.cell 4
        simp only [List.getElem?_toArray, List.getElem?_cons_succ, List.getElem?_cons_zero] at sq0 sq1 sq2 sq3 sq4
        have tq0 := Bt5.out.cell 0
        have tq1 := Bt5.out.cell 1
        have tq2 := Bt5.out.cell 2
        have tq3 := Bt5.out.cell 3
        have tq4 := Bt5.out.cell 4
        simp only [List.getElem?_toArray, List.getElem?_cons_succ, List.getElem?_cons_zero] at tq0 tq1 tq2 tq3 tq4
        have uq0 := Bu5.out.cell 0
        have uq1 := Bu5.out.cell 1
        have uq2 := Bu5.out.cell 2
        have uq3 := Bu5.out.cell 3
        have uq4 := Bu5.out.cell 4
        simp only [List.getElem?_toArray, List.getElem?_cons_succ, List.getElem?_cons_zero] at uq0 uq1 uq2 uq3 uq4
        go_wp2_with fail
        go_ret
        exact ⟨rfl, L5.out⟩
      · have HKS := Lib.hid hKS
        have HKT := Lib.hid hKT
        have HU := Lib.hid hU
        clear hKS hKT hU
        unfold St.val at *
        unfold St.zero at HU
        simp only at HU
        have Bs0 := Lib.hid ((blk_new' w (g := w.heap.size) (by simp) 24 #[.int .i64 s.mode, .int .i64 s.source, .bool s.hold, .int .i64 s.flags, .int .u64 s.epoch]).alloc (.cells #[.int .i64 t.mode, .int .i64 t.source, .bool t.hold, .int .i64 t.flags, .int .u64 t.epoch] 24))
        have Bt0 := Lib.hid (blk_new' (w.alloc (.cells #[.int .i64 s.mode, .int .i64 s.source, .bool s.hold, .int .i64 s.flags, .int .u64 s.epoch] 24)) (g := w.heap.size + 1) (by simp) 24 #[.int .i64 t.mode, .int .i64 t.source, .bool t.hold, .int .i64 t.flags, .int .u64 t.epoch])
        have L0 := Lib.hid (((Below.refl w.heap.size w).alloc (by first | exact Nat.le_refl _ | (simp; done) | (simp; omega)) (.cells #[.int .i64 s.mode, .int .i64 s.source, .bool s.hold, .int .i64 s.flags, .int .u64 s.epoch] 24)).alloc (by first | exact Nat.le_refl _ | (simp; done) | (simp; omega)) (.cells #[.int .i64 t.mode, .int .i64 t.source, .bool t.hold, .int .i64 t.flags, .int .u64 t.epoch] 24))
        have T0 := Lib.hid (HT.out.below L0.out)
        go_enter Tryd.func4, Tryd.ntmps4
        go_wp2_with fail
        refine (HKS.out _).mono ?_; rintro e wq1 ⟨rfl, hb1⟩
        have Bs1 := Lib.hid (Bs0.out.bl hb1)
        have Bt1 := Lib.hid (Bt0.out.bl hb1)
        have L1 := Lib.hid (bl L0.out hb1)
        have T1 := Lib.hid (T0.out.below hb1)
        clear hb1 Bs0 Bt0 L0 T0
        have sq0 := Bs1.out.cell 0
        have sq1 := Bs1.out.cell 1
        have sq2 := Bs1.out.cell 2
        have sq3 := Bs1.out.cell 3
        have sq4 := Bs1.out.cell 4
        simp only [List.getElem?_toArray, List.getElem?_cons_succ, List.getElem?_cons_zero] at sq0 sq1 sq2 sq3 sq4
        have tq0 := Bt1.out.cell 0
        have tq1 := Bt1.out.cell 1
        have tq2 := Bt1.out.cell 2
        have tq3 := Bt1.out.cell 3
        have tq4 := Bt1.out.cell 4
        simp only [List.getElem?_toArray, List.getElem?_cons_succ, List.getElem?_cons_zero] at tq0 tq1 tq2 tq3 tq4
        go_wp2_with fail
        refine (HKT.out _).mono ?_; rintro e wq2 ⟨rfl, hb2⟩
        have Bs2 := Lib.hid (Bs1.out.bl hb2)
        have Bt2 := Lib.hid (Bt1.out.bl hb2)
        have L2 := Lib.hid (bl L1.out hb2)
        have T2 := Lib.hid (T1.out.below hb2)
        clear sq0 sq1 sq2 sq3 sq4 tq0 tq1 tq2 tq3 tq4
        clear hb2 Bs1 Bt1 L1 T1
        have sq0 := Bs2.out.cell 0
        have sq1 := Bs2.out.cell 1
        have sq2 := Bs2.out.cell 2
        have sq3 := Bs2.out.cell 3
        have sq4 := Bs2.out.cell 4
        simp only [List.getElem?_toArray, List.getElem?_cons_succ, List.getElem?_cons_zero] at sq0 sq1 sq2 sq3 sq4
        have tq0 := Bt2.out.cell 0
        have tq1 := Bt2.out.cell 1
        have tq2 := Bt2.out.cell 2
        have tq3 := Bt2.out.cell 3
        have tq4 := Bt2.out.cell 4
        simp only [List.getElem?_toArray, List.getElem?_cons_succ, List.getElem?_cons_zero] at tq0 tq1 tq2 tq3 tq4
        go_wp2_with fail
        refine (HU.out _).mono ?_; rintro e wq3 ⟨rfl, hb3⟩
        have Bs3 := Lib.hid (Bs2.out.bl hb3)
        have Bt3 := Lib.hid (Bt2.out.bl hb3)
        have L3 := Lib.hid (bl L2.out hb3)
        have T3 := Lib.hid (T2.out.below hb3)
        clear sq0 sq1 sq2 sq3 sq4 tq0 tq1 tq2 tq3 tq4
        clear hb3 Bs2 Bt2 L2 T2
        have sq0 := Bs3.out.cell 0
        have sq1 := Bs3.out.cell 1
        have sq2 := Bs3.out.cell 2
        have sq3 := Bs3.out.cell 3
        have sq4 := Bs3.out.cell 4
        simp only [List.getElem?_toArray, List.getElem?_cons_succ, List.getElem?_cons_zero] at sq0 sq1 sq2 sq3 sq4
        have tq0 := Bt3.out.cell 0
        have tq1 := Bt3.out.cell 1
        have tq2 := Bt3.out.cell 2
        have tq3 := Bt3.out.cell 3
        have tq4 := Bt3.out.cell 4
        simp only [List.getElem?_toArray, List.getElem?_cons_succ, List.getElem?_cons_zero] at tq0 tq1 tq2 tq3 tq4
        have uge := Lib.hid (show w.heap.size ≤ wq3.heap.size from L3.out.size)
        have sn1 : ¬ w.heap.size = wq3.heap.size := by have := Bs3.out.lt; omega
        have sune := Lib.hid sn1
        have sn2 : w.heap.size < wq3.heap.size := Bs3.out.lt
        have tn1 : ¬ (w.heap.size + 1) = wq3.heap.size := by have := Bt3.out.lt; omega
        have tune := Lib.hid tn1
        have tn2 : (w.heap.size + 1) < wq3.heap.size := Bt3.out.lt
        have As3 := Lib.hid (Bs3.out.alloc (.cells #[.int .i64 0, .int .i64 0, .bool false, .int .i64 0, .int .u64 0] 24))
        have At3 := Lib.hid (Bt3.out.alloc (.cells #[.int .i64 0, .int .i64 0, .bool false, .int .i64 0, .int .u64 0] 24))
        have Ta3 := Lib.hid (T3.out.below ((Below.refl _ _).alloc (Nat.le_refl _) (.cells #[.int .i64 0, .int .i64 0, .bool false, .int .i64 0, .int .u64 0] 24)))
        have Au3 := Lib.hid (Blk.new wq3 24 #[.int .i64 0, .int .i64 0, .bool false, .int .i64 0, .int .u64 0])
        have M3 := Lib.hid (L3.out.alloc L3.out.size (.cells #[.int .i64 0, .int .i64 0, .bool false, .int .i64 0, .int .u64 0] 24))
        clear Bs3 Bt3 L3 T3
        go_wp2_with fail
        refine (awake_any _ Ta3.out).mono ?_; rintro e wq4 ⟨rfl, hb4⟩
        have Bs4 := Lib.hid (As3.out.bl hb4)
        have Bt4 := Lib.hid (At3.out.bl hb4)
        have Bu4 := Lib.hid (Au3.out.bl hb4)
        have L4 := Lib.hid (bl M3.out hb4)
        have T4 := Lib.hid (Ta3.out.below hb4)
        clear sq0 sq1 sq2 sq3 sq4 tq0 tq1 tq2 tq3 tq4 sn1 sn2 tn1 tn2
        clear hb4 As3 At3 Au3 M3 Ta3
        generalize wq3.heap.size = gu at uge sune tune Bu4 ⊢
        have sq0 := Bs4.out.cell 0
        have sq1 := Bs4.out.cell 1
        have sq2 := Bs4.out.cell 2
        have sq3 := Bs4.out.cell 3
        have sq4 := Bs4.out.cell 4
        simp only [List.getElem?_toArray, List.getElem?_cons_succ, List.getElem?_cons_zero] at sq0 sq1 sq2 sq3 sq4
        have tq0 := Bt4.out.cell 0
        have tq1 := Bt4.out.cell 1
        have tq2 := Bt4.out.cell 2
        have tq3 := Bt4.out.cell 3
        have tq4 := Bt4.out.cell 4
        simp only [List.getElem?_toArray, List.getElem?_cons_succ, List.getElem?_cons_zero] at tq0 tq1 tq2 tq3 tq4
        have uq0 := Bu4.out.cell 0
        have uq1 := Bu4.out.cell 1
        have uq2 := Bu4.out.cell 2
        have uq3 := Bu4.out.cell 3
        have uq4 := Bu4.out.cell 4
        simp only [List.getElem?_toArray, List.getElem?_cons_succ, List.getElem?_cons_zero] at uq0 uq1 uq2 uq3 uq4
        go_wp2_with fail
        go_ret
        exact ⟨rfl, L4.out⟩
  · rcases hq with ⟨et, het, hKT⟩ | ⟨ht0, hKT⟩
    · clear hne
      rcases hu with ⟨rfl, hKU⟩ | ⟨rfl, rfl⟩
      · have HKS := Lib.hid hKS
        have HKT := Lib.hid hKT
        have HU := Lib.hid hU
        clear hKS hKT hU
        have HUS := Lib.hid hUS
        clear hUS
        have HKU := Lib.hid hKU
        clear hKU
        have nx : (x == x) = true := by simp
        unfold St.val at *
        have sd0 : (s.mode != s.mode) = false := by simp
        have sd1 : (s.source != s.source) = false := by simp
        have sd2 : (s.hold != s.hold) = false := by simp
        have sd3 : (s.flags != s.flags) = false := by simp
        have sd4 : (s.epoch != s.epoch) = false := by simp
        have Bs0 := Lib.hid ((blk_new' w (g := w.heap.size) (by simp) 24 #[.int .i64 s.mode, .int .i64 s.source, .bool s.hold, .int .i64 s.flags, .int .u64 s.epoch]).alloc (.cells #[.int .i64 t.mode, .int .i64 t.source, .bool t.hold, .int .i64 t.flags, .int .u64 t.epoch] 24))
        have Bt0 := Lib.hid (blk_new' (w.alloc (.cells #[.int .i64 s.mode, .int .i64 s.source, .bool s.hold, .int .i64 s.flags, .int .u64 s.epoch] 24)) (g := w.heap.size + 1) (by simp) 24 #[.int .i64 t.mode, .int .i64 t.source, .bool t.hold, .int .i64 t.flags, .int .u64 t.epoch])
        have L0 := Lib.hid (((Below.refl w.heap.size w).alloc (by first | exact Nat.le_refl _ | (simp; done) | (simp; omega)) (.cells #[.int .i64 s.mode, .int .i64 s.source, .bool s.hold, .int .i64 s.flags, .int .u64 s.epoch] 24)).alloc (by first | exact Nat.le_refl _ | (simp; done) | (simp; omega)) (.cells #[.int .i64 t.mode, .int .i64 t.source, .bool t.hold, .int .i64 t.flags, .int .u64 t.epoch] 24))
        have T0 := Lib.hid (HT.out.below L0.out)
        go_enter Tryd.func4, Tryd.ntmps4
        go_wp2_with fail
        refine (HKS.out _).mono ?_; rintro e wq1 ⟨rfl, hb1⟩
        have Bs1 := Lib.hid (Bs0.out.bl hb1)
        have Bt1 := Lib.hid (Bt0.out.bl hb1)
        have L1 := Lib.hid (bl L0.out hb1)
        have T1 := Lib.hid (T0.out.below hb1)
        clear hb1 Bs0 Bt0 L0 T0
        have sq0 := Bs1.out.cell 0
        have sq1 := Bs1.out.cell 1
        have sq2 := Bs1.out.cell 2
        have sq3 := Bs1.out.cell 3
        have sq4 := Bs1.out.cell 4
        simp only [List.getElem?_toArray, List.getElem?_cons_succ, List.getElem?_cons_zero] at sq0 sq1 sq2 sq3 sq4
        have tq0 := Bt1.out.cell 0
        have tq1 := Bt1.out.cell 1
        have tq2 := Bt1.out.cell 2
        have tq3 := Bt1.out.cell 3
        have tq4 := Bt1.out.cell 4
        simp only [List.getElem?_toArray, List.getElem?_cons_succ, List.getElem?_cons_zero] at tq0 tq1 tq2 tq3 tq4
        go_wp2_with fail
        refine (HKT.out _).mono ?_; rintro e wq2 ⟨rfl, hb2⟩
        have Bs2 := Lib.hid (Bs1.out.bl hb2)
        have Bt2 := Lib.hid (Bt1.out.bl hb2)
        have L2 := Lib.hid (bl L1.out hb2)
        have T2 := Lib.hid (T1.out.below hb2)
        clear sq0 sq1 sq2 sq3 sq4 tq0 tq1 tq2 tq3 tq4
        clear hb2 Bs1 Bt1 L1 T1
        have sq0 := Bs2.out.cell 0
        have sq1 := Bs2.out.cell 1
        have sq2 := Bs2.out.cell 2
        have sq3 := Bs2.out.cell 3
        have sq4 := Bs2.out.cell 4
        simp only [List.getElem?_toArray, List.getElem?_cons_succ, List.getElem?_cons_zero] at sq0 sq1 sq2 sq3 sq4
        have tq0 := Bt2.out.cell 0
        have tq1 := Bt2.out.cell 1
        have tq2 := Bt2.out.cell 2
        have tq3 := Bt2.out.cell 3
        have tq4 := Bt2.out.cell 4
        simp only [List.getElem?_toArray, List.getElem?_cons_succ, List.getElem?_cons_zero] at tq0 tq1 tq2 tq3 tq4
        go_wp2_with fail
        refine (HUS.out _).mono ?_; rintro e wq3 ⟨rfl, hb3⟩
        have Bs3 := Lib.hid (Bs2.out.bl hb3)
        have Bt3 := Lib.hid (Bt2.out.bl hb3)
        have L3 := Lib.hid (bl L2.out hb3)
        have T3 := Lib.hid (T2.out.below hb3)
        clear sq0 sq1 sq2 sq3 sq4 tq0 tq1 tq2 tq3 tq4
        clear hb3 Bs2 Bt2 L2 T2
        have sq0 := Bs3.out.cell 0
        have sq1 := Bs3.out.cell 1
        have sq2 := Bs3.out.cell 2
        have sq3 := Bs3.out.cell 3
        have sq4 := Bs3.out.cell 4
        simp only [List.getElem?_toArray, List.getElem?_cons_succ, List.getElem?_cons_zero] at sq0 sq1 sq2 sq3 sq4
        have tq0 := Bt3.out.cell 0
        have tq1 := Bt3.out.cell 1
        have tq2 := Bt3.out.cell 2
        have tq3 := Bt3.out.cell 3
        have tq4 := Bt3.out.cell 4
        simp only [List.getElem?_toArray, List.getElem?_cons_succ, List.getElem?_cons_zero] at tq0 tq1 tq2 tq3 tq4
        have vge := Lib.hid (show w.heap.size ≤ wq3.heap.size from L3.out.size)
        have sn1 : ¬ w.heap.size = wq3.heap.size := by have := Bs3.out.lt; omega
        have svne := Lib.hid sn1
        have sn2 : w.heap.size < wq3.heap.size := Bs3.out.lt
        have tn1 : ¬ (w.heap.size + 1) = wq3.heap.size := by have := Bt3.out.lt; omega
        have tvne := Lib.hid tn1
        have tn2 : (w.heap.size + 1) < wq3.heap.size := Bt3.out.lt
        have As3 := Lib.hid (Bs3.out.alloc (.cells #[.int .i64 s.mode, .int .i64 s.source, .bool s.hold, .int .i64 s.flags, .int .u64 s.epoch] 24))
        have At3 := Lib.hid (Bt3.out.alloc (.cells #[.int .i64 s.mode, .int .i64 s.source, .bool s.hold, .int .i64 s.flags, .int .u64 s.epoch] 24))
        have Ta3 := Lib.hid (T3.out.below ((Below.refl _ _).alloc (Nat.le_refl _) (.cells #[.int .i64 s.mode, .int .i64 s.source, .bool s.hold, .int .i64 s.flags, .int .u64 s.epoch] 24)))
        have Av3 := Lib.hid (Blk.new wq3 24 #[.int .i64 s.mode, .int .i64 s.source, .bool s.hold, .int .i64 s.flags, .int .u64 s.epoch])
        have M3 := Lib.hid (L3.out.alloc L3.out.size (.cells #[.int .i64 s.mode, .int .i64 s.source, .bool s.hold, .int .i64 s.flags, .int .u64 s.epoch] 24))
        clear Bs3 Bt3 L3 T3
        go_wp2_with fail
        refine (HU.out _).mono ?_; rintro e wq4 ⟨rfl, hb4⟩
        have Bs4 := Lib.hid (As3.out.bl hb4)
        have Bt4 := Lib.hid (At3.out.bl hb4)
        have Bv4 := Lib.hid (Av3.out.bl hb4)
        have L4 := Lib.hid (bl M3.out hb4)
        have T4 := Lib.hid (Ta3.out.below hb4)
        clear sq0 sq1 sq2 sq3 sq4 tq0 tq1 tq2 tq3 tq4 sn1 sn2 tn1 tn2
        clear hb4 As3 At3 Av3 M3 Ta3
        generalize wq3.heap.size = gv at vge svne tvne Bv4 ⊢
        have sq0 := Bs4.out.cell 0
        have sq1 := Bs4.out.cell 1
        have sq2 := Bs4.out.cell 2
        have sq3 := Bs4.out.cell 3
        have sq4 := Bs4.out.cell 4
        simp only [List.getElem?_toArray, List.getElem?_cons_succ, List.getElem?_cons_zero] at sq0 sq1 sq2 sq3 sq4
        have tq0 := Bt4.out.cell 0
        have tq1 := Bt4.out.cell 1
        have tq2 := Bt4.out.cell 2
        have tq3 := Bt4.out.cell 3
        have tq4 := Bt4.out.cell 4
        simp only [List.getElem?_toArray, List.getElem?_cons_succ, List.getElem?_cons_zero] at tq0 tq1 tq2 tq3 tq4
        have vq0 := Bv4.out.cell 0
        have vq1 := Bv4.out.cell 1
        have vq2 := Bv4.out.cell 2
        have vq3 := Bv4.out.cell 3
        have vq4 := Bv4.out.cell 4
        simp only [List.getElem?_toArray, List.getElem?_cons_succ, List.getElem?_cons_zero] at vq0 vq1 vq2 vq3 vq4
        have uge := Lib.hid (show w.heap.size ≤ wq4.heap.size from L4.out.size)
        have sn1 : ¬ w.heap.size = wq4.heap.size := by have := Bs4.out.lt; omega
        have sune := Lib.hid sn1
        have sn2 : w.heap.size < wq4.heap.size := Bs4.out.lt
        have tn1 : ¬ (w.heap.size + 1) = wq4.heap.size := by have := Bt4.out.lt; omega
        have tune := Lib.hid tn1
        have tn2 : (w.heap.size + 1) < wq4.heap.size := Bt4.out.lt
        have vn1 : ¬ gv = wq4.heap.size := by have := Bv4.out.lt; omega
        have vune := Lib.hid vn1
        have vn2 : gv < wq4.heap.size := Bv4.out.lt
        have As4 := Lib.hid (Bs4.out.alloc (.cells #[.int .i64 U.mode, .int .i64 U.source, .bool U.hold, .int .i64 U.flags, .int .u64 U.epoch] 24))
        have At4 := Lib.hid (Bt4.out.alloc (.cells #[.int .i64 U.mode, .int .i64 U.source, .bool U.hold, .int .i64 U.flags, .int .u64 U.epoch] 24))
        have Av4 := Lib.hid (Bv4.out.alloc (.cells #[.int .i64 U.mode, .int .i64 U.source, .bool U.hold, .int .i64 U.flags, .int .u64 U.epoch] 24))
        have Ta4 := Lib.hid (T4.out.below ((Below.refl _ _).alloc (Nat.le_refl _) (.cells #[.int .i64 U.mode, .int .i64 U.source, .bool U.hold, .int .i64 U.flags, .int .u64 U.epoch] 24)))
        have Au4 := Lib.hid (Blk.new wq4 24 #[.int .i64 U.mode, .int .i64 U.source, .bool U.hold, .int .i64 U.flags, .int .u64 U.epoch])
        have M4 := Lib.hid (L4.out.alloc L4.out.size (.cells #[.int .i64 U.mode, .int .i64 U.source, .bool U.hold, .int .i64 U.flags, .int .u64 U.epoch] 24))
        clear Bs4 Bt4 Bv4 L4 T4
        go_wp2_with fail
        refine (HKU.out _).mono ?_; rintro e wq5 ⟨rfl, hb5⟩
        have Bs5 := Lib.hid (As4.out.bl hb5)
        have Bt5 := Lib.hid (At4.out.bl hb5)
        have Bv5 := Lib.hid (Av4.out.bl hb5)
        have Bu5 := Lib.hid (Au4.out.bl hb5)
        have L5 := Lib.hid (bl M4.out hb5)
        have T5 := Lib.hid (Ta4.out.below hb5)
        clear sq0 sq1 sq2 sq3 sq4 tq0 tq1 tq2 tq3 tq4 vq0 vq1 vq2 vq3 vq4 sn1 sn2 tn1 tn2 vn1 vn2
        clear hb5 As4 At4 Av4 Au4 M4 Ta4
        generalize wq4.heap.size = gu at uge sune tune vune Bu5 ⊢
        have sq0 := Bs5.out.cell 0
        have sq1 := Bs5.out.cell 1
        have sq2 := Bs5.out.cell 2
        have sq3 := Bs5.out.cell 3
        have sq4 := Bs5.out.cell 4
        simp only [List.getElem?_toArray, List.getElem?_cons_succ, List.getElem?_cons_zero] at sq0 sq1 sq2 sq3 sq4
        have tq0 := Bt5.out.cell 0
        have tq1 := Bt5.out.cell 1
        have tq2 := Bt5.out.cell 2
        have tq3 := Bt5.out.cell 3
        have tq4 := Bt5.out.cell 4
        simp only [List.getElem?_toArray, List.getElem?_cons_succ, List.getElem?_cons_zero] at tq0 tq1 tq2 tq3 tq4
        have vq0 := Bv5.out.cell 0
        have vq1 := Bv5.out.cell 1
        have vq2 := Bv5.out.cell 2
        have vq3 := Bv5.out.cell 3
        have vq4 := Bv5.out.cell 4
        simp only [List.getElem?_toArray, List.getElem?_cons_succ, List.getElem?_cons_zero] at vq0 vq1 vq2 vq3 vq4
        have uq0 := Bu5.out.cell 0
        have uq1 := Bu5.out.cell 1
        have uq2 := Bu5.out.cell 2
        have uq3 := Bu5.out.cell 3
        have uq4 := Bu5.out.cell 4
        simp only [List.getElem?_toArray, List.getElem?_cons_succ, List.getElem?_cons_zero] at uq0 uq1 uq2 uq3 uq4
        go_wp2_with fail
        refine (awake_any _ T5.out).mono ?_; rintro e wq6 ⟨rfl, hb6⟩
        have Bs6 := Lib.hid (Bs5.out.bl hb6)
        have Bt6 := Lib.hid (Bt5.out.bl hb6)
        have Bv6 := Lib.hid (Bv5.out.bl hb6)
        have Bu6 := Lib.hid (Bu5.out.bl hb6)
        have L6 := Lib.hid (bl L5.out hb6)
        have T6 := Lib.hid (T5.out.below hb6)
        clear sq0 sq1 sq2 sq3 sq4 tq0 tq1 tq2 tq3 tq4 vq0 vq1 vq2 vq3 vq4 uq0 uq1 uq2 uq3 uq4
        clear hb6 Bs5 Bt5 Bv5 Bu5 L5 T5
        have sq0 := Bs6.out.cell 0
        have sq1 := Bs6.out.cell 1
        have sq2 := Bs6.out.cell 2
        have sq3 := Bs6.out.cell 3
        have sq4 := Bs6.out.cell 4
        simp only [List.getElem?_toArray, List.getElem?_cons_succ, List.getElem?_cons_zero] at sq0 sq1 sq2 sq3 sq4
        have tq0 := Bt6.out.cell 0
        have tq1 := Bt6.out.cell 1
        have tq2 := Bt6.out.cell 2
        have tq3 := Bt6.out.cell 3
        have tq4 := Bt6.out.cell 4
        simp only [List.getElem?_toArray, List.getElem?_cons_succ, List.getElem?_cons_zero] at tq0 tq1 tq2 tq3 tq4
        have vq0 := Bv6.out.cell 0
        have vq1 := Bv6.out.cell 1
        have vq2 := Bv6.out.cell 2
        have vq3 := Bv6.out.cell 3
        have vq4 := Bv6.out.cell 4
        simp only [List.getElem?_toArray, List.getElem?_cons_succ, List.getElem?_cons_zero] at vq0 vq1 vq2 vq3 vq4
        have uq0 := Bu6.out.cell 0
        have uq1 := Bu6.out.cell 1
        have uq2 := Bu6.out.cell 2
        have uq3 := Bu6.out.cell 3
        have uq4 := Bu6.out.cell 4
        simp only [List.getElem?_toArray, List.getElem?_cons_succ, List.getElem?_cons_zero] at uq0 uq1 uq2 uq3 uq4
        go_wp2_with fail
        go_ret
        exact ⟨rfl, L6.out⟩
      · have HKS := Lib.hid hKS
        have HKT := Lib.hid hKT
        have HU := Lib.hid hU
        clear hKS hKT hU
        have HUS := Lib.hid hUS
        clear hUS
        unfold St.val at *
        unfold St.zero at HU
        simp only at HU
        have sd0 : (s.mode != s.mode) = false := by simp
        have sd1 : (s.source != s.source) = false := by simp
        have sd2 : (s.hold != s.hold) = false := by simp
        have sd3 : (s.flags != s.flags) = false := by simp
        have sd4 : (s.epoch != s.epoch) = false := by simp
        have Bs0 := Lib.hid ((blk_new' w (g := w.heap.size) (by simp) 24 #[.int .i64 s.mode, .int .i64 s.source, .bool s.hold, .int .i64 s.flags, .int .u64 s.epoch]).alloc (.cells #[.int .i64 t.mode, .int .i64 t.source, .bool t.hold, .int .i64 t.flags, .int .u64 t.epoch] 24))
        have Bt0 := Lib.hid (blk_new' (w.alloc (.cells #[.int .i64 s.mode, .int .i64 s.source, .bool s.hold, .int .i64 s.flags, .int .u64 s.epoch] 24)) (g := w.heap.size + 1) (by simp) 24 #[.int .i64 t.mode, .int .i64 t.source, .bool t.hold, .int .i64 t.flags, .int .u64 t.epoch])
        have L0 := Lib.hid (((Below.refl w.heap.size w).alloc (by first | exact Nat.le_refl _ | (simp; done) | (simp; omega)) (.cells #[.int .i64 s.mode, .int .i64 s.source, .bool s.hold, .int .i64 s.flags, .int .u64 s.epoch] 24)).alloc (by first | exact Nat.le_refl _ | (simp; done) | (simp; omega)) (.cells #[.int .i64 t.mode, .int .i64 t.source, .bool t.hold, .int .i64 t.flags, .int .u64 t.epoch] 24))
        have T0 := Lib.hid (HT.out.below L0.out)
        go_enter Tryd.func4, Tryd.ntmps4
        go_wp2_with fail
        refine (HKS.out _).mono ?_; rintro e wq1 ⟨rfl, hb1⟩
        have Bs1 := Lib.hid (Bs0.out.bl hb1)
        have Bt1 := Lib.hid (Bt0.out.bl hb1)
        have L1 := Lib.hid (bl L0.out hb1)
        have T1 := Lib.hid (T0.out.below hb1)
        clear hb1 Bs0 Bt0 L0 T0
        have sq0 := Bs1.out.cell 0
        have sq1 := Bs1.out.cell 1
        have sq2 := Bs1.out.cell 2
        have sq3 := Bs1.out.cell 3
        have sq4 := Bs1.out.cell 4
        simp only [List.getElem?_toArray, List.getElem?_cons_succ, List.getElem?_cons_zero] at sq0 sq1 sq2 sq3 sq4
        have tq0 := Bt1.out.cell 0
        have tq1 := Bt1.out.cell 1
        have tq2 := Bt1.out.cell 2
        have tq3 := Bt1.out.cell 3
        have tq4 := Bt1.out.cell 4
        simp only [List.getElem?_toArray, List.getElem?_cons_succ, List.getElem?_cons_zero] at tq0 tq1 tq2 tq3 tq4
        go_wp2_with fail
        refine (HKT.out _).mono ?_; rintro e wq2 ⟨rfl, hb2⟩
        have Bs2 := Lib.hid (Bs1.out.bl hb2)
        have Bt2 := Lib.hid (Bt1.out.bl hb2)
        have L2 := Lib.hid (bl L1.out hb2)
        have T2 := Lib.hid (T1.out.below hb2)
        clear sq0 sq1 sq2 sq3 sq4 tq0 tq1 tq2 tq3 tq4
        clear hb2 Bs1 Bt1 L1 T1
        have sq0 := Bs2.out.cell 0
        have sq1 := Bs2.out.cell 1
        have sq2 := Bs2.out.cell 2
        have sq3 := Bs2.out.cell 3
        have sq4 := Bs2.out.cell 4
        simp only [List.getElem?_toArray, List.getElem?_cons_succ, List.getElem?_cons_zero] at sq0 sq1 sq2 sq3 sq4
        have tq0 := Bt2.out.cell 0
        have tq1 := Bt2.out.cell 1
        have tq2 := Bt2.out.cell 2
        have tq3 := Bt2.out.cell 3
        have tq4 := Bt2.out.cell 4
        simp only [List.getElem?_toArray, List.getElem?_cons_succ, List.getElem?_cons_zero] at tq0 tq1 tq2 tq3 tq4
        go_wp2_with fail
        refine (HUS.out _).mono ?_; rintro e wq3 ⟨rfl, hb3⟩
        have Bs3 := Lib.hid (Bs2.out.bl hb3)
        have Bt3 := Lib.hid (Bt2.out.bl hb3)
        have L3 := Lib.hid (bl L2.out hb3)
        have T3 := Lib.hid (T2.out.below hb3)
        clear sq0 sq1 sq2 sq3 sq4 tq0 tq1 tq2 tq3 tq4
        clear hb3 Bs2 Bt2 L2 T2
        have sq0 := Bs3.out.cell 0
        have sq1 := Bs3.out.cell 1
        have sq2 := Bs3.out.cell 2
        have sq3 := Bs3.out.cell 3
        have sq4 := Bs3.out.cell 4
        simp only [List.getElem?_toArray, List.getElem?_cons_succ, List.getElem?_cons_zero] at sq0 sq1 sq2 sq3 sq4
        have tq0 := Bt3.out.cell 0
        have tq1 := Bt3.out.cell 1
        have tq2 := Bt3.out.cell 2
        have tq3 := Bt3.out.cell 3
        have tq4 := Bt3.out.cell 4
        simp only [List.getElem?_toArray, List.getElem?_cons_succ, List.getElem?_cons_zero] at tq0 tq1 tq2 tq3 tq4
        have vge := Lib.hid (show w.heap.size ≤ wq3.heap.size from L3.out.size)
        have sn1 : ¬ w.heap.size = wq3.heap.size := by have := Bs3.out.lt; omega
        have svne := Lib.hid sn1
        have sn2 : w.heap.size < wq3.heap.size := Bs3.out.lt
        have tn1 : ¬ (w.heap.size + 1) = wq3.heap.size := by have := Bt3.out.lt; omega
        have tvne := Lib.hid tn1
        have tn2 : (w.heap.size + 1) < wq3.heap.size := Bt3.out.lt
        have As3 := Lib.hid (Bs3.out.alloc (.cells #[.int .i64 s.mode, .int .i64 s.source, .bool s.hold, .int .i64 s.flags, .int .u64 s.epoch] 24))
        have At3 := Lib.hid (Bt3.out.alloc (.cells #[.int .i64 s.mode, .int .i64 s.source, .bool s.hold, .int .i64 s.flags, .int .u64 s.epoch] 24))
        have Ta3 := Lib.hid (T3.out.below ((Below.refl _ _).alloc (Nat.le_refl _) (.cells #[.int .i64 s.mode, .int .i64 s.source, .bool s.hold, .int .i64 s.flags, .int .u64 s.epoch] 24)))
        have Av3 := Lib.hid (Blk.new wq3 24 #[.int .i64 s.mode, .int .i64 s.source, .bool s.hold, .int .i64 s.flags, .int .u64 s.epoch])
        have M3 := Lib.hid (L3.out.alloc L3.out.size (.cells #[.int .i64 s.mode, .int .i64 s.source, .bool s.hold, .int .i64 s.flags, .int .u64 s.epoch] 24))
        clear Bs3 Bt3 L3 T3
        go_wp2_with fail
        refine (HU.out _).mono ?_; rintro e wq4 ⟨rfl, hb4⟩
        have Bs4 := Lib.hid (As3.out.bl hb4)
        have Bt4 := Lib.hid (At3.out.bl hb4)
        have Bv4 := Lib.hid (Av3.out.bl hb4)
        have L4 := Lib.hid (bl M3.out hb4)
        have T4 := Lib.hid (Ta3.out.below hb4)
        clear sq0 sq1 sq2 sq3 sq4 tq0 tq1 tq2 tq3 tq4 sn1 sn2 tn1 tn2
        clear hb4 As3 At3 Av3 M3 Ta3
        generalize wq3.heap.size = gv at vge svne tvne Bv4 ⊢
        have sq0 := Bs4.out.cell 0
        have sq1 := Bs4.out.cell 1
        have sq2 := Bs4.out.cell 2
        have sq3 := Bs4.out.cell 3
        have sq4 := Bs4.out.cell 4
        simp only [List.getElem?_toArray, List.getElem?_cons_succ, List.getElem?_cons_zero] at sq0 sq1 sq2 sq3 sq4
        have tq0 := Bt4.out.cell 0
        have tq1 := Bt4.out.cell 1
        have tq2 := Bt4.out.cell 2
        have tq3 := Bt4.out.cell 3
        have tq4 := Bt4.out.cell 4
        simp only [List.getElem?_toArray, List.getElem?_cons_succ, List.getElem?_cons_zero] at tq0 tq1 tq2 tq3 tq4
        have vq0 := Bv4.out.cell 0
        have vq1 := Bv4.out.cell 1
        have vq2 := Bv4.out.cell 2
        have vq3 := Bv4.out.cell 3
        have vq4 := Bv4.out.cell 4
        simp only [List.getElem?_toArray, List.getElem?_cons_succ, List.getElem?_cons_zero] at vq0 vq1 vq2 vq3 vq4
        have uge := Lib.hid (show w.heap.size ≤ wq4.heap.size from L4.out.size)
        have sn1 : ¬ w.heap.size = wq4.heap.size := by have := Bs4.out.lt; omega
        have sune := Lib.hid sn1
        have sn2 : w.heap.size < wq4.heap.size := Bs4.out.lt
        have tn1 : ¬ (w.heap.size + 1) = wq4.heap.size := by have := Bt4.out.lt; omega
        have tune := Lib.hid tn1
        have tn2 : (w.heap.size + 1) < wq4.heap.size := Bt4.out.lt
        have vn1 : ¬ gv = wq4.heap.size := by have := Bv4.out.lt; omega
        have vune := Lib.hid vn1
        have vn2 : gv < wq4.heap.size := Bv4.out.lt
        have As4 := Lib.hid (Bs4.out.alloc (.cells #[.int .i64 0, .int .i64 0, .bool false, .int .i64 0, .int .u64 0] 24))
        have At4 := Lib.hid (Bt4.out.alloc (.cells #[.int .i64 0, .int .i64 0, .bool false, .int .i64 0, .int .u64 0] 24))
        have Av4 := Lib.hid (Bv4.out.alloc (.cells #[.int .i64 0, .int .i64 0, .bool false, .int .i64 0, .int .u64 0] 24))
        have Ta4 := Lib.hid (T4.out.below ((Below.refl _ _).alloc (Nat.le_refl _) (.cells #[.int .i64 0, .int .i64 0, .bool false, .int .i64 0, .int .u64 0] 24)))
        have Au4 := Lib.hid (Blk.new wq4 24 #[.int .i64 0, .int .i64 0, .bool false, .int .i64 0, .int .u64 0])
        have M4 := Lib.hid (L4.out.alloc L4.out.size (.cells #[.int .i64 0, .int .i64 0, .bool false, .int .i64 0, .int .u64 0] 24))
        clear Bs4 Bt4 Bv4 L4 T4
        go_wp2_with fail
        refine (awake_any _ Ta4.out).mono ?_; rintro e wq5 ⟨rfl, hb5⟩
        have Bs5 := Lib.hid (As4.out.bl hb5)
        have Bt5 := Lib.hid (At4.out.bl hb5)
        have Bv5 := Lib.hid (Av4.out.bl hb5)
        have Bu5 := Lib.hid (Au4.out.bl hb5)
        have L5 := Lib.hid (bl M4.out hb5)
        have T5 := Lib.hid (Ta4.out.below hb5)
        clear sq0 sq1 sq2 sq3 sq4 tq0 tq1 tq2 tq3 tq4 vq0 vq1 vq2 vq3 vq4 sn1 sn2 tn1 tn2 vn1 vn2
        clear hb5 As4 At4 Av4 Au4 M4 Ta4
        generalize wq4.heap.size = gu at uge sune tune vune Bu5 ⊢
        have sq0 := Bs5.out.cell 0
        have sq1 := Bs5.out.cell 1
        have sq2 := Bs5.out.cell 2
        have sq3 := Bs5.out.cell 3
        have sq4 := Bs5.out.cell 4
        simp only [List.getElem?_toArray, List.getElem?_cons_succ, List.getElem?_cons_zero] at sq0 sq1 sq2 sq3 sq4
        have tq0 := Bt5.out.cell 0
        have tq1 := Bt5.out.cell 1
        have tq2 := Bt5.out.cell 2
        have tq3 := Bt5.out.cell 3
        have tq4 := Bt5.out.cell 4
        simp only [List.getElem?_toArray, List.getElem?_cons_succ, List.getElem?_cons_zero] at tq0 tq1 tq2 tq3 tq4
        have vq0 := Bv5.out.cell 0
        have vq1 := Bv5.out.cell 1
        have vq2 := Bv5.out.cell 2
        have vq3 := Bv5.out.cell 3
        have vq4 := Bv5.out.cell 4
        simp only [List.getElem?_toArray, List.getElem?_cons_succ, List.getElem?_cons_zero] at vq0 vq1 vq2 vq3 vq4
        have uq0 := Bu5.out.cell 0
        have uq1 := Bu5.out.cell 1
        have uq2 := Bu5.out.cell 2
        have uq3 := Bu5.out.cell 3
        have uq4 := Bu5.out.cell 4
        simp only [List.getElem?_toArray, List.getElem?_cons_succ, List.getElem?_cons_zero] at uq0 uq1 uq2 uq3 uq4
        go_wp2_with fail
        go_ret
        exact ⟨rfl, L5.out⟩
    · rcases hne hs0 ht0 with rfl | ⟨nw, hf⟩
      · clear hne hs0 ht0
        have hKT := hKS
        rcases hu with ⟨rfl, hKU⟩ | ⟨rfl, rfl⟩
        · have HKS := Lib.hid hKS
          have HKT := Lib.hid hKT
          have HU := Lib.hid hU
          clear hKS hKT hU
          have HUS := Lib.hid hUS
          clear hUS
          have HKU := Lib.hid hKU
          clear hKU
          have nx : (x == x) = true := by simp
          unfold St.val at *
          have sd0 : (s.mode != s.mode) = false := by simp
          have sd1 : (s.source != s.source) = false := by simp
          have sd2 : (s.hold != s.hold) = false := by simp
          have sd3 : (s.flags != s.flags) = false := by simp
          have sd4 : (s.epoch != s.epoch) = false := by simp
          have se0 : (s.mode == s.mode) = true := by simp
          have se1 : (s.source == s.source) = true := by simp
          have se2 : (s.hold == s.hold) = true := by simp
          have se3 : (s.flags == s.flags) = true := by simp
          have se4 : (s.epoch == s.epoch) = true := by simp
          have nw : (wi == wi) = true := by simp
          have Bs0 := Lib.hid ((blk_new' w (g := w.heap.size) (by simp) 24 #[.int .i64 s.mode, .int .i64 s.source, .bool s.hold, .int .i64 s.flags, .int .u64 s.epoch]).alloc (.cells #[.int .i64 s.mode, .int .i64 s.source, .bool s.hold, .int .i64 s.flags, .int .u64 s.epoch] 24))
          have Bt0 := Lib.hid (blk_new' (w.alloc (.cells #[.int .i64 s.mode, .int .i64 s.source, .bool s.hold, .int .i64 s.flags, .int .u64 s.epoch] 24)) (g := w.heap.size + 1) (by simp) 24 #[.int .i64 s.mode, .int .i64 s.source, .bool s.hold, .int .i64 s.flags, .int .u64 s.epoch])
          have L0 := Lib.hid (((Below.refl w.heap.size w).alloc (by first | exact Nat.le_refl _ | (simp; done) | (simp; omega)) (.cells #[.int .i64 s.mode, .int .i64 s.source, .bool s.hold, .int .i64 s.flags, .int .u64 s.epoch] 24)).alloc (by first | exact Nat.le_refl _ | (simp; done) | (simp; omega)) (.cells #[.int .i64 s.mode, .int .i64 s.source, .bool s.hold, .int .i64 s.flags, .int .u64 s.epoch] 24))
          have T0 := Lib.hid (HT.out.below L0.out)
          go_enter Tryd.func4, Tryd.ntmps4
          go_wp2_with fail
          refine (HKS.out _).mono ?_; rintro e wq1 ⟨rfl, hb1⟩
          have Bs1 := Lib.hid (Bs0.out.bl hb1)
          have Bt1 := Lib.hid (Bt0.out.bl hb1)
          have L1 := Lib.hid (bl L0.out hb1)
          have T1 := Lib.hid (T0.out.below hb1)
          clear hb1 Bs0 Bt0 L0 T0
          have sq0 := Bs1.out.cell 0
          have sq1 := Bs1.out.cell 1
          have sq2 := Bs1.out.cell 2
          have sq3 := Bs1.out.cell 3
          have sq4 := Bs1.out.cell 4
          simp only [List.getElem?_toArray, List.getElem?_cons_succ, List.getElem?_cons_zero] at sq0 sq1 sq2 sq3 sq4
          have tq0 := Bt1.out.cell 0
          have tq1 := Bt1.out.cell 1
          have tq2 := Bt1.out.cell 2
          have tq3 := Bt1.out.cell 3
          have tq4 := Bt1.out.cell 4
          simp only [List.getElem?_toArray, List.getElem?_cons_succ, List.getElem?_cons_zero] at tq0 tq1 tq2 tq3 tq4
          go_wp2_with fail
          refine (HKT.out _).mono ?_; rintro e wq2 ⟨rfl, hb2⟩
          have Bs2 := Lib.hid (Bs1.out.bl hb2)
          have Bt2 := Lib.hid (Bt1.out.bl hb2)
          have L2 := Lib.hid (bl L1.out hb2)
          have T2 := Lib.hid (T1.out.below hb2)
          clear sq0 sq1 sq2 sq3 sq4 tq0 tq1 tq2 tq3 tq4
          clear hb2 Bs1 Bt1 L1 T1
          have sq0 := Bs2.out.cell 0
          have sq1 := Bs2.out.cell 1
          have sq2 := Bs2.out.cell 2
          have sq3 := Bs2.out.cell 3
          have sq4 := Bs2.out.cell 4
          simp only [List.getElem?_toArray, List.getElem?_cons_succ, List.getElem?_cons_zero] at sq0 sq1 sq2 sq3 sq4
          have tq0 := Bt2.out.cell 0
          have tq1 := Bt2.out.cell 1
          have tq2 := Bt2.out.cell 2
          have tq3 := Bt2.out.cell 3
          have tq4 := Bt2.out.cell 4
          simp only [List.getElem?_toArray, List.getElem?_cons_succ, List.getElem?_cons_zero] at tq0 tq1 tq2 tq3 tq4
          go_wp2_with fail
          refine (HUS.out _).mono ?_; rintro e wq3 ⟨rfl, hb3⟩
          have Bs3 := Lib.hid (Bs2.out.bl hb3)
          have Bt3 := Lib.hid (Bt2.out.bl hb3)
          have L3 := Lib.hid (bl L2.out hb3)
          have T3 := Lib.hid (T2.out.below hb3)
          clear sq0 sq1 sq2 sq3 sq4 tq0 tq1 tq2 tq3 tq4
          clear hb3 Bs2 Bt2 L2 T2
          have sq0 := Bs3.out.cell 0
          have sq1 := Bs3.out.cell 1
          have sq2 := Bs3.out.cell 2
          have sq3 := Bs3.out.cell 3
          have sq4 := Bs3.out.cell 4
          simp only [List.getElem?_toArray, List.getElem?_cons_succ, List.getElem?_cons_zero] at sq0 sq1 sq2 sq3 sq4
          have tq0 := Bt3.out.cell 0
          have tq1 := Bt3.out.cell 1
          have tq2 := Bt3.out.cell 2
          have tq3 := Bt3.out.cell 3
          have tq4 := Bt3.out.cell 4
          simp only [List.getElem?_toArray, List.getElem?_cons_succ, List.getElem?_cons_zero] at tq0 tq1 tq2 tq3 tq4
          have vge := Lib.hid (show w.heap.size ≤ wq3.heap.size from L3.out.size)
          have sn1 : ¬ w.heap.size = wq3.heap.size := by have := Bs3.out.lt; omega
          have svne := Lib.hid sn1
          have sn2 : w.heap.size < wq3.heap.size := Bs3.out.lt
          have tn1 : ¬ (w.heap.size + 1) = wq3.heap.size := by have := Bt3.out.lt; omega
          have tvne := Lib.hid tn1
          have tn2 : (w.heap.size + 1) < wq3.heap.size := Bt3.out.lt
          have As3 := Lib.hid (Bs3.out.alloc (.cells #[.int .i64 s.mode, .int .i64 s.source, .bool s.hold, .int .i64 s.flags, .int .u64 s.epoch] 24))
          have At3 := Lib.hid (Bt3.out.alloc (.cells #[.int .i64 s.mode, .int .i64 s.source, .bool s.hold, .int .i64 s.flags, .int .u64 s.epoch] 24))
          have Ta3 := Lib.hid (T3.out.below ((Below.refl _ _).alloc (Nat.le_refl _) (.cells #[.int .i64 s.mode, .int .i64 s.source, .bool s.hold, .int .i64 s.flags, .int .u64 s.epoch] 24)))
          have Av3 := Lib.hid (Blk.new wq3 24 #[.int .i64 s.mode, .int .i64 s.source, .bool s.hold, .int .i64 s.flags, .int .u64 s.epoch])
          have M3 := Lib.hid (L3.out.alloc L3.out.size (.cells #[.int .i64 s.mode, .int .i64 s.source, .bool s.hold, .int .i64 s.flags, .int .u64 s.epoch] 24))
          clear Bs3 Bt3 L3 T3
          go_wp2_with fail
          refine (HU.out _).mono ?_; rintro e wq4 ⟨rfl, hb4⟩
          have Bs4 := Lib.hid (As3.out.bl hb4)
          have Bt4 := Lib.hid (At3.out.bl hb4)
          have Bv4 := Lib.hid (Av3.out.bl hb4)
          have L4 := Lib.hid (bl M3.out hb4)
          have T4 := Lib.hid (Ta3.out.below hb4)
          clear sq0 sq1 sq2 sq3 sq4 tq0 tq1 tq2 tq3 tq4 sn1 sn2 tn1 tn2
          clear hb4 As3 At3 Av3 M3 Ta3
          generalize wq3.heap.size = gv at vge svne tvne Bv4 ⊢
          have sq0 := Bs4.out.cell 0
          have sq1 := Bs4.out.cell 1
          have sq2 := Bs4.out.cell 2
          have sq3 := Bs4.out.cell 3
          have sq4 := Bs4.out.cell 4
          simp only [List.getElem?_toArray, List.getElem?_cons_succ, List.getElem?_cons_zero] at sq0 sq1 sq2 sq3 sq4
          have tq0 := Bt4.out.cell 0
          have tq1 := Bt4.out.cell 1
          have tq2 := Bt4.out.cell 2
          have tq3 := Bt4.out.cell 3
          have tq4 := Bt4.out.cell 4
          simp only [List.getElem?_toArray, List.getElem?_cons_succ, List.getElem?_cons_zero] at tq0 tq1 tq2 tq3 tq4
          have vq0 := Bv4.out.cell 0
          have vq1 := Bv4.out.cell 1
          have vq2 := Bv4.out.cell 2
          have vq3 := Bv4.out.cell 3
          have vq4 := Bv4.out.cell 4
          simp only [List.getElem?_toArray, List.getElem?_cons_succ, List.getElem?_cons_zero] at vq0 vq1 vq2 vq3 vq4
          have uge := Lib.hid (show w.heap.size ≤ wq4.heap.size from L4.out.size)
          have sn1 : ¬ w.heap.size = wq4.heap.size := by have := Bs4.out.lt; omega
          have sune := Lib.hid sn1
          have sn2 : w.heap.size < wq4.heap.size := Bs4.out.lt
          have tn1 : ¬ (w.heap.size + 1) = wq4.heap.size := by have := Bt4.out.lt; omega
          have tune := Lib.hid tn1
          have tn2 : (w.heap.size + 1) < wq4.heap.size := Bt4.out.lt
          have vn1 : ¬ gv = wq4.heap.size := by have := Bv4.out.lt; omega
          have vune := Lib.hid vn1
          have vn2 : gv < wq4.heap.size := Bv4.out.lt
          have As4 := Lib.hid (Bs4.out.alloc (.cells #[.int .i64 U.mode, .int .i64 U.source, .bool U.hold, .int .i64 U.flags, .int .u64 U.epoch] 24))
          have At4 := Lib.hid (Bt4.out.alloc (.cells #[.int .i64 U.mode, .int .i64 U.source, .bool U.hold, .int .i64 U.flags, .int .u64 U.epoch] 24))
          have Av4 := Lib.hid (Bv4.out.alloc (.cells #[.int .i64 U.mode, .int .i64 U.source, .bool U.hold, .int .i64 U.flags, .int .u64 U.epoch] 24))
          have Ta4 := Lib.hid (T4.out.below ((Below.refl _ _).alloc (Nat.le_refl _) (.cells #[.int .i64 U.mode, .int .i64 U.source, .bool U.hold, .int .i64 U.flags, .int .u64 U.epoch] 24)))
          have Au4 := Lib.hid (Blk.new wq4 24 #[.int .i64 U.mode, .int .i64 U.source, .bool U.hold, .int .i64 U.flags, .int .u64 U.epoch])
          have M4 := Lib.hid (L4.out.alloc L4.out.size (.cells #[.int .i64 U.mode, .int .i64 U.source, .bool U.hold, .int .i64 U.flags, .int .u64 U.epoch] 24))
          clear Bs4 Bt4 Bv4 L4 T4
          go_wp2_with fail
          refine (HKU.out _).mono ?_; rintro e wq5 ⟨rfl, hb5⟩
          have Bs5 := Lib.hid (As4.out.bl hb5)
          have Bt5 := Lib.hid (At4.out.bl hb5)
          have Bv5 := Lib.hid (Av4.out.bl hb5)
          have Bu5 := Lib.hid (Au4.out.bl hb5)
          have L5 := Lib.hid (bl M4.out hb5)
          have T5 := Lib.hid (Ta4.out.below hb5)
          clear sq0 sq1 sq2 sq3 sq4 tq0 tq1 tq2 tq3 tq4 vq0 vq1 vq2 vq3 vq4 sn1 sn2 tn1 tn2 vn1 vn2
          clear hb5 As4 At4 Av4 Au4 M4 Ta4
          generalize wq4.heap.size = gu at uge sune tune vune Bu5 ⊢
          have sq0 := Bs5.out.cell 0
          have sq1 := Bs5.out.cell 1
          have sq2 := Bs5.out.cell 2
          have sq3 := Bs5.out.cell 3
          have sq4 := Bs5.out.cell 4
          simp only [List.getElem?_toArray, List.getElem?_cons_succ, List.getElem?_cons_zero] at sq0 sq1 sq2 sq3 sq4
          have tq0 := Bt5.out.cell 0
          have tq1 := Bt5.out.cell 1
          have tq2 := Bt5.out.cell 2
          have tq3 := Bt5.out.cell 3
          have tq4 := Bt5.out.cell 4
          simp only [List.getElem?_toArray, List.getElem?_cons_succ, List.getElem?_cons_zero] at tq0 tq1 tq2 tq3 tq4
          have vq0 := Bv5.out.cell 0
          have vq1 := Bv5.out.cell 1
          have vq2 := Bv5.out.cell 2
          have vq3 := Bv5.out.cell 3
          have vq4 := Bv5.out.cell 4
          simp only [List.getElem?_toArray, List.getElem?_cons_succ, List.getElem?_cons_zero] at vq0 vq1 vq2 vq3 vq4
          have uq0 := Bu5.out.cell 0
          have uq1 := Bu5.out.cell 1
          have uq2 := Bu5.out.cell 2
          have uq3 := Bu5.out.cell 3
          have uq4 := Bu5.out.cell 4
          simp only [List.getElem?_toArray, List.getElem?_cons_succ, List.getElem?_cons_zero] at uq0 uq1 uq2 uq3 uq4
          go_wp2_with fail
          refine (awake_any _ T5.out).mono ?_; rintro e wq6 ⟨rfl, hb6⟩
          have Bs6 := Lib.hid (Bs5.out.bl hb6)
          have Bt6 := Lib.hid (Bt5.out.bl hb6)
          have Bv6 := Lib.hid (Bv5.out.bl hb6)
          have Bu6 := Lib.hid (Bu5.out.bl hb6)
          have L6 := Lib.hid (bl L5.out hb6)
          have T6 := Lib.hid (T5.out.below hb6)
          clear sq0 sq1 sq2 sq3 sq4 tq0 tq1 tq2 tq3 tq4 vq0 vq1 vq2 vq3 vq4 uq0 uq1 uq2 uq3 uq4
          clear hb6 Bs5 Bt5 Bv5 Bu5 L5 T5
          have sq0 := Bs6.out.cell 0
          have sq1 := Bs6.out.cell 1
          have sq2 := Bs6.out.cell 2
          have sq3 := Bs6.out.cell 3
          have sq4 := Bs6.out.cell 4
          simp only [List.getElem?_toArray, List.getElem?_cons_succ, List.getElem?_cons_zero] at sq0 sq1 sq2 sq3 sq4
          have tq0 := Bt6.out.cell 0
          have tq1 := Bt6.out.cell 1
          have tq2 := Bt6.out.cell 2
          have tq3 := Bt6.out.cell 3
          have tq4 := Bt6.out.cell 4
          simp only [List.getElem?_toArray, List.getElem?_cons_succ, List.getElem?_cons_zero] at tq0 tq1 tq2 tq3 tq4
          have vq0 := Bv6.out.cell 0
          have vq1 := Bv6.out.cell 1
          have vq2 := Bv6.out.cell 2
          have vq3 := Bv6.out.cell 3
          have vq4 := Bv6.out.cell 4
          simp only [List.getElem?_toArray, List.getElem?_cons_succ, List.getElem?_cons_zero] at vq0 vq1 vq2 vq3 vq4
          have uq0 := Bu6.out.cell 0
          have uq1 := Bu6.out.cell 1
          have uq2 := Bu6.out.cell 2
          have uq3 := Bu6.out.cell 3
          have uq4 := Bu6.out.cell 4
          simp only [List.getElem?_toArray, List.getElem?_cons_succ, List.getElem?_cons_zero] at uq0 uq1 uq2 uq3 uq4
          go_wp2_with fail
          go_ret
          exact ⟨rfl, L6.out⟩
        · have HKS := Lib.hid hKS
          have HKT := Lib.hid hKT
          have HU := Lib.hid hU
          clear hKS hKT hU
          have HUS := Lib.hid hUS
          clear hUS
          unfold St.val at *
          unfold St.zero at HU
          simp only at HU
          have sd0 : (s.mode != s.mode) = false := by simp
          have sd1 : (s.source != s.source) = false := by simp
          have sd2 : (s.hold != s.hold) = false := by simp
          have sd3 : (s.flags != s.flags) = false := by simp
          have sd4 : (s.epoch != s.epoch) = false := by simp
          have se0 : (s.mode == s.mode) = true := by simp
          have se1 : (s.source == s.source) = true := by simp
          have se2 : (s.hold == s.hold) = true := by simp
          have se3 : (s.flags == s.flags) = true := by simp
          have se4 : (s.epoch == s.epoch) = true := by simp
          have nw : (wi == wi) = true := by simp
          have Bs0 := Lib.hid ((blk_new' w (g := w.heap.size) (by simp) 24 #[.int .i64 s.mode, .int .i64 s.source, .bool s.hold, .int .i64 s.flags, .int .u64 s.epoch]).alloc (.cells #[.int .i64 s.mode, .int .i64 s.source, .bool s.hold, .int .i64 s.flags, .int .u64 s.epoch] 24))
          have Bt0 := Lib.hid (blk_new' (w.alloc (.cells #[.int .i64 s.mode, .int .i64 s.source, .bool s.hold, .int .i64 s.flags, .int .u64 s.epoch] 24)) (g := w.heap.size + 1) (by simp) 24 #[.int .i64 s.mode, .int .i64 s.source, .bool s.hold, .int .i64 s.flags, .int .u64 s.epoch])
          have L0 := Lib.hid (((Below.refl w.heap.size w).alloc (by first | exact Nat.le_refl _ | (simp; done) | (simp; omega)) (.cells #[.int .i64 s.mode, .int .i64 s.source, .bool s.hold, .int .i64 s.flags, .int .u64 s.epoch] 24)).alloc (by first | exact Nat.le_refl _ | (simp; done) | (simp; omega)) (.cells #[.int .i64 s.mode, .int .i64 s.source, .bool s.hold, .int .i64 s.flags, .int .u64 s.epoch] 24))
          have T0 := Lib.hid (HT.out.below L0.out)
          go_enter Tryd.func4, Tryd.ntmps4
          go_wp2_with fail
          refine (HKS.out _).mono ?_; rintro e wq1 ⟨rfl, hb1⟩
          have Bs1 := Lib.hid (Bs0.out.bl hb1)
          have Bt1 := Lib.hid (Bt0.out.bl hb1)
          have L1 := Lib.hid (bl L0.out hb1)
          have T1 := Lib.hid (T0.out.below hb1)
          clear hb1 Bs0 Bt0 L0 T0
          have sq0 := Bs1.out.cell 0
          have sq1 := Bs1.out.cell 1
          have sq2 := Bs1.out.cell 2
          have sq3 := Bs1.out.cell 3
          have sq4 := Bs1.out.cell 4
          simp only [List.getElem?_toArray, List.getElem?_cons_succ, List.getElem?_cons_zero] at sq0 sq1 sq2 sq3 sq4
          have tq0 := Bt1.out.cell 0
          have tq1 := Bt1.out.cell 1
          have tq2 := Bt1.out.cell 2
          have tq3 := Bt1.out.cell 3
          have tq4 := Bt1.out.cell 4
          simp only [List.getElem?_toArray, List.getElem?_cons_succ, List.getElem?_cons_zero] at tq0 tq1 tq2 tq3 tq4
          go_wp2_with fail
          refine (HKT.out _).mono ?_; rintro e wq2 ⟨rfl, hb2⟩
          have Bs2 := Lib.hid (Bs1.out.bl hb2)
          have Bt2 := Lib.hid (Bt1.out.bl hb2)
          have L2 := Lib.hid (bl L1.out hb2)
          have T2 := Lib.hid (T1.out.below hb2)
          clear sq0 sq1 sq2 sq3 sq4 tq0 tq1 tq2 tq3 tq4
          clear hb2 Bs1 Bt1 L1 T1
          have sq0 := Bs2.out.cell 0
          have sq1 := Bs2.out.cell 1
          have sq2 := Bs2.out.cell 2
          have sq3 := Bs2.out.cell 3
          have sq4 := Bs2.out.cell 4
          simp only [List.getElem?_toArray, List.getElem?_cons_succ, List.getElem?_cons_zero] at sq0 sq1 sq2 sq3 sq4
          have tq0 := Bt2.out.cell 0
          have tq1 := Bt2.out.cell 1
          have tq2 := Bt2.out.cell 2
          have tq3 := Bt2.out.cell 3
          have tq4 := Bt2.out.cell 4
          simp only [List.getElem?_toArray, List.getElem?_cons_succ, List.getElem?_cons_zero] at tq0 tq1 tq2 tq3 tq4
          go_wp2_with fail
          refine (HUS.out _).mono ?_; rintro e wq3 ⟨rfl, hb3⟩
          have Bs3 := Lib.hid (Bs2.out.bl hb3)
          have Bt3 := Lib.hid (Bt2.out.bl hb3)
          have L3 := Lib.hid (bl L2.out hb3)
          have T3 := Lib.hid (T2.out.below hb3)
          clear sq0 sq1 sq2 sq3 sq4 tq0 tq1 tq2 tq3 tq4
          clear hb3 Bs2 Bt2 L2 T2
          have sq0 := Bs3.out.cell 0
          have sq1 := Bs3.out.cell 1
          have sq2 := Bs3.out.cell 2
          have sq3 := Bs3.out.cell 3
          have sq4 := Bs3.out.cell 4
          simp only [List.getElem?_toArray, List.getElem?_cons_succ, List.getElem?_cons_zero] at sq0 sq1 sq2 sq3 sq4
          have tq0 := Bt3.out.cell 0
          have tq1 := Bt3.out.cell 1
          have tq2 := Bt3.out.cell 2
          have tq3 := Bt3.out.cell 3
          have tq4 := Bt3.out.cell 4
          simp only [List.getElem?_toArray, List.getElem?_cons_succ, List.getElem?_cons_zero] at tq0 tq1 tq2 tq3 tq4
          have vge := Lib.hid (show w.heap.size ≤ wq3.heap.size from L3.out.size)
          have sn1 : ¬ w.heap.size = wq3.heap.size := by have := Bs3.out.lt; omega
          have svne := Lib.hid sn1
          have sn2 : w.heap.size < wq3.heap.size := Bs3.out.lt
          have tn1 : ¬ (w.heap.size + 1) = wq3.heap.size := by have := Bt3.out.lt; omega
          have tvne := Lib.hid tn1
          have tn2 : (w.heap.size + 1) < wq3.heap.size := Bt3.out.lt
          have As3 := Lib.hid (Bs3.out.alloc (.cells #[.int .i64 s.mode, .int .i64 s.source, .bool s.hold, .int .i64 s.flags, .int .u64 s.epoch] 24))
          have At3 := Lib.hid (Bt3.out.alloc (.cells #[.int .i64 s.mode, .int .i64 s.source, .bool s.hold, .int .i64 s.flags, .int .u64 s.epoch] 24))
          have Ta3 := Lib.hid (T3.out.below ((Below.refl _ _).alloc (Nat.le_refl _) (.cells #[.int .i64 s.mode, .int .i64 s.source, .bool s.hold, .int .i64 s.flags, .int .u64 s.epoch] 24)))
          have Av3 := Lib.hid (Blk.new wq3 24 #[.int .i64 s.mode, .int .i64 s.source, .bool s.hold, .int .i64 s.flags, .int .u64 s.epoch])
          have M3 := Lib.hid (L3.out.alloc L3.out.size (.cells #[.int .i64 s.mode, .int .i64 s.source, .bool s.hold, .int .i64 s.flags, .int .u64 s.epoch] 24))
          clear Bs3 Bt3 L3 T3
          go_wp2_with fail
          refine (HU.out _).mono ?_; rintro e wq4 ⟨rfl, hb4⟩
          have Bs4 := Lib.hid (As3.out.bl hb4)
          have Bt4 := Lib.hid (At3.out.bl hb4)
          have Bv4 := Lib.hid (Av3.out.bl hb4)
          have L4 := Lib.hid (bl M3.out hb4)
          have T4 := Lib.hid (Ta3.out.below hb4)
          clear sq0 sq1 sq2 sq3 sq4 tq0 tq1 tq2 tq3 tq4 sn1 sn2 tn1 tn2
          clear hb4 As3 At3 Av3 M3 Ta3
          generalize wq3.heap.size = gv at vge svne tvne Bv4 ⊢
          have sq0 := Bs4.out.cell 0
          have sq1 := Bs4.out.cell 1
          have sq2 := Bs4.out.cell 2
          have sq3 := Bs4.out.cell 3
          have sq4 := Bs4.out.cell 4
          simp only [List.getElem?_toArray, List.getElem?_cons_succ, List.getElem?_cons_zero] at sq0 sq1 sq2 sq3 sq4
          have tq0 := Bt4.out.cell 0
          have tq1 := Bt4.out.cell 1
          have tq2 := Bt4.out.cell 2
          have tq3 := Bt4.out.cell 3
          have tq4 := Bt4.out.cell 4
          simp only [List.getElem?_toArray, List.getElem?_cons_succ, List.getElem?_cons_zero] at tq0 tq1 tq2 tq3 tq4
          have vq0 := Bv4.out.cell 0
          have vq1 := Bv4.out.cell 1
          have vq2 := Bv4.out.cell 2
          have vq3 := Bv4.out.cell 3
          have vq4 := Bv4.out.cell 4
          simp only [List.getElem?_toArray, List.getElem?_cons_succ, List.getElem?_cons_zero] at vq0 vq1 vq2 vq3 vq4
          have uge := Lib.hid (show w.heap.size ≤ wq4.heap.size from L4.out.size)
          have sn1 : ¬ w.heap.size = wq4.heap.size := by have := Bs4.out.lt; omega
          have sune := Lib.hid sn1
          have sn2 : w.heap.size < wq4.heap.size := Bs4.out.lt
          have tn1 : ¬ (w.heap.size + 1) = wq4.heap.size := by have := Bt4.out.lt; omega
          have tune := Lib.hid tn1
          have tn2 : (w.heap.size + 1) < wq4.heap.size := Bt4.out.lt
          have vn1 : ¬ gv = wq4.heap.size := by have := Bv4.out.lt; omega
          have vune := Lib.hid vn1
          have vn2 : gv < wq4.heap.size := Bv4.out.lt
          have As4 := Lib.hid (Bs4.out.alloc (.cells #[.int .i64 0, .int .i64 0, .bool false, .int .i64 0, .int .u64 0] 24))
          have At4 := Lib.hid (Bt4.out.alloc (.cells #[.int .i64 0, .int .i64 0, .bool false, .int .i64 0, .int .u64 0] 24))
          have Av4 := Lib.hid (Bv4.out.alloc (.cells #[.int .i64 0, .int .i64 0, .bool false, .int .i64 0, .int .u64 0] 24))
          have Ta4 := Lib.hid (T4.out.below ((Below.refl _ _).alloc (Nat.le_refl _) (.cells #[.int .i64 0, .int .i64 0, .bool false, .int .i64 0, .int .u64 0] 24)))
          have Au4 := Lib.hid (Blk.new wq4 24 #[.int .i64 0, .int .i64 0, .bool false, .int .i64 0, .int .u64 0])
          have M4 := Lib.hid (L4.out.alloc L4.out.size (.cells #[.int .i64 0, .int .i64 0, .bool false, .int .i64 0, .int .u64 0] 24))
          clear Bs4 Bt4 Bv4 L4 T4
          go_wp2_with fail
          refine (awake_any _ Ta4.out).mono ?_; rintro e wq5 ⟨rfl, hb5⟩
          have Bs5 := Lib.hid (As4.out.bl hb5)
          have Bt5 := Lib.hid (At4.out.bl hb5)
          have Bv5 := Lib.hid (Av4.out.bl hb5)
          have Bu5 := Lib.hid (Au4.out.bl hb5)
          have L5 := Lib.hid (bl M4.out hb5)
          have T5 := Lib.hid (Ta4.out.below hb5)
          clear sq0 sq1 sq2 sq3 sq4 tq0 tq1 tq2 tq3 tq4 vq0 vq1 vq2 vq3 vq4 sn1 sn2 tn1 tn2 vn1 vn2
          clear hb5 As4 At4 Av4 Au4 M4 Ta4
          generalize wq4.heap.size = gu at uge sune tune vune Bu5 ⊢
          have sq0 := Bs5.out.cell 0
          have sq1 := Bs5.out.cell 1
          have sq2 := Bs5.out.cell 2
          have sq3 := Bs5.out.cell 3
          have sq4 := Bs5.out.cell 4
          simp only [List.getElem?_toArray, List.getElem?_cons_succ, List.getElem?_cons_zero] at sq0 sq1 sq2 sq3 sq4
          have tq0 := Bt5.out.cell 0
          have tq1 := Bt5.out.cell 1
          have tq2 := Bt5.out.cell 2
          have tq3 := Bt5.out.cell 3
          have tq4 := Bt5.out.cell 4
          simp only [List.getElem?_toArray, List.getElem?_cons_succ, List.getElem?_cons_zero] at tq0 tq1 tq2 tq3 tq4
          have vq0 := Bv5.out.cell 0
          have vq1 := Bv5.out.cell 1
          have vq2 := Bv5.out.cell 2
          have vq3 := Bv5.out.cell 3
          have vq4 := Bv5.out.cell 4
          simp only [List.getElem?_toArray, List.getElem?_cons_succ, List.getElem?_cons_zero] at vq0 vq1 vq2 vq3 vq4
          have uq0 := Bu5.out.cell 0
          have uq1 := Bu5.out.cell 1
          have uq2 := Bu5.out.cell 2
          have uq3 := Bu5.out.cell 3
          have uq4 := Bu5.out.cell 4
          simp only [List.getElem?_toArray, List.getElem?_cons_succ, List.getElem?_cons_zero] at uq0 uq1 uq2 uq3 uq4
          go_wp2_with fail
          go_ret
          exact ⟨rfl, L5.out⟩
      · clear hne hs0 ht0
        rcases hf with f0 | ⟨f0, f1⟩ | ⟨f0, f1, f2⟩ | ⟨f0, f1, f2, f3⟩ | ⟨f0, f1, f2, f3, f4⟩
        all_goals
          rcases hu with ⟨rfl, hKU⟩ | ⟨rfl, rfl⟩
          · have HKS := Lib.hid hKS
            have HKT := Lib.hid hKT
            have HU := Lib.hid hU
            clear hKS hKT hU
            have HUS := Lib.hid hUS
            clear hUS
            have HKU := Lib.hid hKU
            clear hKU
            have nx : (x == x) = true := by simp
            unfold St.val at *
            have sd0 : (s.mode != s.mode) = false := by simp
            have sd1 : (s.source != s.source) = false := by simp
            have sd2 : (s.hold != s.hold) = false := by simp
            have sd3 : (s.flags != s.flags) = false := by simp
            have sd4 : (s.epoch != s.epoch) = false := by simp
            have Bs0 := Lib.hid ((blk_new' w (g := w.heap.size) (by simp) 24 #[.int .i64 s.mode, .int .i64 s.source, .bool s.hold, .int .i64 s.flags, .int .u64 s.epoch]).alloc (.cells #[.int .i64 t.mode, .int .i64 t.source, .bool t.hold, .int .i64 t.flags, .int .u64 t.epoch] 24))
            have Bt0 := Lib.hid (blk_new' (w.alloc (.cells #[.int .i64 s.mode, .int .i64 s.source, .bool s.hold, .int .i64 s.flags, .int .u64 s.epoch] 24)) (g := w.heap.size + 1) (by simp) 24 #[.int .i64 t.mode, .int .i64 t.source, .bool t.hold, .int .i64 t.flags, .int .u64 t.epoch])
            have L0 := Lib.hid (((Below.refl w.heap.size w).alloc (by first | exact Nat.le_refl _ | (simp; done) | (simp; omega)) (.cells #[.int .i64 s.mode, .int .i64 s.source, .bool s.hold, .int .i64 s.flags, .int .u64 s.epoch] 24)).alloc (by first | exact Nat.le_refl _ | (simp; done) | (simp; omega)) (.cells #[.int .i64 t.mode, .int .i64 t.source, .bool t.hold, .int .i64 t.flags, .int .u64 t.epoch] 24))
            have T0 := Lib.hid (HT.out.below L0.out)
            go_enter Tryd.func4, Tryd.ntmps4
            go_wp2_with fail
            refine (HKS.out _).mono ?_; rintro e wq1 ⟨rfl, hb1⟩
            have Bs1 := Lib.hid (Bs0.out.bl hb1)
            have Bt1 := Lib.hid (Bt0.out.bl hb1)
            have L1 := Lib.hid (bl L0.out hb1)
            have T1 := Lib.hid (T0.out.below hb1)
            clear hb1 Bs0 Bt0 L0 T0
            have sq0 := Bs1.out.cell 0
            have sq1 := Bs1.out.cell 1
            have sq2 := Bs1.out.cell 2
            have sq3 := Bs1.out.cell 3
            have sq4 := Bs1.out.cell 4
            simp only [List.getElem?_toArray, List.getElem?_cons_succ, List.getElem?_cons_zero] at sq0 sq1 sq2 sq3 sq4
            have tq0 := Bt1.out.cell 0
            have tq1 := Bt1.out.cell 1
            have tq2 := Bt1.out.cell 2
            have tq3 := Bt1.out.cell 3
            have tq4 := Bt1.out.cell 4
            simp only [List.getElem?_toArray, List.getElem?_cons_succ, List.getElem?_cons_zero] at tq0 tq1 tq2 tq3 tq4
            go_wp2_with fail
            refine (HKT.out _).mono ?_; rintro e wq2 ⟨rfl, hb2⟩
            have Bs2 := Lib.hid (Bs1.out.bl hb2)
            have Bt2 := Lib.hid (Bt1.out.bl hb2)
            have L2 := Lib.hid (bl L1.out hb2)
            have T2 := Lib.hid (T1.out.below hb2)
            clear sq0 sq1 sq2 sq3 sq4 tq0 tq1 tq2 tq3 tq4
            clear hb2 Bs1 Bt1 L1 T1
            have sq0 := Bs2.out.cell 0
            have sq1 := Bs2.out.cell 1
            have sq2 := Bs2.out.cell 2
            have sq3 := Bs2.out.cell 3
            have sq4 := Bs2.out.cell 4
            simp only [List.getElem?_toArray, List.getElem?_cons_succ, List.getElem?_cons_zero] at sq0 sq1 sq2 sq3 sq4
            have tq0 := Bt2.out.cell 0
            have tq1 := Bt2.out.cell 1
            have tq2 := Bt2.out.cell 2
            have tq3 := Bt2.out.cell 3
            have tq4 := Bt2.out.cell 4
            simp only [List.getElem?_toArray, List.getElem?_cons_succ, List.getElem?_cons_zero] at tq0 tq1 tq2 tq3 tq4
            go_wp2_with fail
            refine (HUS.out _).mono ?_; rintro e wq3 ⟨rfl, hb3⟩
            have Bs3 := Lib.hid (Bs2.out.bl hb3)
            have Bt3 := Lib.hid (Bt2.out.bl hb3)
            have L3 := Lib.hid (bl L2.out hb3)
            have T3 := Lib.hid (T2.out.below hb3)
            clear sq0 sq1 sq2 sq3 sq4 tq0 tq1 tq2 tq3 tq4
            clear hb3 Bs2 Bt2 L2 T2
            have sq0 := Bs3.out.cell 0
            have sq1 := Bs3.out.cell 1
            have sq2 := Bs3.out.cell 2
            have sq3 := Bs3.out.cell 3
            have sq4 := Bs3.out.cell 4
            simp only [List.getElem?_toArray, List.getElem?_cons_succ, List.getElem?_cons_zero] at sq0 sq1 sq2 sq3 sq4
            have tq0 := Bt3.out.cell 0
            have tq1 := Bt3.out.cell 1
            have tq2 := Bt3.out.cell 2
            have tq3 := Bt3.out.cell 3
            have tq4 := Bt3.out.cell 4
            simp only [List.getElem?_toArray, List.getElem?_cons_succ, List.getElem?_cons_zero] at tq0 tq1 tq2 tq3 tq4
            have vge := Lib.hid (show w.heap.size ≤ wq3.heap.size from L3.out.size)
            have sn1 : ¬ w.heap.size = wq3.heap.size := by have := Bs3.out.lt; omega
            have svne := Lib.hid sn1
            have sn2 : w.heap.size < wq3.heap.size := Bs3.out.lt
            have tn1 : ¬ (w.heap.size + 1) = wq3.heap.size := by have := Bt3.out.lt; omega
            have tvne := Lib.hid tn1
            have tn2 : (w.heap.size + 1) < wq3.heap.size := Bt3.out.lt
            have As3 := Lib.hid (Bs3.out.alloc (.cells #[.int .i64 s.mode, .int .i64 s.source, .bool s.hold, .int .i64 s.flags, .int .u64 s.epoch] 24))
            have At3 := Lib.hid (Bt3.out.alloc (.cells #[.int .i64 s.mode, .int .i64 s.source, .bool s.hold, .int .i64 s.flags, .int .u64 s.epoch] 24))
            have Ta3 := Lib.hid (T3.out.below ((Below.refl _ _).alloc (Nat.le_refl _) (.cells #[.int .i64 s.mode, .int .i64 s.source, .bool s.hold, .int .i64 s.flags, .int .u64 s.epoch] 24)))
            have Av3 := Lib.hid (Blk.new wq3 24 #[.int .i64 s.mode, .int .i64 s.source, .bool s.hold, .int .i64 s.flags, .int .u64 s.epoch])
            have M3 := Lib.hid (L3.out.alloc L3.out.size (.cells #[.int .i64 s.mode, .int .i64 s.source, .bool s.hold, .int .i64 s.flags, .int .u64 s.epoch] 24))
            clear Bs3 Bt3 L3 T3
            go_wp2_with fail
            refine (HU.out _).mono ?_; rintro e wq4 ⟨rfl, hb4⟩
            have Bs4 := Lib.hid (As3.out.bl hb4)
            have Bt4 := Lib.hid (At3.out.bl hb4)
            have Bv4 := Lib.hid (Av3.out.bl hb4)
            have L4 := Lib.hid (bl M3.out hb4)
            have T4 := Lib.hid (Ta3.out.below hb4)
            clear sq0 sq1 sq2 sq3 sq4 tq0 tq1 tq2 tq3 tq4 sn1 sn2 tn1 tn2
            clear hb4 As3 At3 Av3 M3 Ta3
            generalize wq3.heap.size = gv at vge svne tvne Bv4 ⊢
            have sq0 := Bs4.out.cell 0
            have sq1 := Bs4.out.cell 1
            have sq2 := Bs4.out.cell 2
            have sq3 := Bs4.out.cell 3
            have sq4 := Bs4.out.cell 4
            simp only [List.getElem?_toArray, List.getElem?_cons_succ, List.getElem?_cons_zero] at sq0 sq1 sq2 sq3 sq4
            have tq0 := Bt4.out.cell 0
            have tq1 := Bt4.out.cell 1
            have tq2 := Bt4.out.cell 2
            have tq3 := Bt4.out.cell 3
            have tq4 := Bt4.out.cell 4
            simp only [List.getElem?_toArray, List.getElem?_cons_succ, List.getElem?_cons_zero] at tq0 tq1 tq2 tq3 tq4
            have vq0 := Bv4.out.cell 0
            have vq1 := Bv4.out.cell 1
            have vq2 := Bv4.out.cell 2
            have vq3 := Bv4.out.cell 3
            have vq4 := Bv4.out.cell 4
            simp only [List.getElem?_toArray, List.getElem?_cons_succ, List.getElem?_cons_zero] at vq0 vq1 vq2 vq3 vq4
            have uge := Lib.hid (show w.heap.size ≤ wq4.heap.size from L4.out.size)
            have sn1 : ¬ w.heap.size = wq4.heap.size := by have := Bs4.out.lt; omega
            have sune := Lib.hid sn1
            have sn2 : w.heap.size < wq4.heap.size := Bs4.out.lt
            have tn1 : ¬ (w.heap.size + 1) = wq4.heap.size := by have := Bt4.out.lt; omega
            have tune := Lib.hid tn1
            have tn2 : (w.heap.size + 1) < wq4.heap.size := Bt4.out.lt
            have vn1 : ¬ gv = wq4.heap.size := by have := Bv4.out.lt; omega
            have vune := Lib.hid vn1
            have vn2 : gv < wq4.heap.size := Bv4.out.lt
            have As4 := Lib.hid (Bs4.out.alloc (.cells #[.int .i64 U.mode, .int .i64 U.source, .bool U.hold, .int .i64 U.flags, .int .u64 U.epoch] 24))
            have At4 := Lib.hid (Bt4.out.alloc (.cells #[.int .i64 U.mode, .int .i64 U.source, .bool U.hold, .int .i64 U.flags, .int .u64 U.epoch] 24))
            have Av4 := Lib.hid (Bv4.out.alloc (.cells #[.int .i64 U.mode, .int .i64 U.source, .bool U.hold, .int .i64 U.flags, .int .u64 U.epoch] 24))
            have Ta4 := Lib.hid (T4.out.below ((Below.refl _ _).alloc (Nat.le_refl _) (.cells #[.int .i64 U.mode, .int .i64 U.source, .bool U.hold, .int .i64 U.flags, .int .u64 U.epoch] 24)))
            have Au4 := Lib.hid (Blk.new wq4 24 #[.int .i64 U.mode, .int .i64 U.source, .bool U.hold, .int .i64 U.flags, .int .u64 U.epoch])
            have M4 := Lib.hid (L4.out.alloc L4.out.size (.cells #[.int .i64 U.mode, .int .i64 U.source, .bool U.hold, .int .i64 U.flags, .int .u64 U.epoch] 24))
            clear Bs4 Bt4 Bv4 L4 T4
            go_wp2_with fail
            refine (HKU.out _).mono ?_; rintro e wq5 ⟨rfl, hb5⟩
            have Bs5 := Lib.hid (As4.out.bl hb5)
            have Bt5 := Lib.hid (At4.out.bl hb5)
            have Bv5 := Lib.hid (Av4.out.bl hb5)
            have Bu5 := Lib.hid (Au4.out.bl hb5)
            have L5 := Lib.hid (bl M4.out hb5)
            have T5 := Lib.hid (Ta4.out.below hb5)
            clear sq0 sq1 sq2 sq3 sq4 tq0 tq1 tq2 tq3 tq4 vq0 vq1 vq2 vq3 vq4 sn1 sn2 tn1 tn2 vn1 vn2
            clear hb5 As4 At4 Av4 Au4 M4 Ta4
            generalize wq4.heap.size = gu at uge sune tune vune Bu5 ⊢
            have sq0 := Bs5.out.cell 0
            have sq1 := Bs5.out.cell 1
            have sq2 := Bs5.out.cell 2
            have sq3 := Bs5.out.cell 3
            have sq4 := Bs5.out.cell 4
            simp only [List.getElem?_toArray, List.getElem?_cons_succ, List.getElem?_cons_zero] at sq0 sq1 sq2 sq3 sq4
            have tq0 := Bt5.out.cell 0
            have tq1 := Bt5.out.cell 1
            have tq2 := Bt5.out.cell 2
            have tq3 := Bt5.out.cell 3
            have tq4 := Bt5.out.cell 4
            simp only [List.getElem?_toArray, List.getElem?_cons_succ, List.getElem?_cons_zero] at tq0 tq1 tq2 tq3 tq4
            have vq0 := Bv5.out.cell 0
            have vq1 := Bv5.out.cell 1
            have vq2 := Bv5.out.cell 2
            have vq3 := Bv5.out.cell 3
            have vq4 := Bv5.out.cell 4
            simp only [List.getElem?_toArray, List.getElem?_cons_succ, List.getElem?_cons_zero] at vq0 vq1 vq2 vq3 vq4
            have uq0 := Bu5.out.cell 0
            have uq1 := Bu5.out.cell 1
            have uq2 := Bu5.out.cell 2
            have uq3 := Bu5.out.cell 3
            have uq4 := Bu5.out.cell 4
            simp only [List.getElem?_toArray, List.getElem?_cons_succ, List.getElem?_cons_zero] at uq0 uq1 uq2 uq3 uq4
            go_wp2_with fail
            refine (awake_any _ T5.out).mono ?_; rintro e wq6 ⟨rfl, hb6⟩
            have Bs6 := Lib.hid (Bs5.out.bl hb6)
            have Bt6 := Lib.hid (Bt5.out.bl hb6)
            have Bv6 := Lib.hid (Bv5.out.bl hb6)
            have Bu6 := Lib.hid (Bu5.out.bl hb6)
            have L6 := Lib.hid (bl L5.out hb6)
            have T6 := Lib.hid (T5.out.below hb6)
            clear sq0 sq1 sq2 sq3 sq4 tq0 tq1 tq2 tq3 tq4 vq0 vq1 vq2 vq3 vq4 uq0 uq1 uq2 uq3 uq4
            clear hb6 Bs5 Bt5 Bv5 Bu5 L5 T5
            have sq0 := Bs6.out.cell 0
            have sq1 := Bs6.out.cell 1
            have sq2 := Bs6.out.cell 2
            have sq3 := Bs6.out.cell 3
            have sq4 := Bs6.out.cell 4
            simp only [List.getElem?_toArray, List.getElem?_cons_succ, List.getElem?_cons_zero] at sq0 sq1 sq2 sq3 sq4
            have tq0 := Bt6.out.cell 0
            have tq1 := Bt6.out.cell 1
            have tq2 := Bt6.out.cell 2
            have tq3 := Bt6.out.cell 3
            have tq4 := Bt6.out.cell 4
            simp only [List.getElem?_toArray, List.getElem?_cons_succ, List.getElem?_cons_zero] at tq0 tq1 tq2 tq3 tq4
            have vq0 := Bv6.out.cell 0
            have vq1 := Bv6.out.cell 1
            have vq2 := Bv6.out.cell 2
            have vq3 := Bv6.out.cell 3
            have vq4 := Bv6.out.cell 4
            simp only [List.getElem?_toArray, List.getElem?_cons_succ, List.getElem?_cons_zero] at vq0 vq1 vq2 vq3 vq4
            have uq0 := Bu6.out.cell 0
            have uq1 := Bu6.out.cell 1
            have uq2 := Bu6.out.cell 2
            have uq3 := Bu6.out.cell 3
            have uq4 := Bu6.out.cell 4
            simp only [List.getElem?_toArray, List.getElem?_cons_succ, List.getElem?_cons_zero] at uq0 uq1 uq2 uq3 uq4
            go_wp2_with fail
            go_ret
            exact ⟨rfl, L6.out⟩
          · have HKS := Lib.hid hKS
            have HKT := Lib.hid hKT
            have HU := Lib.hid hU
            clear hKS hKT hU
            have HUS := Lib.hid hUS
            clear hUS
            unfold St.val at *
            unfold St.zero at HU
            simp only at HU
            have sd0 : (s.mode != s.mode) = false := by simp
            have sd1 : (s.source != s.source) = false := by simp
            have sd2 : (s.hold != s.hold) = false := by simp
            have sd3 : (s.flags != s.flags) = false := by simp
            have sd4 : (s.epoch != s.epoch) = false := by simp
            have Bs0 := Lib.hid ((blk_new' w (g := w.heap.size) (by simp) 24 #[.int .i64 s.mode, .int .i64 s.source, .bool s.hold, .int .i64 s.flags, .int .u64 s.epoch]).alloc (.cells #[.int .i64 t.mode, .int .i64 t.source, .bool t.hold, .int .i64 t.flags, .int .u64 t.epoch] 24))
            have Bt0 := Lib.hid (blk_new' (w.alloc (.cells #[.int .i64 s.mode, .int .i64 s.source, .bool s.hold, .int .i64 s.flags, .int .u64 s.epoch] 24)) (g := w.heap.size + 1) (by simp) 24 #[.int .i64 t.mode, .int .i64 t.source, .bool t.hold, .int .i64 t.flags, .int .u64 t.epoch])
            have L0 := Lib.hid (((Below.refl w.heap.size w).alloc (by first | exact Nat.le_refl _ | (simp; done) | (simp; omega)) (.cells #[.int .i64 s.mode, .int .i64 s.source, .bool s.hold, .int .i64 s.flags, .int .u64 s.epoch] 24)).alloc (by first | exact Nat.le_refl _ | (simp; done) | (simp; omega)) (.cells #[.int .i64 t.mode, .int .i64 t.source, .bool t.hold, .int .i64 t.flags, .int .u64 t.epoch] 24))
            have T0 := Lib.hid (HT.out.below L0.out)
            go_enter Tryd.func4, Tryd.ntmps4
            go_wp2_with fail
            refine (HKS.out _).mono ?_; rintro e wq1 ⟨rfl, hb1⟩
            have Bs1 := Lib.hid (Bs0.out.bl hb1)
            have Bt1 := Lib.hid (Bt0.out.bl hb1)
            have L1 := Lib.hid (bl L0.out hb1)
            have T1 := Lib.hid (T0.out.below hb1)
            clear hb1 Bs0 Bt0 L0 T0
            have sq0 := Bs1.out.cell 0
            have sq1 := Bs1.out.cell 1
            have sq2 := Bs1.out.cell 2
            have sq3 := Bs1.out.cell 3
            have sq4 := Bs1.out.cell 4
            simp only [List.getElem?_toArray, List.getElem?_cons_succ, List.getElem?_cons_zero] at sq0 sq1 sq2 sq3 sq4
            have tq0 := Bt1.out.cell 0
            have tq1 := Bt1.out.cell 1
            have tq2 := Bt1.out.cell 2
            have tq3 := Bt1.out.cell 3
            have tq4 := Bt1.out.cell 4
            simp only [List.getElem?_toArray, List.getElem?_cons_succ, List.getElem?_cons_zero] at tq0 tq1 tq2 tq3 tq4
            go_wp2_with fail
            refine (HKT.out _).mono ?_; rintro e wq2 ⟨rfl, hb2⟩
            have Bs2 := Lib.hid (Bs1.out.bl hb2)
            have Bt2 := Lib.hid (Bt1.out.bl hb2)
            have L2 := Lib.hid (bl L1.out hb2)
            have T2 := Lib.hid (T1.out.below hb2)
            clear sq0 sq1 sq2 sq3 sq4 tq0 tq1 tq2 tq3 tq4
            clear hb2 Bs1 Bt1 L1 T1
            have sq0 := Bs2.out.cell 0
            have sq1 := Bs2.out.cell 1
            have sq2 := Bs2.out.cell 2
            have sq3 := Bs2.out.cell 3
            have sq4 := Bs2.out.cell 4
            simp only [List.getElem?_toArray, List.getElem?_cons_succ, List.getElem?_cons_zero] at sq0 sq1 sq2 sq3 sq4
            have tq0 := Bt2.out.cell 0
            have tq1 := Bt2.out.cell 1
            have tq2 := Bt2.out.cell 2
            have tq3 := Bt2.out.cell 3
            have tq4 := Bt2.out.cell 4
            simp only [List.getElem?_toArray, List.getElem?_cons_succ, List.getElem?_cons_zero] at tq0 tq1 tq2 tq3 tq4
            go_wp2_with fail
            refine (HUS.out _).mono ?_; rintro e wq3 ⟨rfl, hb3⟩
            have Bs3 := Lib.hid (Bs2.out.bl hb3)
            have Bt3 := Lib.hid (Bt2.out.bl hb3)
            have L3 := Lib.hid (bl L2.out hb3)
            have T3 := Lib.hid (T2.out.below hb3)
            clear sq0 sq1 sq2 sq3 sq4 tq0 tq1 tq2 tq3 tq4
            clear hb3 Bs2 Bt2 L2 T2
            have sq0 := Bs3.out.cell 0
            have sq1 := Bs3.out.cell 1
            have sq2 := Bs3.out.cell 2
            have sq3 := Bs3.out.cell 3
            have sq4 := Bs3.out.cell 4
            simp only [List.getElem?_toArray, List.getElem?_cons_succ, List.getElem?_cons_zero] at sq0 sq1 sq2 sq3 sq4
            have tq0 := Bt3.out.cell 0
            have tq1 := Bt3.out.cell 1
            have tq2 := Bt3.out.cell 2
            have tq3 := Bt3.out.cell 3
            have tq4 := Bt3.out.cell 4
            simp only [List.getElem?_toArray, List.getElem?_cons_succ, List.getElem?_cons_zero] at tq0 tq1 tq2 tq3 tq4
            have vge := Lib.hid (show w.heap.size ≤ wq3.heap.size from L3.out.size)
            have sn1 : ¬ w.heap.size = wq3.heap.size := by have := Bs3.out.lt; omega
            have svne := Lib.hid sn1
            have sn2 : w.heap.size < wq3.heap.size := Bs3.out.lt
            have tn1 : ¬ (w.heap.size + 1) = wq3.heap.size := by have := Bt3.out.lt; omega
            have tvne := Lib.hid tn1
            have tn2 : (w.heap.size + 1) < wq3.heap.size := Bt3.out.lt
            have As3 := Lib.hid (Bs3.out.alloc (.cells #[.int .i64 s.mode, .int .i64 s.source, .bool s.hold, .int .i64 s.flags, .int .u64 s.epoch] 24))
            have At3 := Lib.hid (Bt3.out.alloc (.cells #[.int .i64 s.mode, .int .i64 s.source, .bool s.hold, .int .i64 s.flags, .int .u64 s.epoch] 24))
            have Ta3 := Lib.hid (T3.out.below ((Below.refl _ _).alloc (Nat.le_refl _) (.cells #[.int .i64 s.mode, .int .i64 s.source, .bool s.hold, .int .i64 s.flags, .int .u64 s.epoch] 24)))
            have Av3 := Lib.hid (Blk.new wq3 24 #[.int .i64 s.mode, .int .i64 s.source, .bool s.hold, .int .i64 s.flags, .int .u64 s.epoch])
            have M3 := Lib.hid (L3.out.alloc L3.out.size (.cells #[.int .i64 s.mode, .int .i64 s.source, .bool s.hold, .int .i64 s.flags, .int .u64 s.epoch] 24))
            clear Bs3 Bt3 L3 T3
            go_wp2_with fail
            refine (HU.out _).mono ?_; rintro e wq4 ⟨rfl, hb4⟩
            have Bs4 := Lib.hid (As3.out.bl hb4)
            have Bt4 := Lib.hid (At3.out.bl hb4)
            have Bv4 := Lib.hid (Av3.out.bl hb4)
            have L4 := Lib.hid (bl M3.out hb4)
            have T4 := Lib.hid (Ta3.out.below hb4)
            clear sq0 sq1 sq2 sq3 sq4 tq0 tq1 tq2 tq3 tq4 sn1 sn2 tn1 tn2
            clear hb4 As3 At3 Av3 M3 Ta3
            generalize wq3.heap.size = gv at vge svne tvne Bv4 ⊢
            have sq0 := Bs4.out.cell 0
            have sq1 := Bs4.out.cell 1
            have sq2 := Bs4.out.cell 2
            have sq3 := Bs4.out.cell 3
            have sq4 := Bs4.out.cell 4
            simp only [List.getElem?_toArray, List.getElem?_cons_succ, List.getElem?_cons_zero] at sq0 sq1 sq2 sq3 sq4
            have tq0 := Bt4.out.cell 0
            have tq1 := Bt4.out.cell 1
            have tq2 := Bt4.out.cell 2
            have tq3 := Bt4.out.cell 3
            have tq4 := Bt4.out.cell 4
            simp only [List.getElem?_toArray, List.getElem?_cons_succ, List.getElem?_cons_zero] at tq0 tq1 tq2 tq3 tq4
            have vq0 := Bv4.out.cell 0
            have vq1 := Bv4.out.cell 1
            have vq2 := Bv4.out.cell 2
            have vq3 := Bv4.out.cell 3
            have vq4 := Bv4.out.cell 4
            simp only [List.getElem?_toArray, List.getElem?_cons_succ, List.getElem?_cons_zero] at vq0 vq1 vq2 vq3 vq4
            have uge := Lib.hid (show w.heap.size ≤ wq4.heap.size from L4.out.size)
            have sn1 : ¬ w.heap.size = wq4.heap.size := by have := Bs4.out.lt; omega
            have sune := Lib.hid sn1
            have sn2 : w.heap.size < wq4.heap.size := Bs4.out.lt
            have tn1 : ¬ (w.heap.size + 1) = wq4.heap.size := by have := Bt4.out.lt; omega
            have tune := Lib.hid tn1
            have tn2 : (w.heap.size + 1) < wq4.heap.size := Bt4.out.lt
            have vn1 : ¬ gv = wq4.heap.size := by have := Bv4.out.lt; omega
            have vune := Lib.hid vn1
            have vn2 : gv < wq4.heap.size := Bv4.out.lt
            have As4 := Lib.hid (Bs4.out.alloc (.cells #[.int .i64 0, .int .i64 0, .bool false, .int .i64 0, .int .u64 0] 24))
            have At4 := Lib.hid (Bt4.out.alloc (.cells #[.int .i64 0, .int .i64 0, .bool false, .int .i64 0, .int .u64 0] 24))
            have Av4 := Lib.hid (Bv4.out.alloc (.cells #[.int .i64 0, .int .i64 0, .bool false, .int .i64 0, .int .u64 0] 24))
            have Ta4 := Lib.hid (T4.out.below ((Below.refl _ _).alloc (Nat.le_refl _) (.cells #[.int .i64 0, .int .i64 0, .bool false, .int .i64 0, .int .u64 0] 24)))
            have Au4 := Lib.hid (Blk.new wq4 24 #[.int .i64 0, .int .i64 0, .bool false, .int .i64 0, .int .u64 0])
            have M4 := Lib.hid (L4.out.alloc L4.out.size (.cells #[.int .i64 0, .int .i64 0, .bool false, .int .i64 0, .int .u64 0] 24))
            clear Bs4 Bt4 Bv4 L4 T4
            go_wp2_with fail
            refine (awake_any _ Ta4.out).mono ?_; rintro e wq5 ⟨rfl, hb5⟩
            have Bs5 := Lib.hid (As4.out.bl hb5)
            have Bt5 := Lib.hid (At4.out.bl hb5)
            have Bv5 := Lib.hid (Av4.out.bl hb5)
            have Bu5 := Lib.hid (Au4.out.bl hb5)
            have L5 := Lib.hid (bl M4.out hb5)
            have T5 := Lib.hid (Ta4.out.below hb5)
            clear sq0 sq1 sq2 sq3 sq4 tq0 tq1 tq2 tq3 tq4 vq0 vq1 vq2 vq3 vq4 sn1 sn2 tn1 tn2 vn1 vn2
            clear hb5 As4 At4 Av4 Au4 M4 Ta4
            generalize wq4.heap.size = gu at uge sune tune vune Bu5 ⊢
            have sq0 := Bs5.out.cell 0
            have sq1 := Bs5.out.cell 1
            have sq2 := Bs5.out.cell 2
            have sq3 := Bs5.out.cell 3
            have sq4 := Bs5.out.cell 4
            simp only [List.getElem?_toArray, List.getElem?_cons_succ, List.getElem?_cons_zero] at sq0 sq1 sq2 sq3 sq4
            have tq0 := Bt5.out.cell 0
            have tq1 := Bt5.out.cell 1
            have tq2 := Bt5.out.cell 2
            have tq3 := Bt5.out.cell 3
            have tq4 := Bt5.out.cell 4
            simp only [List.getElem?_toArray, List.getElem?_cons_succ, List.getElem?_cons_zero] at tq0 tq1 tq2 tq3 tq4
            have vq0 := Bv5.out.cell 0
            have vq1 := Bv5.out.cell 1
            have vq2 := Bv5.out.cell 2
            have vq3 := Bv5.out.cell 3
            have vq4 := Bv5.out.cell 4
            simp only [List.getElem?_toArray, List.getElem?_cons_succ, List.getElem?_cons_zero] at vq0 vq1 vq2 vq3 vq4
            have uq0 := Bu5.out.cell 0
            have uq1 := Bu5.out.cell 1
            have uq2 := Bu5.out.cell 2
            have uq3 := Bu5.out.cell 3
            have uq4 := Bu5.out.cell 4
            simp only [List.getElem?_toArray, List.getElem?_cons_succ, List.getElem?_cons_zero] at uq0 uq1 uq2 uq3 uq4
            go_wp2_with fail
            go_ret
            exact ⟨rfl, L5.out⟩
theorem RegBacks_law (v : Value) (s : St) (u : Value) (t : St) (x : Int) (hx : 0 ≤ x ∧ x ≤ 18446744073709551615) (w : World) (hs : s.Ok ∧ v = s.val) (hst : t.Ok ∧ u = t.val) (ht : Modes.Tab w) : Calls Tryd.prog 4 #[v, u, .int .u64 x] w fun e w' => e = .returned (.bool true) ∧ Below w.heap.size w w' := by
  obtain ⟨hs, rfl⟩ := hs
  obtain ⟨hst, rfl⟩ := hst
  exact RegBacks_walk s hs t hst x hx w ht
end Go.Proofs.YtjnhmoafljfnkaaDoor.Reg
