/-
  Reg: RegHolds: the law's walk. Condition: the table of ways lies in block 0. By an AI agent.
-/
import Derived.Test.YtjnhmoafljfnkaaDoorRegA
import Derived.Deep.CutRange
namespace Go.Proofs.YtjnhmoafljfnkaaDoor.Reg
set_option linter.unusedVariables false
set_option linter.unusedSimpArgs false
open Go Go.RowKit Go.Proofs.YtjnhmoafljfnkaaDoor.Base Go.Proofs.YtjnhmoafljfnkaaDoor.Modes Go.Deep

set_option maxRecDepth 100000 in
set_option maxHeartbeats 64000000 in
theorem RegHolds_walk (v : Value) (x : Nat × (Nat → Act)) (w : World) (hx : Acts w v x.1 x.2) (ht : Tab w) : Calls Tryd.prog 6 #[v] w fun e w' => e = .returned (.bool true) ∧ Below w.heap.size w w' := by
  obtain ⟨n, l⟩ := x
  simp only at hx
  obtain ⟨A, ca, rfl, hl, hf⟩ := hx.form
  have HF := Lib.hid hf
  have HOK := Lib.hid hx.ok
  unfold maxLen at hl
  have HT := Lib.hid ht
  clear hf hx ht
  by_cases hn : n ≤ 200
  · have F0 := Lib.hid (show Blk (w.alloc (.cells #[.int .i64 0, .int .i64 0, .bool false, .int .i64 0, .int .u64 0] 24)) w.heap.size 24 #[.int .i64 0, .int .i64 0, .bool false, .int .i64 0, .int .u64 0] from Blk.new w _ _)
    have F1 := Lib.hid (show Below w.heap.size w (w.alloc (.cells #[.int .i64 0, .int .i64 0, .bool false, .int .i64 0, .int .u64 0] 24)) from (Below.refl _ _).alloc (Nat.le_refl _) _)
    have hn1 : decide ((200 : Int) < (n : Int)) = false := decide_eq_false (by omega)
    go_enter Tryd.func6, Tryd.ntmps6
    go_wp2_with fail
    generalize w.alloc (.cells #[.int .i64 0, .int .i64 0, .bool false, .int .i64 0, .int .u64 0] 24) = W1 at *
    go_loopw [4, 5, 6] (fun hv lv iv wr => ∃ (k : Nat) (s : St), k ≤ n ∧ hv = .bool s.hold ∧ lv = .int .i64 s.source ∧ iv = .int .i64 k ∧ Run s k ∧ Blk wr w.heap.size 24 #[.int .i64 s.mode, .int .i64 s.source, .bool s.hold, .int .i64 s.flags, .int .u64 s.epoch] ∧ Below w.heap.size w wr) (fun _ _ i _ => n - (intOf i).toNat)
    case atStart => exact ⟨0, St.zero, by omega, rfl, rfl, rfl, Run.zero, F0.out, F1.out⟩
    case round =>
      clear F0 F1
      obtain ⟨k, s, hk, rfl, rfl, rfl, hrun, hbs, hbl⟩ := hrel
      by_cases hlt : k < n
      · obtain ⟨b, o, rfl, hb, hcc⟩ := HF.out (by omega)
        have hcc' := hcc k hlt
        have hok := HOK.out k hlt
        have ck0 := (hbl.cell (p := ⟨b, o + k * 5, none⟩) hb).trans hcc'.1
        have ck1 := (hbl.cell (p := ⟨b, o + k * 5 + 1, none⟩) hb).trans hcc'.2.1
        have ck2 := (hbl.cell (p := ⟨b, o + k * 5 + 2, none⟩) hb).trans hcc'.2.2.1
        have ck3 := (hbl.cell (p := ⟨b, o + k * 5 + 3, none⟩) hb).trans hcc'.2.2.2.1
        have ck4 := (hbl.cell (p := ⟨b, o + k * 5 + 4, none⟩) hb).trans hcc'.2.2.2.2
        clear hcc hcc'
        have hd1 : decide ((k : Int) < (n : Int)) = true := decide_eq_true (by omega)
        have hi0 : (0 : Int) ≤ (k : Int) := by omega
        have hi1 : (k : Int) < (n : Int) := by omega
        generalize l k = a at *
        have hHe := hrun.health (by omega) a.flags
        have hDe := hrun.decide (by omega) a.ask
        have hHc := Health_any s hrun.ok a.flags
        have hDc := Decide_any s hrun.ok a.ask ⟨hok.source, hok.mode⟩
        have hnh : s.hold = true → s.source = 3 := fun h => by
          have := (mayE_zero.1 hrun.may).2
          by_cases q : s.source = 3
          · exact q
          · exact absurd ⟨h, q⟩ this
        have HRS := Lib.hid hrun.same
        have T0 := Lib.hid (HT.out.below hbl)
        have BS := Lib.hid hbs
        have L0 := Lib.hid hbl
        clear hrun hbs hbl hok
        obtain ⟨m, so, ho, fl, ep⟩ := s
        obtain ⟨tl, af, aso, am, afr⟩ := a
        unfold Act.ask at *
        simp only at *
        cases ho
        · cases tl
          · rcases hDe with ⟨hE, hS, _, h3, h4, hR⟩ | hE
            · rw [hE, hS] at hDc
              clear hHe hHc hE hS
              by_cases haso : aso = 3
              · subst haso
                by_cases ham : am = 7
                · subst ham
                  have hN : nextS ⟨m, so, false, fl, ep⟩ ⟨3, 7, afr⟩ = ⟨7, 3, true, fl, ep + 1⟩ := by unfold nextS; rw [if_pos ⟨rfl, rfl⟩]
                  rw [hN] at hDc hR
                  have HDC := Lib.hid hDc
                  have HR := Lib.hid hR
                  unfold St.val Ask.val at HDC
                  simp only at HDC
                  clear hDc hR hN
                  have hlt4 : decide (3 < so) = true ∧ (m != 0) = false ∨ decide (3 < so) = false := by
                    by_cases q : 3 < so
                    · left; exact ⟨decide_eq_true q, by by_cases q2 : m = 0; simp [q2]; exact absurd ⟨q, q2⟩ h4⟩
                    · right; exact decide_eq_false q
                  have HL4 := Lib.hid hlt4
                  clear hlt4
                  have sq0 := BS.out.cell 0
                  have sq1 := BS.out.cell 1
                  have sq2 := BS.out.cell 2
                  have sq3 := BS.out.cell 3
                  have sq4 := BS.out.cell 4
                  simp only [List.getElem?_toArray, List.getElem?_cons_succ, List.getElem?_cons_zero] at sq0 sq1 sq2 sq3 sq4
                  have bn1 : ¬ b = wr.heap.size := by have := L0.out.size; omega
                  have bn2 : b < wr.heap.size := by have := L0.out.size; omega
                  have age := Lib.hid (show w.heap.size ≤ wr.heap.size from L0.out.size)
                  have sn1 : ¬ w.heap.size = wr.heap.size := by have := BS.out.lt; omega
                  have sane := Lib.hid sn1
                  have sn2 : w.heap.size < wr.heap.size := BS.out.lt
                  have As100 := Lib.hid (BS.out.alloc (.cells #[.bool false, .int .i64 af, .int .i64 3, .int .i64 7, .bool afr] 38))
                  have Ta100 := Lib.hid (T0.out.below ((Below.refl _ _).alloc (Nat.le_refl _) (.cells #[.bool false, .int .i64 af, .int .i64 3, .int .i64 7, .bool afr] 38)))
                  have Aa100 := Lib.hid (Blk.new wr 38 #[.bool false, .int .i64 af, .int .i64 3, .int .i64 7, .bool afr])
                  have M100 := Lib.hid (L0.out.alloc L0.out.size (.cells #[.bool false, .int .i64 af, .int .i64 3, .int .i64 7, .bool afr] 38))
                  clear BS L0 T0
                  go_wp2_with fail
                  refine (HDC.out _ Ta100.out).mono ?_; rintro e wq1 ⟨rfl, hb1⟩
                  have Bs1 := Lib.hid (As100.out.bl hb1)
                  have Ba1 := Lib.hid (Aa100.out.bl hb1)
                  have L1 := Lib.hid (bl M100.out hb1)
                  have T1 := Lib.hid (Ta100.out.below hb1)
                  clear sq0 sq1 sq2 sq3 sq4 ck0 ck1 ck2 ck3 ck4 bn1 bn2 sn1 sn2
                  clear hb1 As100 Aa100 M100 Ta100
                  generalize wr.heap.size = ga at age sane Ba1 ⊢
                  have sq0 := Bs1.out.cell 0
                  have sq1 := Bs1.out.cell 1
                  have sq2 := Bs1.out.cell 2
                  have sq3 := Bs1.out.cell 3
                  have sq4 := Bs1.out.cell 4
                  simp only [List.getElem?_toArray, List.getElem?_cons_succ, List.getElem?_cons_zero] at sq0 sq1 sq2 sq3 sq4
                  have sf0 := Bs1.out.frozen 0
                  have sf1 := Bs1.out.frozen 1
                  have sf2 := Bs1.out.frozen 2
                  have sf3 := Bs1.out.frozen 3
                  have sf4 := Bs1.out.frozen 4
                  have aq0 := Ba1.out.cell 0
                  have aq1 := Ba1.out.cell 1
                  have aq2 := Ba1.out.cell 2
                  have aq3 := Ba1.out.cell 3
                  have aq4 := Ba1.out.cell 4
                  simp only [List.getElem?_toArray, List.getElem?_cons_succ, List.getElem?_cons_zero] at aq0 aq1 aq2 aq3 aq4
                  have KB := Lib.hid Bs1.out
                  have KL := Lib.hid L1.out
                  have dge := Lib.hid (show w.heap.size ≤ wq1.heap.size from L1.out.size)
                  have sn1 : ¬ w.heap.size = wq1.heap.size := by have := Bs1.out.lt; omega
                  have sdne := Lib.hid sn1
                  have sn2 : w.heap.size < wq1.heap.size := Bs1.out.lt
                  have an1 : ¬ ga = wq1.heap.size := by have := Ba1.out.lt; omega
                  have adne := Lib.hid an1
                  have an2 : ga < wq1.heap.size := Ba1.out.lt
                  have As1 := Lib.hid (Bs1.out.alloc (.cells #[.int .i64 7, .int .i64 3, .bool true, .int .i64 fl, .int .u64 (ep + 1)] 24))
                  have Aa1 := Lib.hid (Ba1.out.alloc (.cells #[.int .i64 7, .int .i64 3, .bool true, .int .i64 fl, .int .u64 (ep + 1)] 24))
                  have Ta1 := Lib.hid (T1.out.below ((Below.refl _ _).alloc (Nat.le_refl _) (.cells #[.int .i64 7, .int .i64 3, .bool true, .int .i64 fl, .int .u64 (ep + 1)] 24)))
                  have Ad1 := Lib.hid (Blk.new wq1 24 #[.int .i64 7, .int .i64 3, .bool true, .int .i64 fl, .int .u64 (ep + 1)])
                  have M1 := Lib.hid (L1.out.alloc L1.out.size (.cells #[.int .i64 7, .int .i64 3, .bool true, .int .i64 fl, .int .u64 (ep + 1)] 24))
                  clear Bs1 Ba1 L1 T1
                  go_upto_region 17 with fail
                  go_cut [86] from 62 to 85 (fun v wx => v = .bool false ∧ wx = wq1.alloc (.cells #[.int .i64 7, .int .i64 3, .bool true, .int .i64 fl, .int .u64 (ep + 1)] 24))
                  case first =>
                    rcases HL4.out with ⟨q0, q1⟩ | q0
                    all_goals
                      go_wp2_with fail
                      go_meet
                      exact ⟨rfl, rfl⟩
                  case rest =>
                    obtain ⟨rfl, rfl⟩ := hcut
                    go_wp2_with fail
                    go_roundw
                    case rel => exact ⟨k + 1, ⟨7, 3, true, fl, ep + 1⟩, by omega, rfl, rfl, by go_num, HR.out, (Blk.alloc (blk_set5 KB.out) _), (Below.alloc (below_set5 KL.out (Nat.le_refl _)) (by simp [World.setCell]; exact KL.out.size) _)⟩
                    case measure => simp [intOf]; omega
                · cases afr
                  · have hN : nextS ⟨m, so, false, fl, ep⟩ ⟨3, am, false⟩ = ⟨am, 3, false, fl, ep + 1⟩ := by unfold nextS; rw [if_neg (fun h => ham h.2), if_neg (by simp)]
                    rw [hN] at hDc hR
                    have HDC := Lib.hid hDc
                    have HR := Lib.hid hR
                    unfold St.val Ask.val at HDC
                    simp only at HDC
                    clear hDc hR hN
                    have ham2 : (am == 7) = false := by simpa using ham
                    have hlt4 : decide (3 < so) = true ∧ (m != 0) = false ∨ decide (3 < so) = false := by
                      by_cases q : 3 < so
                      · left; exact ⟨decide_eq_true q, by by_cases q2 : m = 0; simp [q2]; exact absurd ⟨q, q2⟩ h4⟩
                      · right; exact decide_eq_false q
                    have HL4 := Lib.hid hlt4
                    clear hlt4
                    have sq0 := BS.out.cell 0
                    have sq1 := BS.out.cell 1
                    have sq2 := BS.out.cell 2
                    have sq3 := BS.out.cell 3
                    have sq4 := BS.out.cell 4
                    simp only [List.getElem?_toArray, List.getElem?_cons_succ, List.getElem?_cons_zero] at sq0 sq1 sq2 sq3 sq4
                    have bn1 : ¬ b = wr.heap.size := by have := L0.out.size; omega
                    have bn2 : b < wr.heap.size := by have := L0.out.size; omega
                    have age := Lib.hid (show w.heap.size ≤ wr.heap.size from L0.out.size)
                    have sn1 : ¬ w.heap.size = wr.heap.size := by have := BS.out.lt; omega
                    have sane := Lib.hid sn1
                    have sn2 : w.heap.size < wr.heap.size := BS.out.lt
                    have As100 := Lib.hid (BS.out.alloc (.cells #[.bool false, .int .i64 af, .int .i64 3, .int .i64 am, .bool false] 38))
                    have Ta100 := Lib.hid (T0.out.below ((Below.refl _ _).alloc (Nat.le_refl _) (.cells #[.bool false, .int .i64 af, .int .i64 3, .int .i64 am, .bool false] 38)))
                    have Aa100 := Lib.hid (Blk.new wr 38 #[.bool false, .int .i64 af, .int .i64 3, .int .i64 am, .bool false])
                    have M100 := Lib.hid (L0.out.alloc L0.out.size (.cells #[.bool false, .int .i64 af, .int .i64 3, .int .i64 am, .bool false] 38))
                    clear BS L0 T0
                    go_wp2_with fail
                    refine (HDC.out _ Ta100.out).mono ?_; rintro e wq1 ⟨rfl, hb1⟩
                    have Bs1 := Lib.hid (As100.out.bl hb1)
                    have Ba1 := Lib.hid (Aa100.out.bl hb1)
                    have L1 := Lib.hid (bl M100.out hb1)
                    have T1 := Lib.hid (Ta100.out.below hb1)
                    clear sq0 sq1 sq2 sq3 sq4 ck0 ck1 ck2 ck3 ck4 bn1 bn2 sn1 sn2
                    clear hb1 As100 Aa100 M100 Ta100
                    generalize wr.heap.size = ga at age sane Ba1 ⊢
                    have sq0 := Bs1.out.cell 0
                    have sq1 := Bs1.out.cell 1
                    have sq2 := Bs1.out.cell 2
                    have sq3 := Bs1.out.cell 3
                    have sq4 := Bs1.out.cell 4
                    simp only [List.getElem?_toArray, List.getElem?_cons_succ, List.getElem?_cons_zero] at sq0 sq1 sq2 sq3 sq4
                    have sf0 := Bs1.out.frozen 0
                    have sf1 := Bs1.out.frozen 1
                    have sf2 := Bs1.out.frozen 2
                    have sf3 := Bs1.out.frozen 3
                    have sf4 := Bs1.out.frozen 4
                    have aq0 := Ba1.out.cell 0
                    have aq1 := Ba1.out.cell 1
                    have aq2 := Ba1.out.cell 2
                    have aq3 := Ba1.out.cell 3
                    have aq4 := Ba1.out.cell 4
                    simp only [List.getElem?_toArray, List.getElem?_cons_succ, List.getElem?_cons_zero] at aq0 aq1 aq2 aq3 aq4
                    have KB := Lib.hid Bs1.out
                    have KL := Lib.hid L1.out
                    have dge := Lib.hid (show w.heap.size ≤ wq1.heap.size from L1.out.size)
                    have sn1 : ¬ w.heap.size = wq1.heap.size := by have := Bs1.out.lt; omega
                    have sdne := Lib.hid sn1
                    have sn2 : w.heap.size < wq1.heap.size := Bs1.out.lt
                    have an1 : ¬ ga = wq1.heap.size := by have := Ba1.out.lt; omega
                    have adne := Lib.hid an1
                    have an2 : ga < wq1.heap.size := Ba1.out.lt
                    have As1 := Lib.hid (Bs1.out.alloc (.cells #[.int .i64 am, .int .i64 3, .bool false, .int .i64 fl, .int .u64 (ep + 1)] 24))
                    have Aa1 := Lib.hid (Ba1.out.alloc (.cells #[.int .i64 am, .int .i64 3, .bool false, .int .i64 fl, .int .u64 (ep + 1)] 24))
                    have Ta1 := Lib.hid (T1.out.below ((Below.refl _ _).alloc (Nat.le_refl _) (.cells #[.int .i64 am, .int .i64 3, .bool false, .int .i64 fl, .int .u64 (ep + 1)] 24)))
                    have Ad1 := Lib.hid (Blk.new wq1 24 #[.int .i64 am, .int .i64 3, .bool false, .int .i64 fl, .int .u64 (ep + 1)])
                    have M1 := Lib.hid (L1.out.alloc L1.out.size (.cells #[.int .i64 am, .int .i64 3, .bool false, .int .i64 fl, .int .u64 (ep + 1)] 24))
                    clear Bs1 Ba1 L1 T1
                    go_upto_region 17 with fail
                    go_cut [86] from 62 to 85 (fun v wx => v = .bool false ∧ wx = wq1.alloc (.cells #[.int .i64 am, .int .i64 3, .bool false, .int .i64 fl, .int .u64 (ep + 1)] 24))
                    case first =>
                      rcases HL4.out with ⟨q0, q1⟩ | q0
                      all_goals
                        go_wp2_with fail
                        go_meet
                        exact ⟨rfl, rfl⟩
                    case rest =>
                      obtain ⟨rfl, rfl⟩ := hcut
                      go_wp2_with fail
                      go_roundw
                      case rel => exact ⟨k + 1, ⟨am, 3, false, fl, ep + 1⟩, by omega, rfl, rfl, by go_num, HR.out, (Blk.alloc (blk_set5 KB.out) _), (Below.alloc (below_set5 KL.out (Nat.le_refl _)) (by simp [World.setCell]; exact KL.out.size) _)⟩
                      case measure => simp [intOf]; omega
                  · have hN : nextS ⟨m, so, false, fl, ep⟩ ⟨3, am, true⟩ = ⟨am, 0, false, fl, ep + 1⟩ := by unfold nextS; rw [if_neg (fun h => ham h.2), if_pos rfl]
                    rw [hN] at hDc hR
                    have HDC := Lib.hid hDc
                    have HR := Lib.hid hR
                    unfold St.val Ask.val at HDC
                    simp only at HDC
                    clear hDc hR hN
                    have ham2 : (am == 7) = false := by simpa using ham
                    have hlt4 : decide (3 < so) = true ∧ (m != 0) = false ∨ decide (3 < so) = false := by
                      by_cases q : 3 < so
                      · left; exact ⟨decide_eq_true q, by by_cases q2 : m = 0; simp [q2]; exact absurd ⟨q, q2⟩ h4⟩
                      · right; exact decide_eq_false q
                    have HL4 := Lib.hid hlt4
                    clear hlt4
                    have sq0 := BS.out.cell 0
                    have sq1 := BS.out.cell 1
                    have sq2 := BS.out.cell 2
                    have sq3 := BS.out.cell 3
                    have sq4 := BS.out.cell 4
                    simp only [List.getElem?_toArray, List.getElem?_cons_succ, List.getElem?_cons_zero] at sq0 sq1 sq2 sq3 sq4
                    have bn1 : ¬ b = wr.heap.size := by have := L0.out.size; omega
                    have bn2 : b < wr.heap.size := by have := L0.out.size; omega
                    have age := Lib.hid (show w.heap.size ≤ wr.heap.size from L0.out.size)
                    have sn1 : ¬ w.heap.size = wr.heap.size := by have := BS.out.lt; omega
                    have sane := Lib.hid sn1
                    have sn2 : w.heap.size < wr.heap.size := BS.out.lt
                    have As100 := Lib.hid (BS.out.alloc (.cells #[.bool false, .int .i64 af, .int .i64 3, .int .i64 am, .bool true] 38))
                    have Ta100 := Lib.hid (T0.out.below ((Below.refl _ _).alloc (Nat.le_refl _) (.cells #[.bool false, .int .i64 af, .int .i64 3, .int .i64 am, .bool true] 38)))
                    have Aa100 := Lib.hid (Blk.new wr 38 #[.bool false, .int .i64 af, .int .i64 3, .int .i64 am, .bool true])
                    have M100 := Lib.hid (L0.out.alloc L0.out.size (.cells #[.bool false, .int .i64 af, .int .i64 3, .int .i64 am, .bool true] 38))
                    clear BS L0 T0
                    go_wp2_with fail
                    refine (HDC.out _ Ta100.out).mono ?_; rintro e wq1 ⟨rfl, hb1⟩
                    have Bs1 := Lib.hid (As100.out.bl hb1)
                    have Ba1 := Lib.hid (Aa100.out.bl hb1)
                    have L1 := Lib.hid (bl M100.out hb1)
                    have T1 := Lib.hid (Ta100.out.below hb1)
                    clear sq0 sq1 sq2 sq3 sq4 ck0 ck1 ck2 ck3 ck4 bn1 bn2 sn1 sn2
                    clear hb1 As100 Aa100 M100 Ta100
                    generalize wr.heap.size = ga at age sane Ba1 ⊢
                    have sq0 := Bs1.out.cell 0
                    have sq1 := Bs1.out.cell 1
                    have sq2 := Bs1.out.cell 2
                    have sq3 := Bs1.out.cell 3
                    have sq4 := Bs1.out.cell 4
                    simp only [List.getElem?_toArray, List.getElem?_cons_succ, List.getElem?_cons_zero] at sq0 sq1 sq2 sq3 sq4
                    have sf0 := Bs1.out.frozen 0
                    have sf1 := Bs1.out.frozen 1
                    have sf2 := Bs1.out.frozen 2
                    have sf3 := Bs1.out.frozen 3
                    have sf4 := Bs1.out.frozen 4
                    have aq0 := Ba1.out.cell 0
                    have aq1 := Ba1.out.cell 1
                    have aq2 := Ba1.out.cell 2
                    have aq3 := Ba1.out.cell 3
                    have aq4 := Ba1.out.cell 4
                    simp only [List.getElem?_toArray, List.getElem?_cons_succ, List.getElem?_cons_zero] at aq0 aq1 aq2 aq3 aq4
                    have KB := Lib.hid Bs1.out
                    have KL := Lib.hid L1.out
                    have dge := Lib.hid (show w.heap.size ≤ wq1.heap.size from L1.out.size)
                    have sn1 : ¬ w.heap.size = wq1.heap.size := by have := Bs1.out.lt; omega
                    have sdne := Lib.hid sn1
                    have sn2 : w.heap.size < wq1.heap.size := Bs1.out.lt
                    have an1 : ¬ ga = wq1.heap.size := by have := Ba1.out.lt; omega
                    have adne := Lib.hid an1
                    have an2 : ga < wq1.heap.size := Ba1.out.lt
                    have As1 := Lib.hid (Bs1.out.alloc (.cells #[.int .i64 am, .int .i64 0, .bool false, .int .i64 fl, .int .u64 (ep + 1)] 24))
                    have Aa1 := Lib.hid (Ba1.out.alloc (.cells #[.int .i64 am, .int .i64 0, .bool false, .int .i64 fl, .int .u64 (ep + 1)] 24))
                    have Ta1 := Lib.hid (T1.out.below ((Below.refl _ _).alloc (Nat.le_refl _) (.cells #[.int .i64 am, .int .i64 0, .bool false, .int .i64 fl, .int .u64 (ep + 1)] 24)))
                    have Ad1 := Lib.hid (Blk.new wq1 24 #[.int .i64 am, .int .i64 0, .bool false, .int .i64 fl, .int .u64 (ep + 1)])
                    have M1 := Lib.hid (L1.out.alloc L1.out.size (.cells #[.int .i64 am, .int .i64 0, .bool false, .int .i64 fl, .int .u64 (ep + 1)] 24))
                    clear Bs1 Ba1 L1 T1
                    go_upto_region 17 with fail
                    go_cut [86] from 62 to 85 (fun v wx => v = .bool false ∧ wx = wq1.alloc (.cells #[.int .i64 am, .int .i64 0, .bool false, .int .i64 fl, .int .u64 (ep + 1)] 24))
                    case first =>
                      rcases HL4.out with ⟨q0, q1⟩ | q0
                      all_goals
                        go_wp2_with fail
                        go_meet
                        exact ⟨rfl, rfl⟩
                    case rest =>
                      obtain ⟨rfl, rfl⟩ := hcut
                      go_wp2_with fail
                      go_roundw
                      case rel => exact ⟨k + 1, ⟨am, 0, false, fl, ep + 1⟩, by omega, rfl, rfl, by go_num, HR.out, (Blk.alloc (blk_set5 KB.out) _), (Below.alloc (below_set5 KL.out (Nat.le_refl _)) (by simp [World.setCell]; exact KL.out.size) _)⟩
                      case measure => simp [intOf]; omega
              · cases afr
                · have hN : nextS ⟨m, so, false, fl, ep⟩ ⟨aso, am, false⟩ = ⟨am, aso, false, fl, ep + 1⟩ := by unfold nextS; rw [if_neg (fun h => haso h.1), if_neg (by simp)]
                  rw [hN] at hDc hR
                  have HDC := Lib.hid hDc
                  have HR := Lib.hid hR
                  unfold St.val Ask.val at HDC
                  simp only at HDC
                  clear hDc hR hN
                  have has2 : (aso == 3) = false := by simpa using haso
                  have hlt4 : decide (aso < so) = true ∧ (m != 0) = false ∨ decide (aso < so) = false := by
                    by_cases q : aso < so
                    · left; exact ⟨decide_eq_true q, by by_cases q2 : m = 0; simp [q2]; exact absurd ⟨q, q2⟩ h4⟩
                    · right; exact decide_eq_false q
                  have HL4 := Lib.hid hlt4
                  clear hlt4
                  have sq0 := BS.out.cell 0
                  have sq1 := BS.out.cell 1
                  have sq2 := BS.out.cell 2
                  have sq3 := BS.out.cell 3
                  have sq4 := BS.out.cell 4
                  simp only [List.getElem?_toArray, List.getElem?_cons_succ, List.getElem?_cons_zero] at sq0 sq1 sq2 sq3 sq4
                  have bn1 : ¬ b = wr.heap.size := by have := L0.out.size; omega
                  have bn2 : b < wr.heap.size := by have := L0.out.size; omega
                  have age := Lib.hid (show w.heap.size ≤ wr.heap.size from L0.out.size)
                  have sn1 : ¬ w.heap.size = wr.heap.size := by have := BS.out.lt; omega
                  have sane := Lib.hid sn1
                  have sn2 : w.heap.size < wr.heap.size := BS.out.lt
                  have As100 := Lib.hid (BS.out.alloc (.cells #[.bool false, .int .i64 af, .int .i64 aso, .int .i64 am, .bool false] 38))
                  have Ta100 := Lib.hid (T0.out.below ((Below.refl _ _).alloc (Nat.le_refl _) (.cells #[.bool false, .int .i64 af, .int .i64 aso, .int .i64 am, .bool false] 38)))
                  have Aa100 := Lib.hid (Blk.new wr 38 #[.bool false, .int .i64 af, .int .i64 aso, .int .i64 am, .bool false])
                  have M100 := Lib.hid (L0.out.alloc L0.out.size (.cells #[.bool false, .int .i64 af, .int .i64 aso, .int .i64 am, .bool false] 38))
                  clear BS L0 T0
                  go_wp2_with fail
                  refine (HDC.out _ Ta100.out).mono ?_; rintro e wq1 ⟨rfl, hb1⟩
                  have Bs1 := Lib.hid (As100.out.bl hb1)
                  have Ba1 := Lib.hid (Aa100.out.bl hb1)
                  have L1 := Lib.hid (bl M100.out hb1)
                  have T1 := Lib.hid (Ta100.out.below hb1)
                  clear sq0 sq1 sq2 sq3 sq4 ck0 ck1 ck2 ck3 ck4 bn1 bn2 sn1 sn2
                  clear hb1 As100 Aa100 M100 Ta100
                  generalize wr.heap.size = ga at age sane Ba1 ⊢
                  have sq0 := Bs1.out.cell 0
                  have sq1 := Bs1.out.cell 1
                  have sq2 := Bs1.out.cell 2
                  have sq3 := Bs1.out.cell 3
                  have sq4 := Bs1.out.cell 4
                  simp only [List.getElem?_toArray, List.getElem?_cons_succ, List.getElem?_cons_zero] at sq0 sq1 sq2 sq3 sq4
                  have sf0 := Bs1.out.frozen 0
                  have sf1 := Bs1.out.frozen 1
                  have sf2 := Bs1.out.frozen 2
                  have sf3 := Bs1.out.frozen 3
                  have sf4 := Bs1.out.frozen 4
                  have aq0 := Ba1.out.cell 0
                  have aq1 := Ba1.out.cell 1
                  have aq2 := Ba1.out.cell 2
                  have aq3 := Ba1.out.cell 3
                  have aq4 := Ba1.out.cell 4
                  simp only [List.getElem?_toArray, List.getElem?_cons_succ, List.getElem?_cons_zero] at aq0 aq1 aq2 aq3 aq4
                  have KB := Lib.hid Bs1.out
                  have KL := Lib.hid L1.out
                  have dge := Lib.hid (show w.heap.size ≤ wq1.heap.size from L1.out.size)
                  have sn1 : ¬ w.heap.size = wq1.heap.size := by have := Bs1.out.lt; omega
                  have sdne := Lib.hid sn1
                  have sn2 : w.heap.size < wq1.heap.size := Bs1.out.lt
                  have an1 : ¬ ga = wq1.heap.size := by have := Ba1.out.lt; omega
                  have adne := Lib.hid an1
                  have an2 : ga < wq1.heap.size := Ba1.out.lt
                  have As1 := Lib.hid (Bs1.out.alloc (.cells #[.int .i64 am, .int .i64 aso, .bool false, .int .i64 fl, .int .u64 (ep + 1)] 24))
                  have Aa1 := Lib.hid (Ba1.out.alloc (.cells #[.int .i64 am, .int .i64 aso, .bool false, .int .i64 fl, .int .u64 (ep + 1)] 24))
                  have Ta1 := Lib.hid (T1.out.below ((Below.refl _ _).alloc (Nat.le_refl _) (.cells #[.int .i64 am, .int .i64 aso, .bool false, .int .i64 fl, .int .u64 (ep + 1)] 24)))
                  have Ad1 := Lib.hid (Blk.new wq1 24 #[.int .i64 am, .int .i64 aso, .bool false, .int .i64 fl, .int .u64 (ep + 1)])
                  have M1 := Lib.hid (L1.out.alloc L1.out.size (.cells #[.int .i64 am, .int .i64 aso, .bool false, .int .i64 fl, .int .u64 (ep + 1)] 24))
                  clear Bs1 Ba1 L1 T1
                  go_upto_region 17 with fail
                  go_cut [86] from 62 to 85 (fun v wx => v = .bool false ∧ wx = wq1.alloc (.cells #[.int .i64 am, .int .i64 aso, .bool false, .int .i64 fl, .int .u64 (ep + 1)] 24))
                  case first =>
                    rcases HL4.out with ⟨q0, q1⟩ | q0
                    all_goals
                      go_wp2_with fail
                      go_meet
                      exact ⟨rfl, rfl⟩
                  case rest =>
                    obtain ⟨rfl, rfl⟩ := hcut
                    go_wp2_with fail
                    go_roundw
                    case rel => exact ⟨k + 1, ⟨am, aso, false, fl, ep + 1⟩, by omega, rfl, rfl, by go_num, HR.out, (Blk.alloc (blk_set5 KB.out) _), (Below.alloc (below_set5 KL.out (Nat.le_refl _)) (by simp [World.setCell]; exact KL.out.size) _)⟩
                    case measure => simp [intOf]; omega
                · have hN : nextS ⟨m, so, false, fl, ep⟩ ⟨aso, am, true⟩ = ⟨am, 0, false, fl, ep + 1⟩ := by unfold nextS; rw [if_neg (fun h => haso h.1), if_pos rfl]
                  rw [hN] at hDc hR
                  have HDC := Lib.hid hDc
                  have HR := Lib.hid hR
                  unfold St.val Ask.val at HDC
                  simp only at HDC
                  clear hDc hR hN
                  have has2 : (aso == 3) = false := by simpa using haso
                  have hlt4 : decide (aso < so) = true ∧ (m != 0) = false ∨ decide (aso < so) = false := by
                    by_cases q : aso < so
                    · left; exact ⟨decide_eq_true q, by by_cases q2 : m = 0; simp [q2]; exact absurd ⟨q, q2⟩ h4⟩
                    · right; exact decide_eq_false q
                  have HL4 := Lib.hid hlt4
                  clear hlt4
                  have sq0 := BS.out.cell 0
                  have sq1 := BS.out.cell 1
                  have sq2 := BS.out.cell 2
                  have sq3 := BS.out.cell 3
                  have sq4 := BS.out.cell 4
                  simp only [List.getElem?_toArray, List.getElem?_cons_succ, List.getElem?_cons_zero] at sq0 sq1 sq2 sq3 sq4
                  have bn1 : ¬ b = wr.heap.size := by have := L0.out.size; omega
                  have bn2 : b < wr.heap.size := by have := L0.out.size; omega
                  have age := Lib.hid (show w.heap.size ≤ wr.heap.size from L0.out.size)
                  have sn1 : ¬ w.heap.size = wr.heap.size := by have := BS.out.lt; omega
                  have sane := Lib.hid sn1
                  have sn2 : w.heap.size < wr.heap.size := BS.out.lt
                  have As100 := Lib.hid (BS.out.alloc (.cells #[.bool false, .int .i64 af, .int .i64 aso, .int .i64 am, .bool true] 38))
                  have Ta100 := Lib.hid (T0.out.below ((Below.refl _ _).alloc (Nat.le_refl _) (.cells #[.bool false, .int .i64 af, .int .i64 aso, .int .i64 am, .bool true] 38)))
                  have Aa100 := Lib.hid (Blk.new wr 38 #[.bool false, .int .i64 af, .int .i64 aso, .int .i64 am, .bool true])
                  have M100 := Lib.hid (L0.out.alloc L0.out.size (.cells #[.bool false, .int .i64 af, .int .i64 aso, .int .i64 am, .bool true] 38))
                  clear BS L0 T0
                  go_wp2_with fail
                  refine (HDC.out _ Ta100.out).mono ?_; rintro e wq1 ⟨rfl, hb1⟩
                  have Bs1 := Lib.hid (As100.out.bl hb1)
                  have Ba1 := Lib.hid (Aa100.out.bl hb1)
                  have L1 := Lib.hid (bl M100.out hb1)
                  have T1 := Lib.hid (Ta100.out.below hb1)
                  clear sq0 sq1 sq2 sq3 sq4 ck0 ck1 ck2 ck3 ck4 bn1 bn2 sn1 sn2
                  clear hb1 As100 Aa100 M100 Ta100
                  generalize wr.heap.size = ga at age sane Ba1 ⊢
                  have sq0 := Bs1.out.cell 0
                  have sq1 := Bs1.out.cell 1
                  have sq2 := Bs1.out.cell 2
                  have sq3 := Bs1.out.cell 3
                  have sq4 := Bs1.out.cell 4
                  simp only [List.getElem?_toArray, List.getElem?_cons_succ, List.getElem?_cons_zero] at sq0 sq1 sq2 sq3 sq4
                  have sf0 := Bs1.out.frozen 0
                  have sf1 := Bs1.out.frozen 1
                  have sf2 := Bs1.out.frozen 2
                  have sf3 := Bs1.out.frozen 3
                  have sf4 := Bs1.out.frozen 4
                  have aq0 := Ba1.out.cell 0
                  have aq1 := Ba1.out.cell 1
                  have aq2 := Ba1.out.cell 2
                  have aq3 := Ba1.out.cell 3
                  have aq4 := Ba1.out.cell 4
                  simp only [List.getElem?_toArray, List.getElem?_cons_succ, List.getElem?_cons_zero] at aq0 aq1 aq2 aq3 aq4
                  have KB := Lib.hid Bs1.out
                  have KL := Lib.hid L1.out
                  have dge := Lib.hid (show w.heap.size ≤ wq1.heap.size from L1.out.size)
                  have sn1 : ¬ w.heap.size = wq1.heap.size := by have := Bs1.out.lt; omega
                  have sdne := Lib.hid sn1
                  have sn2 : w.heap.size < wq1.heap.size := Bs1.out.lt
                  have an1 : ¬ ga = wq1.heap.size := by have := Ba1.out.lt; omega
                  have adne := Lib.hid an1
                  have an2 : ga < wq1.heap.size := Ba1.out.lt
                  have As1 := Lib.hid (Bs1.out.alloc (.cells #[.int .i64 am, .int .i64 0, .bool false, .int .i64 fl, .int .u64 (ep + 1)] 24))
                  have Aa1 := Lib.hid (Ba1.out.alloc (.cells #[.int .i64 am, .int .i64 0, .bool false, .int .i64 fl, .int .u64 (ep + 1)] 24))
                  have Ta1 := Lib.hid (T1.out.below ((Below.refl _ _).alloc (Nat.le_refl _) (.cells #[.int .i64 am, .int .i64 0, .bool false, .int .i64 fl, .int .u64 (ep + 1)] 24)))
                  have Ad1 := Lib.hid (Blk.new wq1 24 #[.int .i64 am, .int .i64 0, .bool false, .int .i64 fl, .int .u64 (ep + 1)])
                  have M1 := Lib.hid (L1.out.alloc L1.out.size (.cells #[.int .i64 am, .int .i64 0, .bool false, .int .i64 fl, .int .u64 (ep + 1)] 24))
                  clear Bs1 Ba1 L1 T1
                  go_upto_region 17 with fail
                  go_cut [86] from 62 to 85 (fun v wx => v = .bool false ∧ wx = wq1.alloc (.cells #[.int .i64 am, .int .i64 0, .bool false, .int .i64 fl, .int .u64 (ep + 1)] 24))
                  case first =>
                    rcases HL4.out with ⟨q0, q1⟩ | q0
                    all_goals
                      go_wp2_with fail
                      go_meet
                      exact ⟨rfl, rfl⟩
                  case rest =>
                    obtain ⟨rfl, rfl⟩ := hcut
                    go_wp2_with fail
                    go_roundw
                    case rel => exact ⟨k + 1, ⟨am, 0, false, fl, ep + 1⟩, by omega, rfl, rfl, by go_num, HR.out, (Blk.alloc (blk_set5 KB.out) _), (Below.alloc (below_set5 KL.out (Nat.le_refl _)) (by simp [World.setCell]; exact KL.out.size) _)⟩
                    case measure => simp [intOf]; omega
            · have hS : decideS ⟨m, so, false, fl, ep⟩ ⟨aso, am, afr⟩ = St.zero := by unfold decideS; rw [if_neg hE]
              rw [hS] at hDc
              have hE1 : (decideE ⟨m, so, false, fl, ep⟩ ⟨aso, am, afr⟩ == 0) = false := by simpa using hE
              generalize decideE ⟨m, so, false, fl, ep⟩ ⟨aso, am, afr⟩ = er at *
              have HDC := Lib.hid hDc
              unfold St.val St.zero Ask.val at HDC
              simp only at HDC
              clear hDc hHe hHc hE hS
              have sq0 := BS.out.cell 0
              have sq1 := BS.out.cell 1
              have sq2 := BS.out.cell 2
              have sq3 := BS.out.cell 3
              have sq4 := BS.out.cell 4
              simp only [List.getElem?_toArray, List.getElem?_cons_succ, List.getElem?_cons_zero] at sq0 sq1 sq2 sq3 sq4
              have bn1 : ¬ b = wr.heap.size := by have := L0.out.size; omega
              have bn2 : b < wr.heap.size := by have := L0.out.size; omega
              have age := Lib.hid (show w.heap.size ≤ wr.heap.size from L0.out.size)
              have sn1 : ¬ w.heap.size = wr.heap.size := by have := BS.out.lt; omega
              have sane := Lib.hid sn1
              have sn2 : w.heap.size < wr.heap.size := BS.out.lt
              have As100 := Lib.hid (BS.out.alloc (.cells #[.bool false, .int .i64 af, .int .i64 aso, .int .i64 am, .bool afr] 38))
              have Ta100 := Lib.hid (T0.out.below ((Below.refl _ _).alloc (Nat.le_refl _) (.cells #[.bool false, .int .i64 af, .int .i64 aso, .int .i64 am, .bool afr] 38)))
              have Aa100 := Lib.hid (Blk.new wr 38 #[.bool false, .int .i64 af, .int .i64 aso, .int .i64 am, .bool afr])
              have M100 := Lib.hid (L0.out.alloc L0.out.size (.cells #[.bool false, .int .i64 af, .int .i64 aso, .int .i64 am, .bool afr] 38))
              clear BS L0 T0
              go_wp2_with fail
              refine (HDC.out _ Ta100.out).mono ?_; rintro e wq1 ⟨rfl, hb1⟩
              have Bs1 := Lib.hid (As100.out.bl hb1)
              have Ba1 := Lib.hid (Aa100.out.bl hb1)
              have L1 := Lib.hid (bl M100.out hb1)
              have T1 := Lib.hid (Ta100.out.below hb1)
              clear sq0 sq1 sq2 sq3 sq4 ck0 ck1 ck2 ck3 ck4 bn1 bn2 sn1 sn2
              clear hb1 As100 Aa100 M100 Ta100
              generalize wr.heap.size = ga at age sane Ba1 ⊢
              have sq0 := Bs1.out.cell 0
              have sq1 := Bs1.out.cell 1
              have sq2 := Bs1.out.cell 2
              have sq3 := Bs1.out.cell 3
              have sq4 := Bs1.out.cell 4
              simp only [List.getElem?_toArray, List.getElem?_cons_succ, List.getElem?_cons_zero] at sq0 sq1 sq2 sq3 sq4
              have aq0 := Ba1.out.cell 0
              have aq1 := Ba1.out.cell 1
              have aq2 := Ba1.out.cell 2
              have aq3 := Ba1.out.cell 3
              have aq4 := Ba1.out.cell 4
              simp only [List.getElem?_toArray, List.getElem?_cons_succ, List.getElem?_cons_zero] at aq0 aq1 aq2 aq3 aq4
              have dge := Lib.hid (show w.heap.size ≤ wq1.heap.size from L1.out.size)
              have sn1 : ¬ w.heap.size = wq1.heap.size := by have := Bs1.out.lt; omega
              have sdne := Lib.hid sn1
              have sn2 : w.heap.size < wq1.heap.size := Bs1.out.lt
              have an1 : ¬ ga = wq1.heap.size := by have := Ba1.out.lt; omega
              have adne := Lib.hid an1
              have an2 : ga < wq1.heap.size := Ba1.out.lt
              have As1 := Lib.hid (Bs1.out.alloc (.cells #[.int .i64 0, .int .i64 0, .bool false, .int .i64 0, .int .u64 0] 24))
              have Aa1 := Lib.hid (Ba1.out.alloc (.cells #[.int .i64 0, .int .i64 0, .bool false, .int .i64 0, .int .u64 0] 24))
              have Ta1 := Lib.hid (T1.out.below ((Below.refl _ _).alloc (Nat.le_refl _) (.cells #[.int .i64 0, .int .i64 0, .bool false, .int .i64 0, .int .u64 0] 24)))
              have Ad1 := Lib.hid (Blk.new wq1 24 #[.int .i64 0, .int .i64 0, .bool false, .int .i64 0, .int .u64 0])
              have M1 := Lib.hid (L1.out.alloc L1.out.size (.cells #[.int .i64 0, .int .i64 0, .bool false, .int .i64 0, .int .u64 0] 24))
              clear Bs1 Ba1 L1 T1
              go_upto_region 17 with fail
              go_cut [86] from 62 to 85 (fun v wx => v = .bool false ∧ wx = wq1.alloc (.cells #[.int .i64 0, .int .i64 0, .bool false, .int .i64 0, .int .u64 0] 24))
              case first =>
                rcases (show decide (aso < so) = true ∧ (m != 0) = true ∨ decide (aso < so) = true ∧ (m != 0) = false ∨ decide (aso < so) = false from by cases decide (aso < so) <;> cases (m != 0) <;> simp) with ⟨q0, q1⟩ | ⟨q0, q1⟩ | q0
                all_goals
                  go_wp2_with fail
                  go_meet
                  exact ⟨rfl, rfl⟩
              case rest =>
                obtain ⟨rfl, rfl⟩ := hcut
                go_wp2_with fail
                go_roundw
                case rel => exact ⟨k + 1, ⟨m, so, false, fl, ep⟩, by omega, rfl, rfl, by go_num, HRS.out, As1.out, M1.out⟩
                case measure => simp [intOf]; omega
          · rcases hHe with ⟨f0, f1, hE, hR, hS⟩ | ⟨hff, hE⟩
            · rw [hE, hS] at hHc
              rw [hS] at hR
              have HDC := Lib.hid hHc
              have HR := Lib.hid hR
              unfold St.val at HDC
              simp only at HDC
              clear hDe hDc hHc hE hS hR
              have g0 : decide (0 ≤ af) = true := decide_eq_true f0
              have g1 : decide (af ≤ 63) = true := decide_eq_true f1
              have sq0 := BS.out.cell 0
              have sq1 := BS.out.cell 1
              have sq2 := BS.out.cell 2
              have sq3 := BS.out.cell 3
              have sq4 := BS.out.cell 4
              simp only [List.getElem?_toArray, List.getElem?_cons_succ, List.getElem?_cons_zero] at sq0 sq1 sq2 sq3 sq4
              have bn1 : ¬ b = wr.heap.size := by have := L0.out.size; omega
              have bn2 : b < wr.heap.size := by have := L0.out.size; omega
              have age := Lib.hid (show w.heap.size ≤ wr.heap.size from L0.out.size)
              have sn1 : ¬ w.heap.size = wr.heap.size := by have := BS.out.lt; omega
              have sane := Lib.hid sn1
              have sn2 : w.heap.size < wr.heap.size := BS.out.lt
              have As100 := Lib.hid (BS.out.alloc (.cells #[.bool true, .int .i64 af, .int .i64 aso, .int .i64 am, .bool afr] 38))
              have Ta100 := Lib.hid (T0.out.below ((Below.refl _ _).alloc (Nat.le_refl _) (.cells #[.bool true, .int .i64 af, .int .i64 aso, .int .i64 am, .bool afr] 38)))
              have Aa100 := Lib.hid (Blk.new wr 38 #[.bool true, .int .i64 af, .int .i64 aso, .int .i64 am, .bool afr])
              have M100 := Lib.hid (L0.out.alloc L0.out.size (.cells #[.bool true, .int .i64 af, .int .i64 aso, .int .i64 am, .bool afr] 38))
              clear BS L0 T0
              go_wp2_with fail
              refine (HDC.out _).mono ?_; rintro e wq1 ⟨rfl, hb1⟩
              have Bs1 := Lib.hid (As100.out.bl hb1)
              have Ba1 := Lib.hid (Aa100.out.bl hb1)
              have L1 := Lib.hid (bl M100.out hb1)
              have T1 := Lib.hid (Ta100.out.below hb1)
              clear sq0 sq1 sq2 sq3 sq4 ck0 ck1 ck2 ck3 ck4 bn1 bn2 sn1 sn2
              clear hb1 As100 Aa100 M100 Ta100
              generalize wr.heap.size = ga at age sane Ba1 ⊢
              have sq0 := Bs1.out.cell 0
              have sq1 := Bs1.out.cell 1
              have sq2 := Bs1.out.cell 2
              have sq3 := Bs1.out.cell 3
              have sq4 := Bs1.out.cell 4
              simp only [List.getElem?_toArray, List.getElem?_cons_succ, List.getElem?_cons_zero] at sq0 sq1 sq2 sq3 sq4
              have sf0 := Bs1.out.frozen 0
              have sf1 := Bs1.out.frozen 1
              have sf2 := Bs1.out.frozen 2
              have sf3 := Bs1.out.frozen 3
              have sf4 := Bs1.out.frozen 4
              have aq0 := Ba1.out.cell 0
              have aq1 := Ba1.out.cell 1
              have aq2 := Ba1.out.cell 2
              have aq3 := Ba1.out.cell 3
              have aq4 := Ba1.out.cell 4
              simp only [List.getElem?_toArray, List.getElem?_cons_succ, List.getElem?_cons_zero] at aq0 aq1 aq2 aq3 aq4
              have KB := Lib.hid Bs1.out
              have KL := Lib.hid L1.out
              have dge := Lib.hid (show w.heap.size ≤ wq1.heap.size from L1.out.size)
              have sn1 : ¬ w.heap.size = wq1.heap.size := by have := Bs1.out.lt; omega
              have sdne := Lib.hid sn1
              have sn2 : w.heap.size < wq1.heap.size := Bs1.out.lt
              have an1 : ¬ ga = wq1.heap.size := by have := Ba1.out.lt; omega
              have adne := Lib.hid an1
              have an2 : ga < wq1.heap.size := Ba1.out.lt
              have As1 := Lib.hid (Bs1.out.alloc (.cells #[.int .i64 m, .int .i64 so, .bool false, .int .i64 af, .int .u64 (ep + 1)] 24))
              have Aa1 := Lib.hid (Ba1.out.alloc (.cells #[.int .i64 m, .int .i64 so, .bool false, .int .i64 af, .int .u64 (ep + 1)] 24))
              have Ta1 := Lib.hid (T1.out.below ((Below.refl _ _).alloc (Nat.le_refl _) (.cells #[.int .i64 m, .int .i64 so, .bool false, .int .i64 af, .int .u64 (ep + 1)] 24)))
              have Ad1 := Lib.hid (Blk.new wq1 24 #[.int .i64 m, .int .i64 so, .bool false, .int .i64 af, .int .u64 (ep + 1)])
              have M1 := Lib.hid (L1.out.alloc L1.out.size (.cells #[.int .i64 m, .int .i64 so, .bool false, .int .i64 af, .int .u64 (ep + 1)] 24))
              clear Bs1 Ba1 L1 T1
              go_wp2_with fail
              go_roundw
              case rel => exact ⟨k + 1, ⟨m, so, false, af, ep + 1⟩, by omega, rfl, rfl, by go_num, HR.out, (Blk.alloc (blk_set5 KB.out) _), (Below.alloc (below_set5 KL.out (Nat.le_refl _)) (by simp [World.setCell]; exact KL.out.size) _)⟩
              case measure => simp [intOf]; omega
            · have hS : healthS ⟨m, so, false, fl, ep⟩ af = St.zero := by unfold healthS; rw [hE, if_neg (by decide)]
              rw [hE, hS] at hHc
              have HDC := Lib.hid hHc
              unfold St.val St.zero at HDC
              simp only at HDC
              clear hDe hDc hHc hE hS
              rcases (show decide (0 ≤ af) = false ∨ decide (0 ≤ af) = true ∧ decide (af ≤ 63) = false from by
                by_cases q : 0 ≤ af
                · right; exact ⟨decide_eq_true q, decide_eq_false (by omega)⟩
                · left; exact decide_eq_false q) with g0 | ⟨g0, g1⟩
              all_goals
                have sq0 := BS.out.cell 0
                have sq1 := BS.out.cell 1
                have sq2 := BS.out.cell 2
                have sq3 := BS.out.cell 3
                have sq4 := BS.out.cell 4
                simp only [List.getElem?_toArray, List.getElem?_cons_succ, List.getElem?_cons_zero] at sq0 sq1 sq2 sq3 sq4
                have bn1 : ¬ b = wr.heap.size := by have := L0.out.size; omega
                have bn2 : b < wr.heap.size := by have := L0.out.size; omega
                have age := Lib.hid (show w.heap.size ≤ wr.heap.size from L0.out.size)
                have sn1 : ¬ w.heap.size = wr.heap.size := by have := BS.out.lt; omega
                have sane := Lib.hid sn1
                have sn2 : w.heap.size < wr.heap.size := BS.out.lt
                have As100 := Lib.hid (BS.out.alloc (.cells #[.bool true, .int .i64 af, .int .i64 aso, .int .i64 am, .bool afr] 38))
                have Ta100 := Lib.hid (T0.out.below ((Below.refl _ _).alloc (Nat.le_refl _) (.cells #[.bool true, .int .i64 af, .int .i64 aso, .int .i64 am, .bool afr] 38)))
                have Aa100 := Lib.hid (Blk.new wr 38 #[.bool true, .int .i64 af, .int .i64 aso, .int .i64 am, .bool afr])
                have M100 := Lib.hid (L0.out.alloc L0.out.size (.cells #[.bool true, .int .i64 af, .int .i64 aso, .int .i64 am, .bool afr] 38))
                clear BS L0 T0
                go_wp2_with fail
                refine (HDC.out _).mono ?_; rintro e wq1 ⟨rfl, hb1⟩
                have Bs1 := Lib.hid (As100.out.bl hb1)
                have Ba1 := Lib.hid (Aa100.out.bl hb1)
                have L1 := Lib.hid (bl M100.out hb1)
                have T1 := Lib.hid (Ta100.out.below hb1)
                clear sq0 sq1 sq2 sq3 sq4 ck0 ck1 ck2 ck3 ck4 bn1 bn2 sn1 sn2
                clear hb1 As100 Aa100 M100 Ta100
                generalize wr.heap.size = ga at age sane Ba1 ⊢
                have sq0 := Bs1.out.cell 0
                have sq1 := Bs1.out.cell 1
                have sq2 := Bs1.out.cell 2
                have sq3 := Bs1.out.cell 3
                have sq4 := Bs1.out.cell 4
                simp only [List.getElem?_toArray, List.getElem?_cons_succ, List.getElem?_cons_zero] at sq0 sq1 sq2 sq3 sq4
                have aq0 := Ba1.out.cell 0
                have aq1 := Ba1.out.cell 1
                have aq2 := Ba1.out.cell 2
                have aq3 := Ba1.out.cell 3
                have aq4 := Ba1.out.cell 4
                simp only [List.getElem?_toArray, List.getElem?_cons_succ, List.getElem?_cons_zero] at aq0 aq1 aq2 aq3 aq4
                have dge := Lib.hid (show w.heap.size ≤ wq1.heap.size from L1.out.size)
                have sn1 : ¬ w.heap.size = wq1.heap.size := by have := Bs1.out.lt; omega
                have sdne := Lib.hid sn1
                have sn2 : w.heap.size < wq1.heap.size := Bs1.out.lt
                have an1 : ¬ ga = wq1.heap.size := by have := Ba1.out.lt; omega
                have adne := Lib.hid an1
                have an2 : ga < wq1.heap.size := Ba1.out.lt
                have As1 := Lib.hid (Bs1.out.alloc (.cells #[.int .i64 0, .int .i64 0, .bool false, .int .i64 0, .int .u64 0] 24))
                have Aa1 := Lib.hid (Ba1.out.alloc (.cells #[.int .i64 0, .int .i64 0, .bool false, .int .i64 0, .int .u64 0] 24))
                have Ta1 := Lib.hid (T1.out.below ((Below.refl _ _).alloc (Nat.le_refl _) (.cells #[.int .i64 0, .int .i64 0, .bool false, .int .i64 0, .int .u64 0] 24)))
                have Ad1 := Lib.hid (Blk.new wq1 24 #[.int .i64 0, .int .i64 0, .bool false, .int .i64 0, .int .u64 0])
                have M1 := Lib.hid (L1.out.alloc L1.out.size (.cells #[.int .i64 0, .int .i64 0, .bool false, .int .i64 0, .int .u64 0] 24))
                clear Bs1 Ba1 L1 T1
                go_wp2_with fail
                go_roundw
                case rel => exact ⟨k + 1, ⟨m, so, false, fl, ep⟩, by omega, rfl, rfl, by go_num, HRS.out, As1.out, M1.out⟩
                case measure => simp [intOf]; omega
        · have hso : so = 3 := hnh rfl
          subst hso
          cases tl
          · rcases hDe with ⟨hE, hS, _, h3, h4, hR⟩ | hE
            · rw [hE, hS] at hDc
              clear hHe hHc hE hS
              have haso : aso = 3 := by by_cases q : aso = 3; exact q; exact absurd ⟨rfl, q⟩ h3
              subst haso
              by_cases ham : am = 7
              · subst ham
                have hN : nextS ⟨m, 3, true, fl, ep⟩ ⟨3, 7, afr⟩ = ⟨7, 3, true, fl, ep + 1⟩ := by unfold nextS; rw [if_pos ⟨rfl, rfl⟩]
                rw [hN] at hDc hR
                have HDC := Lib.hid hDc
                have HR := Lib.hid hR
                unfold St.val Ask.val at HDC
                simp only at HDC
                clear hDc hR hN
                have sq0 := BS.out.cell 0
                have sq1 := BS.out.cell 1
                have sq2 := BS.out.cell 2
                have sq3 := BS.out.cell 3
                have sq4 := BS.out.cell 4
                simp only [List.getElem?_toArray, List.getElem?_cons_succ, List.getElem?_cons_zero] at sq0 sq1 sq2 sq3 sq4
                have bn1 : ¬ b = wr.heap.size := by have := L0.out.size; omega
                have bn2 : b < wr.heap.size := by have := L0.out.size; omega
                have age := Lib.hid (show w.heap.size ≤ wr.heap.size from L0.out.size)
                have sn1 : ¬ w.heap.size = wr.heap.size := by have := BS.out.lt; omega
                have sane := Lib.hid sn1
                have sn2 : w.heap.size < wr.heap.size := BS.out.lt
                have As100 := Lib.hid (BS.out.alloc (.cells #[.bool false, .int .i64 af, .int .i64 3, .int .i64 7, .bool afr] 38))
                have Ta100 := Lib.hid (T0.out.below ((Below.refl _ _).alloc (Nat.le_refl _) (.cells #[.bool false, .int .i64 af, .int .i64 3, .int .i64 7, .bool afr] 38)))
                have Aa100 := Lib.hid (Blk.new wr 38 #[.bool false, .int .i64 af, .int .i64 3, .int .i64 7, .bool afr])
                have M100 := Lib.hid (L0.out.alloc L0.out.size (.cells #[.bool false, .int .i64 af, .int .i64 3, .int .i64 7, .bool afr] 38))
                clear BS L0 T0
                go_wp2_with fail
                refine (HDC.out _ Ta100.out).mono ?_; rintro e wq1 ⟨rfl, hb1⟩
                have Bs1 := Lib.hid (As100.out.bl hb1)
                have Ba1 := Lib.hid (Aa100.out.bl hb1)
                have L1 := Lib.hid (bl M100.out hb1)
                have T1 := Lib.hid (Ta100.out.below hb1)
                clear sq0 sq1 sq2 sq3 sq4 ck0 ck1 ck2 ck3 ck4 bn1 bn2 sn1 sn2
                clear hb1 As100 Aa100 M100 Ta100
                generalize wr.heap.size = ga at age sane Ba1 ⊢
                have sq0 := Bs1.out.cell 0
                have sq1 := Bs1.out.cell 1
                have sq2 := Bs1.out.cell 2
                have sq3 := Bs1.out.cell 3
                have sq4 := Bs1.out.cell 4
                simp only [List.getElem?_toArray, List.getElem?_cons_succ, List.getElem?_cons_zero] at sq0 sq1 sq2 sq3 sq4
                have sf0 := Bs1.out.frozen 0
                have sf1 := Bs1.out.frozen 1
                have sf2 := Bs1.out.frozen 2
                have sf3 := Bs1.out.frozen 3
                have sf4 := Bs1.out.frozen 4
                have aq0 := Ba1.out.cell 0
                have aq1 := Ba1.out.cell 1
                have aq2 := Ba1.out.cell 2
                have aq3 := Ba1.out.cell 3
                have aq4 := Ba1.out.cell 4
                simp only [List.getElem?_toArray, List.getElem?_cons_succ, List.getElem?_cons_zero] at aq0 aq1 aq2 aq3 aq4
                have KB := Lib.hid Bs1.out
                have KL := Lib.hid L1.out
                have dge := Lib.hid (show w.heap.size ≤ wq1.heap.size from L1.out.size)
                have sn1 : ¬ w.heap.size = wq1.heap.size := by have := Bs1.out.lt; omega
                have sdne := Lib.hid sn1
                have sn2 : w.heap.size < wq1.heap.size := Bs1.out.lt
                have an1 : ¬ ga = wq1.heap.size := by have := Ba1.out.lt; omega
                have adne := Lib.hid an1
                have an2 : ga < wq1.heap.size := Ba1.out.lt
                have As1 := Lib.hid (Bs1.out.alloc (.cells #[.int .i64 7, .int .i64 3, .bool true, .int .i64 fl, .int .u64 (ep + 1)] 24))
                have Aa1 := Lib.hid (Ba1.out.alloc (.cells #[.int .i64 7, .int .i64 3, .bool true, .int .i64 fl, .int .u64 (ep + 1)] 24))
                have Ta1 := Lib.hid (T1.out.below ((Below.refl _ _).alloc (Nat.le_refl _) (.cells #[.int .i64 7, .int .i64 3, .bool true, .int .i64 fl, .int .u64 (ep + 1)] 24)))
                have Ad1 := Lib.hid (Blk.new wq1 24 #[.int .i64 7, .int .i64 3, .bool true, .int .i64 fl, .int .u64 (ep + 1)])
                have M1 := Lib.hid (L1.out.alloc L1.out.size (.cells #[.int .i64 7, .int .i64 3, .bool true, .int .i64 fl, .int .u64 (ep + 1)] 24))
                clear Bs1 Ba1 L1 T1
                go_upto_region 17 with fail
                go_cut [86] from 62 to 85 (fun v wx => v = .bool false ∧ wx = wq1.alloc (.cells #[.int .i64 7, .int .i64 3, .bool true, .int .i64 fl, .int .u64 (ep + 1)] 24))
                case first =>
                  go_wp2_with fail
                  go_meet
                  exact ⟨rfl, rfl⟩
                case rest =>
                  obtain ⟨rfl, rfl⟩ := hcut
                  go_wp2_with fail
                  go_roundw
                  case rel => exact ⟨k + 1, ⟨7, 3, true, fl, ep + 1⟩, by omega, rfl, rfl, by go_num, HR.out, (Blk.alloc (blk_set5 KB.out) _), (Below.alloc (below_set5 KL.out (Nat.le_refl _)) (by simp [World.setCell]; exact KL.out.size) _)⟩
                  case measure => simp [intOf]; omega
              · cases afr
                · have hN : nextS ⟨m, 3, true, fl, ep⟩ ⟨3, am, false⟩ = ⟨am, 3, true, fl, ep + 1⟩ := by unfold nextS; rw [if_neg (fun h => ham h.2), if_neg (by simp)]
                  rw [hN] at hDc hR
                  have HDC := Lib.hid hDc
                  have HR := Lib.hid hR
                  unfold St.val Ask.val at HDC
                  simp only at HDC
                  clear hDc hR hN
                  have ham2 : (am == 7) = false := by simpa using ham
                  have sq0 := BS.out.cell 0
                  have sq1 := BS.out.cell 1
                  have sq2 := BS.out.cell 2
                  have sq3 := BS.out.cell 3
                  have sq4 := BS.out.cell 4
                  simp only [List.getElem?_toArray, List.getElem?_cons_succ, List.getElem?_cons_zero] at sq0 sq1 sq2 sq3 sq4
                  have bn1 : ¬ b = wr.heap.size := by have := L0.out.size; omega
                  have bn2 : b < wr.heap.size := by have := L0.out.size; omega
                  have age := Lib.hid (show w.heap.size ≤ wr.heap.size from L0.out.size)
                  have sn1 : ¬ w.heap.size = wr.heap.size := by have := BS.out.lt; omega
                  have sane := Lib.hid sn1
                  have sn2 : w.heap.size < wr.heap.size := BS.out.lt
                  have As100 := Lib.hid (BS.out.alloc (.cells #[.bool false, .int .i64 af, .int .i64 3, .int .i64 am, .bool false] 38))
                  have Ta100 := Lib.hid (T0.out.below ((Below.refl _ _).alloc (Nat.le_refl _) (.cells #[.bool false, .int .i64 af, .int .i64 3, .int .i64 am, .bool false] 38)))
                  have Aa100 := Lib.hid (Blk.new wr 38 #[.bool false, .int .i64 af, .int .i64 3, .int .i64 am, .bool false])
                  have M100 := Lib.hid (L0.out.alloc L0.out.size (.cells #[.bool false, .int .i64 af, .int .i64 3, .int .i64 am, .bool false] 38))
                  clear BS L0 T0
                  go_wp2_with fail
                  refine (HDC.out _ Ta100.out).mono ?_; rintro e wq1 ⟨rfl, hb1⟩
                  have Bs1 := Lib.hid (As100.out.bl hb1)
                  have Ba1 := Lib.hid (Aa100.out.bl hb1)
                  have L1 := Lib.hid (bl M100.out hb1)
                  have T1 := Lib.hid (Ta100.out.below hb1)
                  clear sq0 sq1 sq2 sq3 sq4 ck0 ck1 ck2 ck3 ck4 bn1 bn2 sn1 sn2
                  clear hb1 As100 Aa100 M100 Ta100
                  generalize wr.heap.size = ga at age sane Ba1 ⊢
                  have sq0 := Bs1.out.cell 0
                  have sq1 := Bs1.out.cell 1
                  have sq2 := Bs1.out.cell 2
                  have sq3 := Bs1.out.cell 3
                  have sq4 := Bs1.out.cell 4
                  simp only [List.getElem?_toArray, List.getElem?_cons_succ, List.getElem?_cons_zero] at sq0 sq1 sq2 sq3 sq4
                  have sf0 := Bs1.out.frozen 0
                  have sf1 := Bs1.out.frozen 1
                  have sf2 := Bs1.out.frozen 2
                  have sf3 := Bs1.out.frozen 3
                  have sf4 := Bs1.out.frozen 4
                  have aq0 := Ba1.out.cell 0
                  have aq1 := Ba1.out.cell 1
                  have aq2 := Ba1.out.cell 2
                  have aq3 := Ba1.out.cell 3
                  have aq4 := Ba1.out.cell 4
                  simp only [List.getElem?_toArray, List.getElem?_cons_succ, List.getElem?_cons_zero] at aq0 aq1 aq2 aq3 aq4
                  have KB := Lib.hid Bs1.out
                  have KL := Lib.hid L1.out
                  have dge := Lib.hid (show w.heap.size ≤ wq1.heap.size from L1.out.size)
                  have sn1 : ¬ w.heap.size = wq1.heap.size := by have := Bs1.out.lt; omega
                  have sdne := Lib.hid sn1
                  have sn2 : w.heap.size < wq1.heap.size := Bs1.out.lt
                  have an1 : ¬ ga = wq1.heap.size := by have := Ba1.out.lt; omega
                  have adne := Lib.hid an1
                  have an2 : ga < wq1.heap.size := Ba1.out.lt
                  have As1 := Lib.hid (Bs1.out.alloc (.cells #[.int .i64 am, .int .i64 3, .bool true, .int .i64 fl, .int .u64 (ep + 1)] 24))
                  have Aa1 := Lib.hid (Ba1.out.alloc (.cells #[.int .i64 am, .int .i64 3, .bool true, .int .i64 fl, .int .u64 (ep + 1)] 24))
                  have Ta1 := Lib.hid (T1.out.below ((Below.refl _ _).alloc (Nat.le_refl _) (.cells #[.int .i64 am, .int .i64 3, .bool true, .int .i64 fl, .int .u64 (ep + 1)] 24)))
                  have Ad1 := Lib.hid (Blk.new wq1 24 #[.int .i64 am, .int .i64 3, .bool true, .int .i64 fl, .int .u64 (ep + 1)])
                  have M1 := Lib.hid (L1.out.alloc L1.out.size (.cells #[.int .i64 am, .int .i64 3, .bool true, .int .i64 fl, .int .u64 (ep + 1)] 24))
                  clear Bs1 Ba1 L1 T1
                  go_upto_region 17 with fail
                  go_cut [86] from 62 to 85 (fun v wx => v = .bool false ∧ wx = wq1.alloc (.cells #[.int .i64 am, .int .i64 3, .bool true, .int .i64 fl, .int .u64 (ep + 1)] 24))
                  case first =>
                    go_wp2_with fail
                    go_meet
                    exact ⟨rfl, rfl⟩
                  case rest =>
                    obtain ⟨rfl, rfl⟩ := hcut
                    go_wp2_with fail
                    go_roundw
                    case rel => exact ⟨k + 1, ⟨am, 3, true, fl, ep + 1⟩, by omega, rfl, rfl, by go_num, HR.out, (Blk.alloc (blk_set5 KB.out) _), (Below.alloc (below_set5 KL.out (Nat.le_refl _)) (by simp [World.setCell]; exact KL.out.size) _)⟩
                    case measure => simp [intOf]; omega
                · have hN : nextS ⟨m, 3, true, fl, ep⟩ ⟨3, am, true⟩ = ⟨am, 0, false, fl, ep + 1⟩ := by unfold nextS; rw [if_neg (fun h => ham h.2), if_pos rfl]
                  rw [hN] at hDc hR
                  have HDC := Lib.hid hDc
                  have HR := Lib.hid hR
                  unfold St.val Ask.val at HDC
                  simp only at HDC
                  clear hDc hR hN
                  have ham2 : (am == 7) = false := by simpa using ham
                  have sq0 := BS.out.cell 0
                  have sq1 := BS.out.cell 1
                  have sq2 := BS.out.cell 2
                  have sq3 := BS.out.cell 3
                  have sq4 := BS.out.cell 4
                  simp only [List.getElem?_toArray, List.getElem?_cons_succ, List.getElem?_cons_zero] at sq0 sq1 sq2 sq3 sq4
                  have bn1 : ¬ b = wr.heap.size := by have := L0.out.size; omega
                  have bn2 : b < wr.heap.size := by have := L0.out.size; omega
                  have age := Lib.hid (show w.heap.size ≤ wr.heap.size from L0.out.size)
                  have sn1 : ¬ w.heap.size = wr.heap.size := by have := BS.out.lt; omega
                  have sane := Lib.hid sn1
                  have sn2 : w.heap.size < wr.heap.size := BS.out.lt
                  have As100 := Lib.hid (BS.out.alloc (.cells #[.bool false, .int .i64 af, .int .i64 3, .int .i64 am, .bool true] 38))
                  have Ta100 := Lib.hid (T0.out.below ((Below.refl _ _).alloc (Nat.le_refl _) (.cells #[.bool false, .int .i64 af, .int .i64 3, .int .i64 am, .bool true] 38)))
                  have Aa100 := Lib.hid (Blk.new wr 38 #[.bool false, .int .i64 af, .int .i64 3, .int .i64 am, .bool true])
                  have M100 := Lib.hid (L0.out.alloc L0.out.size (.cells #[.bool false, .int .i64 af, .int .i64 3, .int .i64 am, .bool true] 38))
                  clear BS L0 T0
                  go_wp2_with fail
                  refine (HDC.out _ Ta100.out).mono ?_; rintro e wq1 ⟨rfl, hb1⟩
                  have Bs1 := Lib.hid (As100.out.bl hb1)
                  have Ba1 := Lib.hid (Aa100.out.bl hb1)
                  have L1 := Lib.hid (bl M100.out hb1)
                  have T1 := Lib.hid (Ta100.out.below hb1)
                  clear sq0 sq1 sq2 sq3 sq4 ck0 ck1 ck2 ck3 ck4 bn1 bn2 sn1 sn2
                  clear hb1 As100 Aa100 M100 Ta100
                  generalize wr.heap.size = ga at age sane Ba1 ⊢
                  have sq0 := Bs1.out.cell 0
                  have sq1 := Bs1.out.cell 1
                  have sq2 := Bs1.out.cell 2
                  have sq3 := Bs1.out.cell 3
                  have sq4 := Bs1.out.cell 4
                  simp only [List.getElem?_toArray, List.getElem?_cons_succ, List.getElem?_cons_zero] at sq0 sq1 sq2 sq3 sq4
                  have sf0 := Bs1.out.frozen 0
                  have sf1 := Bs1.out.frozen 1
                  have sf2 := Bs1.out.frozen 2
                  have sf3 := Bs1.out.frozen 3
                  have sf4 := Bs1.out.frozen 4
                  have aq0 := Ba1.out.cell 0
                  have aq1 := Ba1.out.cell 1
                  have aq2 := Ba1.out.cell 2
                  have aq3 := Ba1.out.cell 3
                  have aq4 := Ba1.out.cell 4
                  simp only [List.getElem?_toArray, List.getElem?_cons_succ, List.getElem?_cons_zero] at aq0 aq1 aq2 aq3 aq4
                  have KB := Lib.hid Bs1.out
                  have KL := Lib.hid L1.out
                  have dge := Lib.hid (show w.heap.size ≤ wq1.heap.size from L1.out.size)
                  have sn1 : ¬ w.heap.size = wq1.heap.size := by have := Bs1.out.lt; omega
                  have sdne := Lib.hid sn1
                  have sn2 : w.heap.size < wq1.heap.size := Bs1.out.lt
                  have an1 : ¬ ga = wq1.heap.size := by have := Ba1.out.lt; omega
                  have adne := Lib.hid an1
                  have an2 : ga < wq1.heap.size := Ba1.out.lt
                  have As1 := Lib.hid (Bs1.out.alloc (.cells #[.int .i64 am, .int .i64 0, .bool false, .int .i64 fl, .int .u64 (ep + 1)] 24))
                  have Aa1 := Lib.hid (Ba1.out.alloc (.cells #[.int .i64 am, .int .i64 0, .bool false, .int .i64 fl, .int .u64 (ep + 1)] 24))
                  have Ta1 := Lib.hid (T1.out.below ((Below.refl _ _).alloc (Nat.le_refl _) (.cells #[.int .i64 am, .int .i64 0, .bool false, .int .i64 fl, .int .u64 (ep + 1)] 24)))
                  have Ad1 := Lib.hid (Blk.new wq1 24 #[.int .i64 am, .int .i64 0, .bool false, .int .i64 fl, .int .u64 (ep + 1)])
                  have M1 := Lib.hid (L1.out.alloc L1.out.size (.cells #[.int .i64 am, .int .i64 0, .bool false, .int .i64 fl, .int .u64 (ep + 1)] 24))
                  clear Bs1 Ba1 L1 T1
                  go_upto_region 17 with fail
                  go_cut [86] from 62 to 85 (fun v wx => v = .bool false ∧ wx = wq1.alloc (.cells #[.int .i64 am, .int .i64 0, .bool false, .int .i64 fl, .int .u64 (ep + 1)] 24))
                  case first =>
                    go_wp2_with fail
                    go_meet
                    exact ⟨rfl, rfl⟩
                  case rest =>
                    obtain ⟨rfl, rfl⟩ := hcut
                    go_wp2_with fail
                    go_roundw
                    case rel => exact ⟨k + 1, ⟨am, 0, false, fl, ep + 1⟩, by omega, rfl, rfl, by go_num, HR.out, (Blk.alloc (blk_set5 KB.out) _), (Below.alloc (below_set5 KL.out (Nat.le_refl _)) (by simp [World.setCell]; exact KL.out.size) _)⟩
                    case measure => simp [intOf]; omega
            · have hS : decideS ⟨m, 3, true, fl, ep⟩ ⟨aso, am, afr⟩ = St.zero := by unfold decideS; rw [if_neg hE]
              rw [hS] at hDc
              have hE1 : (decideE ⟨m, 3, true, fl, ep⟩ ⟨aso, am, afr⟩ == 0) = false := by simpa using hE
              generalize decideE ⟨m, 3, true, fl, ep⟩ ⟨aso, am, afr⟩ = er at *
              have HDC := Lib.hid hDc
              unfold St.val St.zero Ask.val at HDC
              simp only at HDC
              clear hDc hHe hHc hE hS
              have sq0 := BS.out.cell 0
              have sq1 := BS.out.cell 1
              have sq2 := BS.out.cell 2
              have sq3 := BS.out.cell 3
              have sq4 := BS.out.cell 4
              simp only [List.getElem?_toArray, List.getElem?_cons_succ, List.getElem?_cons_zero] at sq0 sq1 sq2 sq3 sq4
              have bn1 : ¬ b = wr.heap.size := by have := L0.out.size; omega
              have bn2 : b < wr.heap.size := by have := L0.out.size; omega
              have age := Lib.hid (show w.heap.size ≤ wr.heap.size from L0.out.size)
              have sn1 : ¬ w.heap.size = wr.heap.size := by have := BS.out.lt; omega
              have sane := Lib.hid sn1
              have sn2 : w.heap.size < wr.heap.size := BS.out.lt
              have As100 := Lib.hid (BS.out.alloc (.cells #[.bool false, .int .i64 af, .int .i64 aso, .int .i64 am, .bool afr] 38))
              have Ta100 := Lib.hid (T0.out.below ((Below.refl _ _).alloc (Nat.le_refl _) (.cells #[.bool false, .int .i64 af, .int .i64 aso, .int .i64 am, .bool afr] 38)))
              have Aa100 := Lib.hid (Blk.new wr 38 #[.bool false, .int .i64 af, .int .i64 aso, .int .i64 am, .bool afr])
              have M100 := Lib.hid (L0.out.alloc L0.out.size (.cells #[.bool false, .int .i64 af, .int .i64 aso, .int .i64 am, .bool afr] 38))
              clear BS L0 T0
              go_wp2_with fail
              refine (HDC.out _ Ta100.out).mono ?_; rintro e wq1 ⟨rfl, hb1⟩
              have Bs1 := Lib.hid (As100.out.bl hb1)
              have Ba1 := Lib.hid (Aa100.out.bl hb1)
              have L1 := Lib.hid (bl M100.out hb1)
              have T1 := Lib.hid (Ta100.out.below hb1)
              clear sq0 sq1 sq2 sq3 sq4 ck0 ck1 ck2 ck3 ck4 bn1 bn2 sn1 sn2
              clear hb1 As100 Aa100 M100 Ta100
              generalize wr.heap.size = ga at age sane Ba1 ⊢
              have sq0 := Bs1.out.cell 0
              have sq1 := Bs1.out.cell 1
              have sq2 := Bs1.out.cell 2
              have sq3 := Bs1.out.cell 3
              have sq4 := Bs1.out.cell 4
              simp only [List.getElem?_toArray, List.getElem?_cons_succ, List.getElem?_cons_zero] at sq0 sq1 sq2 sq3 sq4
              have aq0 := Ba1.out.cell 0
              have aq1 := Ba1.out.cell 1
              have aq2 := Ba1.out.cell 2
              have aq3 := Ba1.out.cell 3
              have aq4 := Ba1.out.cell 4
              simp only [List.getElem?_toArray, List.getElem?_cons_succ, List.getElem?_cons_zero] at aq0 aq1 aq2 aq3 aq4
              have dge := Lib.hid (show w.heap.size ≤ wq1.heap.size from L1.out.size)
              have sn1 : ¬ w.heap.size = wq1.heap.size := by have := Bs1.out.lt; omega
              have sdne := Lib.hid sn1
              have sn2 : w.heap.size < wq1.heap.size := Bs1.out.lt
              have an1 : ¬ ga = wq1.heap.size := by have := Ba1.out.lt; omega
              have adne := Lib.hid an1
              have an2 : ga < wq1.heap.size := Ba1.out.lt
              have As1 := Lib.hid (Bs1.out.alloc (.cells #[.int .i64 0, .int .i64 0, .bool false, .int .i64 0, .int .u64 0] 24))
              have Aa1 := Lib.hid (Ba1.out.alloc (.cells #[.int .i64 0, .int .i64 0, .bool false, .int .i64 0, .int .u64 0] 24))
              have Ta1 := Lib.hid (T1.out.below ((Below.refl _ _).alloc (Nat.le_refl _) (.cells #[.int .i64 0, .int .i64 0, .bool false, .int .i64 0, .int .u64 0] 24)))
              have Ad1 := Lib.hid (Blk.new wq1 24 #[.int .i64 0, .int .i64 0, .bool false, .int .i64 0, .int .u64 0])
              have M1 := Lib.hid (L1.out.alloc L1.out.size (.cells #[.int .i64 0, .int .i64 0, .bool false, .int .i64 0, .int .u64 0] 24))
              clear Bs1 Ba1 L1 T1
              go_upto_region 17 with fail
              go_cut [86] from 62 to 85 (fun v wx => v = .bool false ∧ wx = wq1.alloc (.cells #[.int .i64 0, .int .i64 0, .bool false, .int .i64 0, .int .u64 0] 24))
              case first =>
                by_cases haso : aso = 3
                · subst haso
                  go_wp2_with fail
                  go_meet
                  exact ⟨rfl, rfl⟩
                · have h3 : (aso != 3) = true := by simpa using haso
                  rcases (show decide (aso < 3) = true ∧ (m != 0) = true ∨ decide (aso < 3) = true ∧ (m != 0) = false ∨ decide (aso < 3) = false from by cases decide (aso < 3) <;> cases (m != 0) <;> simp) with ⟨q0, q1⟩ | ⟨q0, q1⟩ | q0
                  all_goals
                    go_wp2_with fail
                    go_meet
                    exact ⟨rfl, rfl⟩
              case rest =>
                obtain ⟨rfl, rfl⟩ := hcut
                go_wp2_with fail
                go_roundw
                case rel => exact ⟨k + 1, ⟨m, 3, true, fl, ep⟩, by omega, rfl, rfl, by go_num, HRS.out, As1.out, M1.out⟩
                case measure => simp [intOf]; omega
          · rcases hHe with ⟨f0, f1, hE, hR, hS⟩ | ⟨hff, hE⟩
            · rw [hE, hS] at hHc
              rw [hS] at hR
              have HDC := Lib.hid hHc
              have HR := Lib.hid hR
              unfold St.val at HDC
              simp only at HDC
              clear hDe hDc hHc hE hS hR
              have g0 : decide (0 ≤ af) = true := decide_eq_true f0
              have g1 : decide (af ≤ 63) = true := decide_eq_true f1
              have sq0 := BS.out.cell 0
              have sq1 := BS.out.cell 1
              have sq2 := BS.out.cell 2
              have sq3 := BS.out.cell 3
              have sq4 := BS.out.cell 4
              simp only [List.getElem?_toArray, List.getElem?_cons_succ, List.getElem?_cons_zero] at sq0 sq1 sq2 sq3 sq4
              have bn1 : ¬ b = wr.heap.size := by have := L0.out.size; omega
              have bn2 : b < wr.heap.size := by have := L0.out.size; omega
              have age := Lib.hid (show w.heap.size ≤ wr.heap.size from L0.out.size)
              have sn1 : ¬ w.heap.size = wr.heap.size := by have := BS.out.lt; omega
              have sane := Lib.hid sn1
              have sn2 : w.heap.size < wr.heap.size := BS.out.lt
              have As100 := Lib.hid (BS.out.alloc (.cells #[.bool true, .int .i64 af, .int .i64 aso, .int .i64 am, .bool afr] 38))
              have Ta100 := Lib.hid (T0.out.below ((Below.refl _ _).alloc (Nat.le_refl _) (.cells #[.bool true, .int .i64 af, .int .i64 aso, .int .i64 am, .bool afr] 38)))
              have Aa100 := Lib.hid (Blk.new wr 38 #[.bool true, .int .i64 af, .int .i64 aso, .int .i64 am, .bool afr])
              have M100 := Lib.hid (L0.out.alloc L0.out.size (.cells #[.bool true, .int .i64 af, .int .i64 aso, .int .i64 am, .bool afr] 38))
              clear BS L0 T0
              go_wp2_with fail
              refine (HDC.out _).mono ?_; rintro e wq1 ⟨rfl, hb1⟩
              have Bs1 := Lib.hid (As100.out.bl hb1)
              have Ba1 := Lib.hid (Aa100.out.bl hb1)
              have L1 := Lib.hid (bl M100.out hb1)
              have T1 := Lib.hid (Ta100.out.below hb1)
              clear sq0 sq1 sq2 sq3 sq4 ck0 ck1 ck2 ck3 ck4 bn1 bn2 sn1 sn2
              clear hb1 As100 Aa100 M100 Ta100
              generalize wr.heap.size = ga at age sane Ba1 ⊢
              have sq0 := Bs1.out.cell 0
              have sq1 := Bs1.out.cell 1
              have sq2 := Bs1.out.cell 2
              have sq3 := Bs1.out.cell 3
              have sq4 := Bs1.out.cell 4
              simp only [List.getElem?_toArray, List.getElem?_cons_succ, List.getElem?_cons_zero] at sq0 sq1 sq2 sq3 sq4
              have sf0 := Bs1.out.frozen 0
              have sf1 := Bs1.out.frozen 1
              have sf2 := Bs1.out.frozen 2
              have sf3 := Bs1.out.frozen 3
              have sf4 := Bs1.out.frozen 4
              have aq0 := Ba1.out.cell 0
              have aq1 := Ba1.out.cell 1
              have aq2 := Ba1.out.cell 2
              have aq3 := Ba1.out.cell 3
              have aq4 := Ba1.out.cell 4
              simp only [List.getElem?_toArray, List.getElem?_cons_succ, List.getElem?_cons_zero] at aq0 aq1 aq2 aq3 aq4
              have KB := Lib.hid Bs1.out
              have KL := Lib.hid L1.out
              have dge := Lib.hid (show w.heap.size ≤ wq1.heap.size from L1.out.size)
              have sn1 : ¬ w.heap.size = wq1.heap.size := by have := Bs1.out.lt; omega
              have sdne := Lib.hid sn1
              have sn2 : w.heap.size < wq1.heap.size := Bs1.out.lt
              have an1 : ¬ ga = wq1.heap.size := by have := Ba1.out.lt; omega
              have adne := Lib.hid an1
              have an2 : ga < wq1.heap.size := Ba1.out.lt
              have As1 := Lib.hid (Bs1.out.alloc (.cells #[.int .i64 m, .int .i64 3, .bool true, .int .i64 af, .int .u64 (ep + 1)] 24))
              have Aa1 := Lib.hid (Ba1.out.alloc (.cells #[.int .i64 m, .int .i64 3, .bool true, .int .i64 af, .int .u64 (ep + 1)] 24))
              have Ta1 := Lib.hid (T1.out.below ((Below.refl _ _).alloc (Nat.le_refl _) (.cells #[.int .i64 m, .int .i64 3, .bool true, .int .i64 af, .int .u64 (ep + 1)] 24)))
              have Ad1 := Lib.hid (Blk.new wq1 24 #[.int .i64 m, .int .i64 3, .bool true, .int .i64 af, .int .u64 (ep + 1)])
              have M1 := Lib.hid (L1.out.alloc L1.out.size (.cells #[.int .i64 m, .int .i64 3, .bool true, .int .i64 af, .int .u64 (ep + 1)] 24))
              clear Bs1 Ba1 L1 T1
              go_wp2_with fail
              go_roundw
              case rel => exact ⟨k + 1, ⟨m, 3, true, af, ep + 1⟩, by omega, rfl, rfl, by go_num, HR.out, (Blk.alloc (blk_set5 KB.out) _), (Below.alloc (below_set5 KL.out (Nat.le_refl _)) (by simp [World.setCell]; exact KL.out.size) _)⟩
              case measure => simp [intOf]; omega
            · have hS : healthS ⟨m, 3, true, fl, ep⟩ af = St.zero := by unfold healthS; rw [hE, if_neg (by decide)]
              rw [hE, hS] at hHc
              have HDC := Lib.hid hHc
              unfold St.val St.zero at HDC
              simp only at HDC
              clear hDe hDc hHc hE hS
              rcases (show decide (0 ≤ af) = false ∨ decide (0 ≤ af) = true ∧ decide (af ≤ 63) = false from by
                by_cases q : 0 ≤ af
                · right; exact ⟨decide_eq_true q, decide_eq_false (by omega)⟩
                · left; exact decide_eq_false q) with g0 | ⟨g0, g1⟩
              all_goals
                have sq0 := BS.out.cell 0
                have sq1 := BS.out.cell 1
                have sq2 := BS.out.cell 2
                have sq3 := BS.out.cell 3
                have sq4 := BS.out.cell 4
                simp only [List.getElem?_toArray, List.getElem?_cons_succ, List.getElem?_cons_zero] at sq0 sq1 sq2 sq3 sq4
                have bn1 : ¬ b = wr.heap.size := by have := L0.out.size; omega
                have bn2 : b < wr.heap.size := by have := L0.out.size; omega
                have age := Lib.hid (show w.heap.size ≤ wr.heap.size from L0.out.size)
                have sn1 : ¬ w.heap.size = wr.heap.size := by have := BS.out.lt; omega
                have sane := Lib.hid sn1
                have sn2 : w.heap.size < wr.heap.size := BS.out.lt
                have As100 := Lib.hid (BS.out.alloc (.cells #[.bool true, .int .i64 af, .int .i64 aso, .int .i64 am, .bool afr] 38))
                have Ta100 := Lib.hid (T0.out.below ((Below.refl _ _).alloc (Nat.le_refl _) (.cells #[.bool true, .int .i64 af, .int .i64 aso, .int .i64 am, .bool afr] 38)))
                have Aa100 := Lib.hid (Blk.new wr 38 #[.bool true, .int .i64 af, .int .i64 aso, .int .i64 am, .bool afr])
                have M100 := Lib.hid (L0.out.alloc L0.out.size (.cells #[.bool true, .int .i64 af, .int .i64 aso, .int .i64 am, .bool afr] 38))
                clear BS L0 T0
                go_wp2_with fail
                refine (HDC.out _).mono ?_; rintro e wq1 ⟨rfl, hb1⟩
                have Bs1 := Lib.hid (As100.out.bl hb1)
                have Ba1 := Lib.hid (Aa100.out.bl hb1)
                have L1 := Lib.hid (bl M100.out hb1)
                have T1 := Lib.hid (Ta100.out.below hb1)
                clear sq0 sq1 sq2 sq3 sq4 ck0 ck1 ck2 ck3 ck4 bn1 bn2 sn1 sn2
                clear hb1 As100 Aa100 M100 Ta100
                generalize wr.heap.size = ga at age sane Ba1 ⊢
                have sq0 := Bs1.out.cell 0
                have sq1 := Bs1.out.cell 1
                have sq2 := Bs1.out.cell 2
                have sq3 := Bs1.out.cell 3
                have sq4 := Bs1.out.cell 4
                simp only [List.getElem?_toArray, List.getElem?_cons_succ, List.getElem?_cons_zero] at sq0 sq1 sq2 sq3 sq4
                have aq0 := Ba1.out.cell 0
                have aq1 := Ba1.out.cell 1
                have aq2 := Ba1.out.cell 2
                have aq3 := Ba1.out.cell 3
                have aq4 := Ba1.out.cell 4
                simp only [List.getElem?_toArray, List.getElem?_cons_succ, List.getElem?_cons_zero] at aq0 aq1 aq2 aq3 aq4
                have dge := Lib.hid (show w.heap.size ≤ wq1.heap.size from L1.out.size)
                have sn1 : ¬ w.heap.size = wq1.heap.size := by have := Bs1.out.lt; omega
                have sdne := Lib.hid sn1
                have sn2 : w.heap.size < wq1.heap.size := Bs1.out.lt
                have an1 : ¬ ga = wq1.heap.size := by have := Ba1.out.lt; omega
                have adne := Lib.hid an1
                have an2 : ga < wq1.heap.size := Ba1.out.lt
                have As1 := Lib.hid (Bs1.out.alloc (.cells #[.int .i64 0, .int .i64 0, .bool false, .int .i64 0, .int .u64 0] 24))
                have Aa1 := Lib.hid (Ba1.out.alloc (.cells #[.int .i64 0, .int .i64 0, .bool false, .int .i64 0, .int .u64 0] 24))
                have Ta1 := Lib.hid (T1.out.below ((Below.refl _ _).alloc (Nat.le_refl _) (.cells #[.int .i64 0, .int .i64 0, .bool false, .int .i64 0, .int .u64 0] 24)))
                have Ad1 := Lib.hid (Blk.new wq1 24 #[.int .i64 0, .int .i64 0, .bool false, .int .i64 0, .int .u64 0])
                have M1 := Lib.hid (L1.out.alloc L1.out.size (.cells #[.int .i64 0, .int .i64 0, .bool false, .int .i64 0, .int .u64 0] 24))
                clear Bs1 Ba1 L1 T1
                go_wp2_with fail
                go_roundw
                case rel => exact ⟨k + 1, ⟨m, 3, true, fl, ep⟩, by omega, rfl, rfl, by go_num, HRS.out, As1.out, M1.out⟩
                case measure => simp [intOf]; omega
      · have hd1 : decide ((k : Int) < (n : Int)) = false := decide_eq_false (by omega)
        have L0 := Lib.hid hbl
        have T0 := Lib.hid (HT.out.below hbl)
        clear hbl hbs hrun
        go_wp2_with fail
        refine (awake_any _ T0.out).mono ?_; rintro e w2 ⟨rfl, hb2⟩
        have L3 := Lib.hid (bl L0.out hb2)
        clear hb2
        go_wp2_with fail
        go_ret
        exact ⟨rfl, L3.out⟩
  · have hn1 : decide ((200 : Int) < (n : Int)) = true := decide_eq_true (by omega)
    go_enter Tryd.func6, Tryd.ntmps6
    go_wp2_with fail
    refine (awake_any _ HT.out).mono ?_; rintro e w2 ⟨rfl, hb2⟩
    have L3 := Lib.hid hb2
    clear hb2
    go_wp2_with fail
    go_ret
    exact ⟨rfl, L3.out⟩
end Go.Proofs.YtjnhmoafljfnkaaDoor.Reg
