/-
  Log: right, Sound. Printed by wip/tools/mklgs.py. Conditions stand at each. By an AI agent.
-/
import Derived.Test.YthhellgaafbokaaLgA
import Derived.Test.YthhellgaafbokaaRegU
import Derived.Test.YthhellgaafbokaaEx
import Derived.Test.YthhellgaafbokaaLgY
import Derived.Test.YthhellgaafbokaaLgE
namespace Go.Proofs.Ythhellgaafbokaa.Lg
set_option linter.unusedVariables false
set_option linter.unusedSimpArgs false
open Go Go.RowKit Go.Proofs.Ythhellgaafbokaa.Base Go.Proofs.Ythhellgaafbokaa.Reg

theorem turn_num (i n : Nat) (hi : i < n) (hn : n ≤ maxLen) : Value.int .i64 (wrap64 ((i : Int) + 1)) = .int .i64 ((i + 1 : Nat) : Int) ∧ n - (intOf (.int .i64 (wrap64 ((i : Int) + 1)))).toNat < n - (intOf (.int .i64 (i : Int))).toNat := by
  have e : wrap64 ((i : Int) + 1) = ((i + 1 : Nat) : Int) := by unfold maxLen at hn; unfold wrap64; omega
  rw [e]
  refine ⟨rfl, ?_⟩
  show n - ((i + 1 : Nat) : Int).toNat < n - (i : Int).toNat
  rw [Int.toNat_natCast, Int.toNat_natCast]
  omega
theorem st_ways (D t : St) : D = t ∨ ((D.mode == t.mode) = false ∨ (D.mode == t.mode) = true ∧ (D.source == t.source) = false ∨ (D.mode == t.mode) = true ∧ (D.source == t.source) = true ∧ (D.hold == t.hold) = false ∨
    (D.mode == t.mode) = true ∧ (D.source == t.source) = true ∧ (D.hold == t.hold) = true ∧ (D.flags == t.flags) = false ∨ (D.mode == t.mode) = true ∧ (D.source == t.source) = true ∧ (D.hold == t.hold) = true ∧ (D.flags == t.flags) = true ∧ (D.epoch == t.epoch) = false) := by
  obtain ⟨a, b, c, d, e⟩ := D
  obtain ⟨a2, b2, c2, d2, e2⟩ := t
  simp only [St.mk.injEq]
  by_cases h1 : a = a2
  · by_cases h2 : b = b2
    · by_cases h3 : c = c2
      · by_cases h4 : d = d2
        · by_cases h5 : e = e2
          · exact .inl ⟨h1, h2, h3, h4, h5⟩
          · exact .inr (.inr (.inr (.inr (.inr ⟨by simpa using h1, by simpa using h2, by simpa using h3, by simpa using h4, by simpa using h5⟩))))
        · exact .inr (.inr (.inr (.inr (.inl ⟨by simpa using h1, by simpa using h2, by simpa using h3, by simpa using h4⟩))))
      · exact .inr (.inr (.inr (.inl ⟨by simpa using h1, by simpa using h2, by simpa using h3⟩)))
    · exact .inr (.inr (.inl ⟨by simpa using h1, by simpa using h2⟩))
  · exact .inr (.inl (by simpa using h1))
set_option maxRecDepth 100000 in
theorem right_any (s : St) (h : s.Ok) (w : World) : Calls Try.prog 32 #[s.val] w fun e w' => e = .returned (.bool (decide (mayE s = 0))) ∧ Below w.heap.size w w' := by
  by_cases h0 : mayE s = 0
  · have hp := fun W => Pack_ok s h h0 W
    skip
    rw [decide_eq_true h0]
    skip
    skip
    skip
    unfold St.val at hp ⊢
    have HP := Lib.hid hp
    have L0 := Lib.hid ((Below.refl w.heap.size w).alloc (Nat.le_refl _) (.cells #[.int .i64 s.mode, .int .i64 s.source, .bool s.hold, .int .i64 s.flags, .int .u64 s.epoch] 28))
    clear hp h h0
    go_enter Try.func32, Try.ntmps32
    go_wp2_with fail
    refine (HP.out _).mono ?_; rintro e w1 ⟨rfl, hb⟩
    have L1 := Lib.hid (bl L0.out hb)
    clear hb
    go_wp2_with fail
    go_ret
    exact ⟨rfl, L1.out⟩
  · have hp := fun W => Pack_bad s h h0 W
    obtain ⟨me, hme⟩ : ∃ me, mayE s = me := ⟨_, rfl⟩
    rw [decide_eq_false h0]
    rw [hme] at h0
    simp only [hme] at hp
    have km : (me == 0) = false := by simpa using h0
    unfold St.val at hp ⊢
    have HP := Lib.hid hp
    have L0 := Lib.hid ((Below.refl w.heap.size w).alloc (Nat.le_refl _) (.cells #[.int .i64 s.mode, .int .i64 s.source, .bool s.hold, .int .i64 s.flags, .int .u64 s.epoch] 28))
    clear hp h h0 hme
    go_enter Try.func32, Try.ntmps32
    go_wp2_with fail
    refine (HP.out _).mono ?_; rintro e w1 ⟨rfl, hb⟩
    have L1 := Lib.hid (bl L0.out hb)
    clear hb
    go_wp2_with fail
    go_ret
    exact ⟨rfl, L1.out⟩
set_option maxRecDepth 100000 in
set_option maxHeartbeats 30000000 in
theorem Sound_any (v : Value) (n : Nat) (l : Nat → St) (w : World) (h : Sts w v n l) : Calls Try.prog 10 #[v] w fun e w' => e = .returned (.bool (decide (SoundF n l))) ∧ Below w.heap.size w w' := by
  obtain ⟨A, c, rfl, hn, hg⟩ := h.form
  have HOK := Lib.hid h.ok
  have HG := Lib.hid hg
  have HN := Lib.hid hn
  clear h hn hg
  go_enter Try.func10, Try.ntmps10
  go_wp2_with fail
  go_loopw [3, 4, 7] (fun s3 s4 iv wr => ∃ i : Nat, i ≤ n ∧ iv = .int .i64 i ∧ SoundF i l ∧ Below w.heap.size w wr) (fun s3 s4 iv _ => n - (intOf iv).toNat)
  case atStart => exact ⟨0, by omega, rfl, fun _ h => absurd h (by omega), Below.refl _ _⟩
  case round =>
    obtain ⟨i, hi, rfl, hs, hl⟩ := hrel
    have HS := Lib.hid hs
    have L0 := Lib.hid hl
    clear hs hl
    by_cases hlt : i < n
    · have kd : decide ((i : Int) < (n : Int)) = true := decide_eq_true (by omega)
      have ki0 : (0 : Int) ≤ (i : Int) := by omega
      have ki1 : (i : Int) < (n : Int) := by omega
      have HI := Lib.hid hlt
      clear hi hlt
      obtain ⟨b, o, rfl, hb, hc⟩ := HG.out (by have := HI.out; omega)
      have HB := Lib.hid hb
      have HC := Lib.hid hc
      clear hb hc
      obtain ⟨s, hs⟩ : ∃ s, l i = s := ⟨_, rfl⟩
      have HSI := Lib.hid hs
      have HC5 := Lib.hid (HC.out i HI.out)
      have HSO := Lib.hid (HOK.out i HI.out)
      rw [hs] at HC5 HSO
      clear hs
      have c0 := (L0.out.cell (p := ⟨b, o + i * 5, none⟩) HB.out).trans HC5.out.1
      have c1 := (L0.out.cell (p := ⟨b, o + i * 5 + 1, none⟩) HB.out).trans HC5.out.2.1
      have c2 := (L0.out.cell (p := ⟨b, o + i * 5 + 2, none⟩) HB.out).trans HC5.out.2.2.1
      have c3 := (L0.out.cell (p := ⟨b, o + i * 5 + 3, none⟩) HB.out).trans HC5.out.2.2.2.1
      have c4 := (L0.out.cell (p := ⟨b, o + i * 5 + 4, none⟩) HB.out).trans HC5.out.2.2.2.2
      have HR := Lib.hid (fun W => right_any s HSO.out W)
      unfold St.val at HR
      go_upto_region 4 with fail
      clear c0 c1 c2 c3 c4
      have S1 := Lib.hid (Blk.new wr 28 #[.int .i64 s.mode, .int .i64 s.source, .bool s.hold, .int .i64 s.flags, .int .u64 s.epoch])
      have L1 := Lib.hid ((Below.refl wr.heap.size wr).alloc (Nat.le_refl _) (.cells #[.int .i64 s.mode, .int .i64 s.source, .bool s.hold, .int .i64 s.flags, .int .u64 s.epoch] 28))
      generalize wr.alloc (.cells #[.int .i64 s.mode, .int .i64 s.source, .bool s.hold, .int .i64 s.flags, .int .u64 s.epoch] 28) = W1 at *
      obtain ⟨sb, hsb⟩ : ∃ sb, wr.heap.size = sb := ⟨_, rfl⟩
      simp only [hsb] at S1 ⊢
      obtain ⟨p, hp⟩ : ∃ p, l (i - 1) = p := ⟨_, rfl⟩
      have HP := Lib.hid hp
      clear hsb hp
      go_cut [38] from 12 to 38 (fun v wx => v = .bool (decide (¬ (mayE s = 0 ∧ (0 < i → p.epoch < s.epoch)))) ∧ Below wr.heap.size wr wx)
      case first =>
        obtain ⟨rb, hrb⟩ : ∃ rb, decide (mayE s = 0) = rb := ⟨_, rfl⟩
        rw [hrb] at HR
        have HRB := Lib.hid hrb
        clear hrb
        have hne : Nonempty (Held (Below W1.heap.size W1)) := ⟨⟨W1, Below.refl _ _⟩⟩
        have sc0 : ∀ x : Held (Below W1.heap.size W1), x.w.cell? ⟨sb, 0, none⟩ = some (.int .i64 s.mode) := fun x => (S1.out.bl x.ok).cell 0
        have sc1 : ∀ x : Held (Below W1.heap.size W1), x.w.cell? ⟨sb, 1, none⟩ = some (.int .i64 s.source) := fun x => (S1.out.bl x.ok).cell 1
        have sc2 : ∀ x : Held (Below W1.heap.size W1), x.w.cell? ⟨sb, 2, none⟩ = some (.bool s.hold) := fun x => (S1.out.bl x.ok).cell 2
        have sc3 : ∀ x : Held (Below W1.heap.size W1), x.w.cell? ⟨sb, 3, none⟩ = some (.int .i64 s.flags) := fun x => (S1.out.bl x.ok).cell 3
        have sc4 : ∀ x : Held (Below W1.heap.size W1), x.w.cell? ⟨sb, 4, none⟩ = some (.int .u64 s.epoch) := fun x => (S1.out.bl x.ok).cell 4
        refine drawn_bars (S := Below W1.heap.size W1) [([0], 1)] [2, 3, 4, 5, 6, 7, 8, 9, 10, 11, 12, 13, 14, 15, 16, 17, 18, 19, 20, 21, 22, 23, 24, 25, 26] (by kernel_rfl) (by kernel_rfl) s4 rfl (Below.refl _ _).drew ?_
        refine Phased.go ?_
        simp only [pick, List.map_cons, List.map_nil, List.getElem?_cons_zero, List.getElem?_cons_succ, Option.getD_some]
        repeat (go_big_quiet_step (fail))
        refine wpQuiet_nil ?_
        go_wp2_with fail
        refine (HR.out W1.drew).mono ?_; rintro e w2 ⟨rfl, hb⟩
        have hb2 := bl (Below.refl W1.heap.size W1).drew hb
        go_wp2_with fail
        refine behind_normal ⟨_, fun W h => h, hb2, ?_⟩
        refine Phased.end_ ?_
        clear hne sc0 sc1 sc2 sc3 sc4 hb HR
        have hne5 : Nonempty (Held (fun W => W = w2)) := ⟨⟨_, rfl⟩⟩
        simp only [pick, List.map_cons, List.map_nil, List.getElem?_cons_zero, List.getElem?_cons_succ, Option.getD_some]
        cases rb with
        | true =>
          have HM := Lib.hid (of_decide_eq_true HRB.out)
          clear HRB
          by_cases h0 : i = 0
          · have kg : decide ((i : Int) > 0) = false := decide_eq_false (by omega)
            have kg2 : decide (0 < i) = false := decide_eq_false (by omega)
            have H0 := Lib.hid h0
            clear h0
            as_aux_lemma =>
              repeat (go_big_quiet_step (fail))
              refine wpQuiet_nil ?_
              go_wp2_with fail
              go_meet
              exact ⟨by rw [decide_eq_false (show ¬ ¬ (mayE s = 0 ∧ (0 < i → p.epoch < s.epoch)) from fun hh => hh ⟨HM.out, fun h9 => by have := H0.out; omega⟩)], bl L1.out hb2⟩
          · have kg : decide ((i : Int) > 0) = true := decide_eq_true (by omega)
            have kg2 : decide (0 < i) = true := decide_eq_true (by omega)
            obtain ⟨j, hj⟩ : ∃ j : Nat, i = j + 1 := ⟨i - 1, by omega⟩
            have hw : wrap64 ((i : Int) - 1) = (j : Int) := by unfold wrap64; have := HN.out; unfold maxLen at this; omega
            have kj0 : (0 : Int) ≤ (j : Int) := by omega
            have kj1 : (j : Int) < (n : Int) := by omega
            have HJ := Lib.hid (show j < n ∧ 0 < i by omega)
            have hq := HC.out j HJ.out.1
            rw [show l j = p by rw [← HP.out]; congr 1; omega] at hq
            have HQ := Lib.hid hq
            clear hq hj h0
            obtain ⟨eb, heb⟩ : ∃ eb : Bool, ((s.mode == p.mode) && ((s.source == p.source) && ((s.hold == p.hold) && ((s.flags == p.flags) && (s.epoch == p.epoch))))) = eb := ⟨_, rfl⟩
            have eqs := run_eql_st s p
            rw [heb] at eqs
            unfold St.val at eqs
            have HEB := Lib.hid (show eb = true → s.epoch = p.epoch from fun h => by rw [← heb] at h; simp at h; exact h.2.2.2.2)
            clear heb
            cases eb with
            | true =>
              as_aux_lemma =>
                have q0 := ((bl L0.out (bl L1.out hb2)).cell (p := ⟨b, o + j * 5, none⟩) HB.out).trans HQ.out.1
                have q1 := ((bl L0.out (bl L1.out hb2)).cell (p := ⟨b, o + j * 5 + 1, none⟩) HB.out).trans HQ.out.2.1
                have q2 := ((bl L0.out (bl L1.out hb2)).cell (p := ⟨b, o + j * 5 + 2, none⟩) HB.out).trans HQ.out.2.2.1
                have q3 := ((bl L0.out (bl L1.out hb2)).cell (p := ⟨b, o + j * 5 + 3, none⟩) HB.out).trans HQ.out.2.2.2.1
                have q4 := ((bl L0.out (bl L1.out hb2)).cell (p := ⟨b, o + j * 5 + 4, none⟩) HB.out).trans HQ.out.2.2.2.2
                have uu0 : ∀ x : Held (fun W => W = w2), x.w.cell? ⟨b, o + j * 5, none⟩ = some (.int .i64 p.mode) := fun x => by rw [x.ok]; exact q0
                have uu1 : ∀ x : Held (fun W => W = w2), x.w.cell? ⟨b, o + j * 5 + 1, none⟩ = some (.int .i64 p.source) := fun x => by rw [x.ok]; exact q1
                have uu2 : ∀ x : Held (fun W => W = w2), x.w.cell? ⟨b, o + j * 5 + 2, none⟩ = some (.bool p.hold) := fun x => by rw [x.ok]; exact q2
                have uu3 : ∀ x : Held (fun W => W = w2), x.w.cell? ⟨b, o + j * 5 + 3, none⟩ = some (.int .i64 p.flags) := fun x => by rw [x.ok]; exact q3
                have uu4 : ∀ x : Held (fun W => W = w2), x.w.cell? ⟨b, o + j * 5 + 4, none⟩ = some (.int .u64 p.epoch) := fun x => by rw [x.ok]; exact q4
                have tt0 : ∀ x : Held (fun W => W = w2), x.w.cell? ⟨sb, 0, none⟩ = some (.int .i64 s.mode) := fun x => by rw [x.ok]; exact (S1.out.bl hb2).cell 0
                have tt1 : ∀ x : Held (fun W => W = w2), x.w.cell? ⟨sb, 1, none⟩ = some (.int .i64 s.source) := fun x => by rw [x.ok]; exact (S1.out.bl hb2).cell 1
                have tt2 : ∀ x : Held (fun W => W = w2), x.w.cell? ⟨sb, 2, none⟩ = some (.bool s.hold) := fun x => by rw [x.ok]; exact (S1.out.bl hb2).cell 2
                have tt3 : ∀ x : Held (fun W => W = w2), x.w.cell? ⟨sb, 3, none⟩ = some (.int .i64 s.flags) := fun x => by rw [x.ok]; exact (S1.out.bl hb2).cell 3
                have tt4 : ∀ x : Held (fun W => W = w2), x.w.cell? ⟨sb, 4, none⟩ = some (.int .u64 s.epoch) := fun x => by rw [x.ok]; exact (S1.out.bl hb2).cell 4
                repeat (go_big_quiet_step (fail))
                refine wpQuiet_nil ?_
                go_wp2_with fail
                go_meet
                exact ⟨by rw [decide_eq_true (show ¬ (mayE s = 0 ∧ (0 < i → p.epoch < s.epoch)) from fun hh => by have := hh.2 HJ.out.2; have := HEB.out trivial; omega)], bl L1.out hb2⟩
            | false =>
              by_cases hle : s.epoch ≤ p.epoch
              · have kle : decide (s.epoch ≤ p.epoch) = true := decide_eq_true hle
                have HLE := Lib.hid hle
                clear hle
                as_aux_lemma =>
                  have q0 := ((bl L0.out (bl L1.out hb2)).cell (p := ⟨b, o + j * 5, none⟩) HB.out).trans HQ.out.1
                  have q1 := ((bl L0.out (bl L1.out hb2)).cell (p := ⟨b, o + j * 5 + 1, none⟩) HB.out).trans HQ.out.2.1
                  have q2 := ((bl L0.out (bl L1.out hb2)).cell (p := ⟨b, o + j * 5 + 2, none⟩) HB.out).trans HQ.out.2.2.1
                  have q3 := ((bl L0.out (bl L1.out hb2)).cell (p := ⟨b, o + j * 5 + 3, none⟩) HB.out).trans HQ.out.2.2.2.1
                  have q4 := ((bl L0.out (bl L1.out hb2)).cell (p := ⟨b, o + j * 5 + 4, none⟩) HB.out).trans HQ.out.2.2.2.2
                  have uu0 : ∀ x : Held (fun W => W = w2), x.w.cell? ⟨b, o + j * 5, none⟩ = some (.int .i64 p.mode) := fun x => by rw [x.ok]; exact q0
                  have uu1 : ∀ x : Held (fun W => W = w2), x.w.cell? ⟨b, o + j * 5 + 1, none⟩ = some (.int .i64 p.source) := fun x => by rw [x.ok]; exact q1
                  have uu2 : ∀ x : Held (fun W => W = w2), x.w.cell? ⟨b, o + j * 5 + 2, none⟩ = some (.bool p.hold) := fun x => by rw [x.ok]; exact q2
                  have uu3 : ∀ x : Held (fun W => W = w2), x.w.cell? ⟨b, o + j * 5 + 3, none⟩ = some (.int .i64 p.flags) := fun x => by rw [x.ok]; exact q3
                  have uu4 : ∀ x : Held (fun W => W = w2), x.w.cell? ⟨b, o + j * 5 + 4, none⟩ = some (.int .u64 p.epoch) := fun x => by rw [x.ok]; exact q4
                  have tt0 : ∀ x : Held (fun W => W = w2), x.w.cell? ⟨sb, 0, none⟩ = some (.int .i64 s.mode) := fun x => by rw [x.ok]; exact (S1.out.bl hb2).cell 0
                  have tt1 : ∀ x : Held (fun W => W = w2), x.w.cell? ⟨sb, 1, none⟩ = some (.int .i64 s.source) := fun x => by rw [x.ok]; exact (S1.out.bl hb2).cell 1
                  have tt2 : ∀ x : Held (fun W => W = w2), x.w.cell? ⟨sb, 2, none⟩ = some (.bool s.hold) := fun x => by rw [x.ok]; exact (S1.out.bl hb2).cell 2
                  have tt3 : ∀ x : Held (fun W => W = w2), x.w.cell? ⟨sb, 3, none⟩ = some (.int .i64 s.flags) := fun x => by rw [x.ok]; exact (S1.out.bl hb2).cell 3
                  have tt4 : ∀ x : Held (fun W => W = w2), x.w.cell? ⟨sb, 4, none⟩ = some (.int .u64 s.epoch) := fun x => by rw [x.ok]; exact (S1.out.bl hb2).cell 4
                  repeat (go_big_quiet_step (fail))
                  refine wpQuiet_nil ?_
                  go_wp2_with fail
                  go_meet
                  exact ⟨by rw [decide_eq_true (show ¬ (mayE s = 0 ∧ (0 < i → p.epoch < s.epoch)) from fun hh => by have := hh.2 HJ.out.2; have := HLE.out; omega)], bl L1.out hb2⟩
              · have kle : decide (s.epoch ≤ p.epoch) = false := decide_eq_false hle
                have HLE := Lib.hid hle
                clear hle
                as_aux_lemma =>
                  have q0 := ((bl L0.out (bl L1.out hb2)).cell (p := ⟨b, o + j * 5, none⟩) HB.out).trans HQ.out.1
                  have q1 := ((bl L0.out (bl L1.out hb2)).cell (p := ⟨b, o + j * 5 + 1, none⟩) HB.out).trans HQ.out.2.1
                  have q2 := ((bl L0.out (bl L1.out hb2)).cell (p := ⟨b, o + j * 5 + 2, none⟩) HB.out).trans HQ.out.2.2.1
                  have q3 := ((bl L0.out (bl L1.out hb2)).cell (p := ⟨b, o + j * 5 + 3, none⟩) HB.out).trans HQ.out.2.2.2.1
                  have q4 := ((bl L0.out (bl L1.out hb2)).cell (p := ⟨b, o + j * 5 + 4, none⟩) HB.out).trans HQ.out.2.2.2.2
                  have uu0 : ∀ x : Held (fun W => W = w2), x.w.cell? ⟨b, o + j * 5, none⟩ = some (.int .i64 p.mode) := fun x => by rw [x.ok]; exact q0
                  have uu1 : ∀ x : Held (fun W => W = w2), x.w.cell? ⟨b, o + j * 5 + 1, none⟩ = some (.int .i64 p.source) := fun x => by rw [x.ok]; exact q1
                  have uu2 : ∀ x : Held (fun W => W = w2), x.w.cell? ⟨b, o + j * 5 + 2, none⟩ = some (.bool p.hold) := fun x => by rw [x.ok]; exact q2
                  have uu3 : ∀ x : Held (fun W => W = w2), x.w.cell? ⟨b, o + j * 5 + 3, none⟩ = some (.int .i64 p.flags) := fun x => by rw [x.ok]; exact q3
                  have uu4 : ∀ x : Held (fun W => W = w2), x.w.cell? ⟨b, o + j * 5 + 4, none⟩ = some (.int .u64 p.epoch) := fun x => by rw [x.ok]; exact q4
                  have tt0 : ∀ x : Held (fun W => W = w2), x.w.cell? ⟨sb, 0, none⟩ = some (.int .i64 s.mode) := fun x => by rw [x.ok]; exact (S1.out.bl hb2).cell 0
                  have tt1 : ∀ x : Held (fun W => W = w2), x.w.cell? ⟨sb, 1, none⟩ = some (.int .i64 s.source) := fun x => by rw [x.ok]; exact (S1.out.bl hb2).cell 1
                  have tt2 : ∀ x : Held (fun W => W = w2), x.w.cell? ⟨sb, 2, none⟩ = some (.bool s.hold) := fun x => by rw [x.ok]; exact (S1.out.bl hb2).cell 2
                  have tt3 : ∀ x : Held (fun W => W = w2), x.w.cell? ⟨sb, 3, none⟩ = some (.int .i64 s.flags) := fun x => by rw [x.ok]; exact (S1.out.bl hb2).cell 3
                  have tt4 : ∀ x : Held (fun W => W = w2), x.w.cell? ⟨sb, 4, none⟩ = some (.int .u64 s.epoch) := fun x => by rw [x.ok]; exact (S1.out.bl hb2).cell 4
                  repeat (go_big_quiet_step (fail))
                  refine wpQuiet_nil ?_
                  go_wp2_with fail
                  go_meet
                  exact ⟨by rw [decide_eq_false (show ¬ ¬ (mayE s = 0 ∧ (0 < i → p.epoch < s.epoch)) from fun hh => hh ⟨HM.out, fun _ => by have := HLE.out; omega⟩)], bl L1.out hb2⟩
        | false =>
          have HM := Lib.hid (of_decide_eq_false HRB.out)
          clear HRB
          as_aux_lemma =>
            repeat (go_big_quiet_step (fail))
            refine wpQuiet_nil ?_
            go_wp2_with fail
            go_meet
            exact ⟨by rw [decide_eq_true (show ¬ (mayE s = 0 ∧ (0 < i → p.epoch < s.epoch)) from fun hh => HM.out hh.1)], bl L1.out hb2⟩
      case rest =>
        obtain ⟨rfl, hb⟩ := hcut
        have L2 := Lib.hid (bl L0.out hb)
        clear hb
        by_cases hgd : mayE s = 0 ∧ (0 < i → p.epoch < s.epoch)
        · have kx : decide (¬ (mayE s = 0 ∧ (0 < i → p.epoch < s.epoch))) = false := decide_eq_false (fun h => h hgd)
          have HGD := Lib.hid hgd
          clear hgd
          simp only [kx]
          clear kx
          have HN2 := Lib.hid (turn_num i n HI.out HN.out)
          go_wp2_with fail
          exact ⟨⟨i + 1, HI.out, HN2.out.1, fun j hj => by
            by_cases e : j = i
            · subst e; rw [HSI.out, HP.out]; exact HGD.out
            · exact HS.out j (by omega), L2.out⟩, HN2.out.2⟩
        · have kx : decide (¬ (mayE s = 0 ∧ (0 < i → p.epoch < s.epoch))) = true := decide_eq_true hgd
          have HGD := Lib.hid hgd
          clear hgd
          simp only [kx]
          clear kx
          go_wp2_with fail
          go_ret
          exact ⟨by rw [decide_eq_false (show ¬ SoundF n l from fun hh => HGD.out (by have h9 := hh i HI.out; rw [HSI.out, HP.out] at h9; exact h9))]; rfl, L2.out⟩
    · obtain rfl : i = n := by omega
      have kd : decide ((i : Int) < (i : Int)) = false := decide_eq_false (by omega)
      go_wp2_with fail
      go_ret
      exact ⟨by rw [decide_eq_true HS.out]; rfl, L0.out⟩
end Go.Proofs.Ythhellgaafbokaa.Lg
