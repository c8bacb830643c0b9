/-
  Law 12: what a poll tells: At, Steps, Got, Subs, Gens; slices.Clone of words, and of subscriptions. Conditions stand at each. By an AI agent.
-/
import Derived.Test.YthcaagkgddeabaaPoB
import Derived.Test.YthcaagkgddeabaaPoG
namespace Go.Proofs.Ythcaagkgddeabaa.Bank
set_option linter.unusedVariables false
set_option linter.unusedSimpArgs false
open Go Go.RowKit Go.Proofs.Ythcaagkgddeabaa.Base Go.Deep Go.ChangeShapes Go.WideShapes Go.Proofs.Ythcaagkgddeabaa.Queue
/-- the cells of so many subscriptions, in a row -/
def subCs (l : Nat → Queue.Sub) (k : Nat) : List Value := (List.range (6 * k)).map fun t => subC (l (t / 6)) (t % 6)
theorem subCs_len (l : Nat → Queue.Sub) (n : Nat) : (subCs l n).length = 6 * n := by simp [subCs]
theorem subCs_at (l : Nat → Queue.Sub) {k i j : Nat} (hi : i < k) (hj : j < 6) : (subCs l k)[i * 6 + j]? = some (subC (l i) j) := by
  unfold subCs
  rw [List.getElem?_map, List.getElem?_range (by omega)]
  simp only [Option.map_some]
  rw [show (i * 6 + j) / 6 = i by omega, show (i * 6 + j) % 6 = j by omega]
theorem own_fro {w : World} {base size n : Nat} {t : TypeId} {v : Value} {xs : List Value} (h : w.ownsRow base t size v n xs) {g : Nat} (hg : v.ownBlock = some g) (i : Nat) : w.frozen? ⟨g, i, none⟩ = false := by
  rcases h.2 with ⟨rfl, h0⟩ | ⟨g', cap, cur, rfl, hbg, hh, _⟩
  · simp [Value.ownBlock] at hg
  · simp only [Value.ownBlock, Option.some.injEq] at hg
    subst hg
    simp [World.frozen?, hh]
theorem subsIn_of_own {w : World} {base : Nat} {t : TypeId} {v : Value} {n : Nat} {l : Nat → Queue.Sub} (h : w.ownsRow base t 6 v n (subCs l n)) (hn : 0 < n) : ∃ r c, v = .slice (some ⟨r, 0, none⟩) n c ∧ n ≤ c ∧ base ≤ r ∧ SubsIn w r n l := by
  have hf := fun g (hg : v.ownBlock = some g) => own_fro h hg
  rcases h.2 with ⟨rfl, h0⟩ | ⟨g, cap, cur, rfl, hbg, hh, hnc, _⟩
  · omega
  · refine ⟨g, cap, rfl, hnc, hbg, (h.lt g rfl).2, fun i hi j hj => ?_, hf _ rfl⟩
    have := h.cells (g := g) rfl (i * 6 + j) _ (subCs_at l hi hj)
    have e : (⟨g, 0, none⟩ : Addr).add (i * 6 + j) = ⟨g, i * 6 + j, none⟩ := by unfold Addr.add; split <;> simp_all
    rwa [e] at this
theorem sub_info : (Try.prog.info? 46).map (fun i => (i.zero, i.size, i.bytes)) = some (some (.agg #[.int .i64 0, .int .i64 0, .int .u64 0, .int .i64 0, .int .u64 0, .int .u64 0]), 6, 48) := by kernel_rfl
set_option maxRecDepth 100000 in
set_option maxHeartbeats 4000000 in
/-- slices.Clone of subscriptions, of which there are some -/
theorem CloneQ_any (v : Value) (n : Nat) (l : Nat → Queue.Sub) (w : World) (h : Queue.Subs w v n l) (h0 : 0 < n) (h1 : n * 48 ≤ 140737488351232) :
    Calls Try.prog 41 #[v] w fun e w' => ∃ r cc, e = .returned (.slice (some ⟨r, 0, none⟩) n cc) ∧ n ≤ cc ∧ w.heap.size ≤ r ∧ SubsIn w' r n l ∧ Below w.heap.size w w' := by
  obtain ⟨i0, hi, hz0, hz1, hz2⟩ := info_parts sub_info
  obtain ⟨A0, c, rfl, hn, hg⟩ := h.form
  obtain ⟨b, off, rfl, hb, hc⟩ := hg h0
  have q22 : ∀ (w : World) (a : Option Addr) (n c n' c' : Nat), (Go.binOp .eql 22 (.slice a n c) (.slice none n' c')).run Try.prog w = .ok (.bool a.isNone) w := fun w a n c n' c' => Lib.run_eql_slice_nil w _ _ a n c n' c' Try.underlying22
  have u22 : ∀ w, Sem.run Try.prog (underlying 22) w = .ok (TypeDesc.slice 46) w := run_underlying Try.underlying22
  have HC := Lib.hid hc
  clear hc hg h hn
  go_enter Try.func41, Try.ntmps41
  go_wp2_with (at_builtin; refine wpList_append_own _ rfl _ _ 22 rfl w.heap.size 46 i0 (.agg #[.int .i64 0, .int .i64 0, .int .u64 0, .int .i64 0, .int .u64 0, .int .u64 0]) 6 48 Try.underlying22 hi hz0 hz1 hz2 rfl (by decide) _ _ _ rfl (World.ownsRow_made w #[] 0 (Nat.le_refl _) (Nat.zero_le _) rfl) ⟨b, off, none⟩ n c (subCs l n) rfl ?qc1 ?qc2 ?qc3 ?qc4 ?qc5 ?qc6 ?_)
  case qc1 => rw [subCs_len]; omega
  case qc2 =>
    intro j u hj
    have hjn : j < n * 6 := by
      have := (List.getElem?_eq_some_iff.1 hj).1
      rw [subCs_len] at this
      omega
    rw [Addr.add_lit]
    refine Lib.cell?_alloc_some _ ?_
    have hj2 := subCs_at l (k := n) (i := j / 6) (j := j % 6) (by omega) (by omega)
    rw [show j / 6 * 6 + j % 6 = j by omega, hj] at hj2
    cases hj2
    have h5 := HC.out (j / 6) (by omega)
    rcases (show j % 6 = 0 ∨ j % 6 = 1 ∨ j % 6 = 2 ∨ j % 6 = 3 ∨ j % 6 = 4 ∨ j % 6 = 5 by omega) with e | e | e | e | e | e <;> rw [e]
    · rw [show off + j = off + j / 6 * 6 by omega]; exact h5.1
    · rw [show off + j = off + j / 6 * 6 + 1 by omega]; exact h5.2.1
    · rw [show off + j = off + j / 6 * 6 + 2 by omega]; exact h5.2.2.1
    · rw [show off + j = off + j / 6 * 6 + 3 by omega]; exact h5.2.2.2.1
    · rw [show off + j = off + j / 6 * 6 + 4 by omega]; exact h5.2.2.2.2.1
    · rw [show off + j = off + j / 6 * 6 + 5 by omega]; exact h5.2.2.2.2.2
  case qc3 =>
    intro u hu
    obtain ⟨t, _, rfl⟩ := List.mem_map.1 hu
    rcases (show t % 6 = 0 ∨ t % 6 = 1 ∨ t % 6 = 2 ∨ t % 6 = 3 ∨ t % 6 = 4 ∨ t % 6 = 5 by omega) with e | e | e | e | e | e <;> rw [e] <;> rfl
  case qc4 => unfold maxLen; omega
  case qc5 => omega
  case qc6 => simp
  intro v' w1 hown hgrow hnil
  have hown' : w1.ownsRow w.heap.size 46 6 v' n (subCs l n) := by simpa using hown
  obtain ⟨r, cc, hv, hnc, hr, hin⟩ := subsIn_of_own hown' h0
  have hbl : Below w.heap.size w w1 := ((Below.refl _ w).alloc (Nat.le_refl _) _).grown hgrow (by simp) (by intro k hk; simp [Value.ownBlock] at hk; omega)
  have HBL := Lib.hid hbl
  have HIN := Lib.hid hin
  subst hv
  clear hown hgrow hown' hbl hin
  go_wp2_with fail
  go_ret
  exact ⟨_, _, rfl, hnc, hr, HIN.out, HBL.out⟩
set_option maxRecDepth 100000 in
set_option maxHeartbeats 4000000 in
/-- slices.Clone of words, be they none -/
theorem CloneU_any (v : Value) (W : List Int) (w : World) (h : OwnR w v W) (hl : W.length ≤ 1048576) :
    Calls Try.prog 36 #[v] w fun e w' => ∃ v', e = .returned v' ∧ w'.ownsRow w.heap.size 32 1 v' W.length (W.map (Value.int .u64)) ∧ Below w.heap.size w w' := by
  obtain ⟨i0, hi, hz0, hz1, hz2⟩ := info_parts word_info
  have q22 : ∀ (w : World) (a : Option Addr) (n c n' c' : Nat), (Go.binOp .eql 26 (.slice a n c) (.slice none n' c')).run Try.prog w = .ok (.bool a.isNone) w := fun w a n c n' c' => Lib.run_eql_slice_nil w _ _ a n c n' c' Try.underlying26
  have u22 : ∀ w, Sem.run Try.prog (underlying 26) w = .ok (TypeDesc.slice 32) w := run_underlying Try.underlying26
  have hcl := h
  rcases h.2 with ⟨rfl, h0⟩ | ⟨g, cap, cur, rfl, hb, hh, hn, hcap, hcur, ht⟩
  · have e0 : W = [] := by simpa using h0
    subst e0
    clear h h0 hl hcl
    go_enter Try.func36, Try.ntmps36
    go_wp2_with fail
    go_ret
    exact ⟨_, rfl, ⟨rfl, .inl ⟨rfl, rfl⟩⟩, Below.refl _ _⟩
  · have HC := Lib.hid (fun i u hu => World.ownsRow.cells (g := g) hcl rfl i u hu)
    obtain ⟨n, hn'⟩ : ∃ n, W.length = n := ⟨_, rfl⟩
    have HN := Lib.hid hn'
    rw [hn'] at hl ⊢
    clear h hh hn hcap hcur ht hcl hb hn'
    go_enter Try.func36, Try.ntmps36
    go_wp2_with (at_builtin; refine wpList_append_own _ rfl _ _ 26 rfl w.heap.size 32 i0 (.int .u64 0) 1 8 Try.underlying26 hi hz0 hz1 hz2 rfl (by decide) _ _ _ rfl (World.ownsRow_made w #[] 0 (Nat.le_refl _) (Nat.zero_le _) rfl) ⟨g, 0, none⟩ n cap (W.map (Value.int .u64)) rfl ?qc1 ?qc2 ?qc3 ?qc4 ?qc5 ?qc6 ?_)
    case qc1 => simp [HN.out]
    case qc2 =>
      intro j u hj
      have h1 := HC.out j u hj
      exact Lib.cell?_alloc_some _ h1
    case qc3 => intro u hu; obtain ⟨x, _, rfl⟩ := List.mem_map.1 hu; rfl
    case qc4 => unfold maxLen; omega
    case qc5 => omega
    case qc6 => simp
    intro v' w1 hown hgrow hnil
    have hown' : w1.ownsRow w.heap.size 32 1 v' n (W.map (Value.int .u64)) := by simpa using hown
    have hbl : Below w.heap.size w w1 := ((Below.refl _ w).alloc (Nat.le_refl _) _).grown hgrow (by simp) (by intro k hk; simp [Value.ownBlock] at hk; omega)
    have HBL := Lib.hid hbl
    have HO := Lib.hid hown'
    obtain ⟨A, cc, hv⟩ : ∃ A cc, v' = .slice A n cc := by
      rcases hown'.2 with ⟨h1, h2⟩ | ⟨g, cap, cur, h1, _⟩
      · exact ⟨_, _, by rw [h1, h2]⟩
      · exact ⟨_, _, h1⟩
    subst hv
    clear hown hgrow hown' hbl hnil
    go_wp2_with fail
    go_ret
    exact ⟨_, rfl, HO.out, HBL.out⟩
section
variable (o rs cs rt ct q : Nat) (vw : Value) (c : PC) (x : PX) (w : World)
theorem PSteps_any (h : PAt w o rs cs rt ct q vw c x) : Calls Try.prog 13 #[.pointer (some ⟨o, 0, none⟩)] w fun e w' => e = .returned (.int .i64 x.steps) ∧ w = w' := by
  have q0 := h.box.cell 0
  have q11 := h.box.cell 11
  simp only [pcs, List.getElem?_toArray, List.getElem?_cons_succ, List.getElem?_cons_zero] at q0 q11
  generalize x.steps = z at *
  clear h
  go_enter Try.func13, Try.ntmps13
  go_wp2_with fail
  go_ret
  exact ⟨rfl, rfl⟩
theorem PAt_any (h : PAt w o rs cs rt ct q vw c x) : Calls Try.prog 12 #[.pointer (some ⟨o, 0, none⟩)] w fun e w' => e = .returned (.int .i64 (if x.how = 1 then x.begun else 0)) ∧ w = w' := by
  have q0 := h.box.cell 0
  have q10 := h.box.cell 10
  have q12 := h.box.cell 12
  simp only [pcs, List.getElem?_toArray, List.getElem?_cons_succ, List.getElem?_cons_zero] at q0 q10 q12
  generalize x.how = how at *
  generalize x.begun = z at *
  clear h
  by_cases h : how = 1
  · rw [if_pos h]
    have kh : (how != 1) = false := by simpa using h
    clear h
    go_enter Try.func12, Try.ntmps12
    go_wp2_with fail
    go_ret
    exact ⟨rfl, rfl⟩
  · rw [if_neg h]
    have kh : (how != 1) = true := by simpa using h
    clear h
    go_enter Try.func12, Try.ntmps12
    go_wp2_with fail
    go_ret
    exact ⟨rfl, rfl⟩
theorem PGot_not (h : PAt w o rs cs rt ct q vw c x) (hh : x.how ≠ 1) : Calls Try.prog 8 #[.pointer (some ⟨o, 0, none⟩)] w fun e w' => e = .returned (.tuple #[.int .i64 (-1), .int .u64 0, .slice none 0 0]) ∧ w = w' := by
  have q0 := h.box.cell 0
  have q10 := h.box.cell 10
  simp only [pcs, List.getElem?_toArray, List.getElem?_cons_succ, List.getElem?_cons_zero] at q0 q10
  have kh : (x.how != 1) = true := by simpa using hh
  generalize x.how = how at *
  clear h hh
  go_enter Try.func8, Try.ntmps8
  go_wp2_with fail
  refine bodyPost_ret (pres_tmp3 (fn := Try.f8) rfl _ _) rfl ?_
  exact ⟨rfl, rfl⟩
theorem PSubs_not (h : PAt w o rs cs rt ct q vw c x) (hh : x.how ≠ 1) : Calls Try.prog 10 #[.pointer (some ⟨o, 0, none⟩)] w fun e w' => e = .returned (.slice none 0 0) ∧ w = w' := by
  have q0 := h.box.cell 0
  have q10 := h.box.cell 10
  simp only [pcs, List.getElem?_toArray, List.getElem?_cons_succ, List.getElem?_cons_zero] at q0 q10
  have kh : (x.how != 1) = true := by simpa using hh
  generalize x.how = how at *
  clear h hh
  go_enter Try.func10, Try.ntmps10
  go_wp2_with fail
  go_ret
  exact ⟨rfl, rfl⟩
theorem PGens_not (h : PAt w o rs cs rt ct q vw c x) (hh : x.how ≠ 1) : Calls Try.prog 11 #[.pointer (some ⟨o, 0, none⟩)] w fun e w' => e = .returned (.slice none 0 0) ∧ w = w' := by
  have q0 := h.box.cell 0
  have q10 := h.box.cell 10
  simp only [pcs, List.getElem?_toArray, List.getElem?_cons_succ, List.getElem?_cons_zero] at q0 q10
  have kh : (x.how != 1) = true := by simpa using hh
  generalize x.how = how at *
  clear h hh
  go_enter Try.func11, Try.ntmps11
  go_wp2_with fail
  go_ret
  exact ⟨rfl, rfl⟩
theorem PGens_any (h : PAt w o rs cs rt ct q vw c x) (hh : x.how = 1) (hc : c.Ok) : Calls Try.prog 11 #[.pointer (some ⟨o, 0, none⟩)] w fun e w' => ∃ r, e = .returned (.slice (some ⟨r, 0, none⟩) c.n c.n) ∧ w.heap.size ≤ r ∧ URow w' r (gensL c x.gl) ∧ Below w.heap.size w w' := by
  have HG := Lib.hid (gens_any o rs cs rt ct q vw c x w h hc)
  have q0 := h.box.cell 0
  have q10 := h.box.cell 10
  simp only [pcs, List.getElem?_toArray, List.getElem?_cons_succ, List.getElem?_cons_zero] at q0 q10
  have kh : (x.how != 1) = false := by simpa using hh
  generalize x.how = how at *
  clear h hh
  go_enter Try.func11, Try.ntmps11
  go_wp2_with fail
  refine HG.out.mono ?_; rintro e w1 ⟨r, rfl, hr, hu, hb⟩
  have HR := Lib.hid (And.intro hr (And.intro hu hb))
  clear hr hu hb
  go_wp2_with fail
  go_ret
  exact ⟨r, rfl, HR.out⟩
theorem PSubs_any (h : PAt w o rs cs rt ct q vw c x) (hh : x.how = 1) (hc : c.Ok) (hok : ∀ i, i < c.n → (x.cu i).Ok) : Calls Try.prog 10 #[.pointer (some ⟨o, 0, none⟩)] w fun e w' => ∃ r cc, e = .returned (.slice (some ⟨r, 0, none⟩) c.n cc) ∧ c.n ≤ cc ∧ w.heap.size ≤ r ∧ SubsIn w' r c.n (c.sub x.cu) ∧ Below w.heap.size w w' := by
  have HG := Lib.hid (CloneQ_any (.slice (some ⟨rs, 0, none⟩) c.n cs) c.n (c.sub x.cu) w (h.subs.subs (by have := hc.n64; unfold maxLen; omega) (fun i hi => ⟨hc.rk i hi, hok i hi⟩)) hc.n1 (by have := hc.n64; omega))
  have q0 := h.box.cell 0
  have q10 := h.box.cell 10
  simp only [pcs, List.getElem?_toArray, List.getElem?_cons_succ, List.getElem?_cons_zero] at q0 q10
  have kh : (x.how != 1) = false := by simpa using hh
  generalize x.how = how at *
  clear h hh hok
  go_enter Try.func10, Try.ntmps10
  go_wp2_with fail
  refine HG.out.mono ?_; rintro e w1 ⟨r, cc, rfl, hnc, hr, hu, hb⟩
  have HR := Lib.hid (And.intro hnc (And.intro hr (And.intro hu hb)))
  clear hnc hr hu hb
  go_wp2_with fail
  go_ret
  exact ⟨r, cc, rfl, HR.out⟩
set_option maxRecDepth 100000 in
set_option maxHeartbeats 4000000 in
theorem PGot_any (h : PAt w o rs cs rt ct q vw c x) (hh : x.how = 1) (hl : x.words.length ≤ 64) : Calls Try.prog 8 #[.pointer (some ⟨o, 0, none⟩)] w fun e w' => ∃ v', e = .returned (.tuple #[.int .i64 x.pick, .int .u64 x.gen, v']) ∧ w'.ownsRow w.heap.size 32 1 v' x.words.length (x.words.map (Value.int .u64)) ∧ Below w.heap.size w w' := by
  have HB := Lib.hid h.box
  have HRW := Lib.hid h.row
  have HL := Lib.hid hl
  have q0 := h.box.cell 0
  have q10 := h.box.cell 10
  simp only [pcs, List.getElem?_toArray, List.getElem?_cons_succ, List.getElem?_cons_zero] at q0 q10
  have kh : (x.how != 1) = false := by simpa using hh
  generalize x.how = how at *
  obtain ⟨va, vc, hvw⟩ := h.row.form
  clear h hh hl
  obtain ⟨left, round, next, pk, gen, place, size, how', steps, begun, words, gl, cu⟩ := x
  simp only at *
  generalize hwl : words.length = L at hvw ⊢
  have HWL := Lib.hid hwl
  clear hwl
  subst hvw
  go_enter Try.func8, Try.ntmps8
  go_upto_region 3 with fail
  clear q0 q10
  have hne : Nonempty (Held (Below w.heap.size w)) := ⟨⟨w, Below.refl _ _⟩⟩
  have p0 : ∀ y : Held (Below w.heap.size w), y.w.cell? ⟨o, 0, none⟩ = some (.slice (some ⟨rs, 0, none⟩) c.n cs) := fun y => (HB.out.bl y.ok).cell 0
  have p5 : ∀ y : Held (Below w.heap.size w), y.w.cell? ⟨o, 5, none⟩ = some (.int .i64 pk) := fun y => (HB.out.bl y.ok).cell 5
  have p6 : ∀ y : Held (Below w.heap.size w), y.w.cell? ⟨o, 6, none⟩ = some (.int .u64 gen) := fun y => (HB.out.bl y.ok).cell 6
  have p9 : ∀ y : Held (Below w.heap.size w), y.w.cell? ⟨o, 9, none⟩ = some (.slice va L vc) := fun y => (HB.out.bl y.ok).cell 9
  refine drawn_bars (S := Below w.heap.size w) [([0, 1, 2, 3, 4, 5, 6, 7, 8, 9, 10, 11], 12)] [13, 14, 15] (by kernel_rfl) (by kernel_rfl) (by kernel_rfl) rfl (Below.refl _ _).drew ?_
  refine Phased.go ?_
  simp only [pick, List.map_cons, List.map_nil, List.getElem?_cons_zero, List.getElem?_cons_succ, Option.getD_some]
  repeat (go_big_quiet_step (fail))
  refine wpQuiet_nil ?_
  have hbd : Below w.heap.size w w.drew := (Below.refl _ _).drew
  go_wp2_with fail
  refine (CloneU_any _ words w.drew (HRW.out.bl hbd) (by have := HL.out; omega)).mono ?_; rintro e w2 ⟨v', rfl, ho, hb2⟩
  have hb3 := bl hbd hb2
  obtain ⟨A, cc, hv⟩ : ∃ A cc, v' = .slice A L cc := by
    rcases ho.2 with ⟨h1, h2⟩ | ⟨g, cap, cur, h1, _⟩
    · exact ⟨_, _, by rw [h1, ← HWL.out, h2]⟩
    · exact ⟨_, _, by rw [← HWL.out]; exact h1⟩
  have HO := Lib.hid (show w2.ownsRow w.heap.size 32 1 v' L (words.map (Value.int .u64)) from by rw [← HWL.out]; exact ho)
  have HB3 := Lib.hid hb3
  subst hv
  go_wp2_with fail
  refine behind_normal ⟨Below w.heap.size w, fun W h => h, hb3, ?_⟩
  clear ho hb2 hb3 hbd
  refine Phased.end_ ?_
  have hne4 : Nonempty (Held (fun W => W = w2)) := ⟨⟨_, rfl⟩⟩
  simp only [pick, List.map_cons, List.map_nil, List.getElem?_cons_zero, List.getElem?_cons_succ, Option.getD_some]
  repeat (go_big_quiet_step (fail))
  refine wpQuiet_nil ?_
  clear hne hne4 p0 p5 p6 p9
  go_wp2_with fail
  refine bodyPost_ret (pres_tmp3 (fn := Try.f8) rfl _ _) rfl ?_
  exact ⟨_, rfl, HO.out, HB3.out⟩
end
end Go.Proofs.Ythcaagkgddeabaa.Bank
