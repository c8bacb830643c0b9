/-
  Law 6: a generation's place, an epoch's entry: the program's and the document's. Conditions stand at each. By an AI agent; by mkpli.py.
-/
import Derived.Test.YtgdfhgoenemanaaDoorPlH
namespace Go.Proofs.YtgdfhgoenemanaaDoor.Plan
set_option linter.unusedVariables false
set_option linter.unusedSimpArgs false
open Go Go.RowKit Go.Proofs.YtgdfhgoenemanaaDoor.Base
theorem wrap64_in (n : Int) (h : -9223372036854775808 ≤ n ∧ n ≤ 9223372036854775807) : wrap64 n = n := by unfold wrap64; omega
theorem u64_in {n : Int} (h : 0 ≤ n ∧ n ≤ 18446744073709551615) : IntKind.u64.wrap n = n := by
  simp only [IntKind.wrap, IntKind.signed, IntKind.bits]
  simp
  omega
def Sp.val (s : Sp) : Value := .agg #[.int .i64 s.owners, .int .i64 s.seq, .int .i64 s.first, .int .i64 s.words, .int .i64 s.depth]
def Sp.AtOk (s : Sp) : Prop := (1 ≤ s.words ∧ s.words ≤ 64) ∧ (1 ≤ s.depth ∧ s.depth ≤ 16) ∧ (0 ≤ s.first ∧ s.first ≤ 1048576)
instance (s : Sp) : Decidable s.AtOk := inferInstanceAs (Decidable (_ ∧ _))
def atF (s : Sp) (gen : Int) : Int := if s.AtOk then s.first + gen % s.depth * s.words else -1
def entryF (log long epoch : Int) : Int := if (1 ≤ long ∧ long ≤ 64) ∧ (0 ≤ log ∧ log ≤ 1048576) then log + epoch % long else -1
theorem atF_bounds {s : Sp} {gen : Int} (h : s.AtOk) : 0 ≤ gen % s.depth ∧ gen % s.depth ≤ 15 ∧ 0 ≤ gen % s.depth * s.words ∧ gen % s.depth * s.words ≤ 960 := by
  obtain ⟨⟨h1, h2⟩, ⟨h3, h4⟩, _⟩ := h
  have a := Int.emod_nonneg gen (b := s.depth) (by omega)
  have b := Int.emod_lt_of_pos gen (b := s.depth) (by omega)
  refine ⟨a, by omega, Int.mul_nonneg a (by omega), ?_⟩
  calc gen % s.depth * s.words ≤ 15 * s.words := Int.mul_le_mul_of_nonneg_right (by omega) (by omega)
    _ ≤ 15 * 64 := Int.mul_le_mul_of_nonneg_left h2 (by omega)
    _ = 960 := rfl
set_option maxHeartbeats 4000000 in
theorem At_any (s : Sp) (gen : Int) (w : World) (hg : 0 ≤ gen ∧ gen ≤ 18446744073709551615) :
    Calls Tryd.prog 14 #[s.val, .int .u64 gen] w fun e w' => e = .returned (.int .i64 (atF s gen)) ∧ Below w.heap.size w w' := by
  obtain ⟨ow, sq, fi, wo, de⟩ := s
  by_cases h : Sp.AtOk ⟨ow, sq, fi, wo, de⟩
  case pos =>
    have HF := Lib.hid (show atF ⟨ow, sq, fi, wo, de⟩ gen = fi + gen % de * wo from if_pos h)
    have hb := atF_bounds (gen := gen) h
    unfold Sp.val
    simp only at hb ⊢
    have h9 : (1 ≤ wo ∧ wo ≤ 64) ∧ (1 ≤ de ∧ de ≤ 16) ∧ (0 ≤ fi ∧ fi ≤ 1048576) := h
    have HE := Lib.hid (show wrap64 (fi + wrap64 (wrap64 (gen.tmod de) * wo)) = fi + gen % de * wo by
      obtain ⟨⟨h1, h2⟩, ⟨h3, h4⟩, h5, h6⟩ := h9
      rw [Int.tmod_eq_emod_of_nonneg hg.1, wrap64_in (gen % de) (by omega), wrap64_in (gen % de * wo) (by omega), wrap64_in _ (by omega)])
    have hw1 : IntKind.u64.wrap de = de := u64_in (by omega)
    have hde : ¬ de = 0 := by omega
    have K1 := Lib.hid (show inB wo 1 64 = true from decide_eq_true h9.1)
    have K2 := Lib.hid (show inB de 1 16 = true from decide_eq_true h9.2.1)
    have K3 := Lib.hid (show inB fi 0 1048576 = true from decide_eq_true h9.2.2)
    clear h h9 hg hb
    go_enter Tryd.func14, Tryd.ntmps14
    go_wp2_with fail
    refine (within_any _ _ _ _).mono ?_; rintro e w' ⟨rfl, rfl⟩
    rw [K1.out]
    go_wp2_with fail
    refine (within_any _ _ _ _).mono ?_; rintro e w' ⟨rfl, rfl⟩
    rw [K2.out]
    go_wp2_with fail
    refine (within_any _ _ _ _).mono ?_; rintro e w' ⟨rfl, rfl⟩
    rw [K3.out]
    go_wp2_with fail
    go_quiet (fail)
    go_wp2_with fail
    go_ret
    refine ⟨?_, below_drewN ((Below.refl _ _).alloc (Nat.le_refl _) _) _⟩
    rw [HF.out, ← HE.out]
    rfl
  case neg =>
    have HF := Lib.hid (show atF ⟨ow, sq, fi, wo, de⟩ gen = -1 from if_neg h)
    have h9 : ¬ ((1 ≤ wo ∧ wo ≤ 64) ∧ (1 ≤ de ∧ de ≤ 16) ∧ (0 ≤ fi ∧ fi ≤ 1048576)) := h
    unfold Sp.val
    simp only
    obtain ⟨b1, hb1⟩ : ∃ b, inB wo 1 64 = b := ⟨_, rfl⟩
    obtain ⟨b2, hb2⟩ : ∃ b, inB de 1 16 = b := ⟨_, rfl⟩
    obtain ⟨b3, hb3⟩ : ∃ b, inB fi 0 1048576 = b := ⟨_, rfl⟩
    have HN := Lib.hid (show ¬ (b1 = true ∧ b2 = true ∧ b3 = true) by rintro ⟨rfl, rfl, rfl⟩; exact h9 ⟨of_decide_eq_true hb1, of_decide_eq_true hb2, of_decide_eq_true hb3⟩)
    have K1 := Lib.hid hb1
    have K2 := Lib.hid hb2
    have K3 := Lib.hid hb3
    clear h h9 hb1 hb2 hb3 hg
    cases b1 with
    | false =>
      go_enter Tryd.func14, Tryd.ntmps14
      go_wp2_with fail
      refine (within_any _ _ _ _).mono ?_; rintro e w' ⟨rfl, rfl⟩
      rw [K1.out]
      go_wp2_with fail
      go_ret
      exact ⟨by rw [HF.out]; rfl, (Below.refl _ _).alloc (Nat.le_refl _) _⟩
    | true =>
      cases b2 with
      | false =>
        go_enter Tryd.func14, Tryd.ntmps14
        go_wp2_with fail
        refine (within_any _ _ _ _).mono ?_; rintro e w' ⟨rfl, rfl⟩
        rw [K1.out]
        go_wp2_with fail
        refine (within_any _ _ _ _).mono ?_; rintro e w' ⟨rfl, rfl⟩
        rw [K2.out]
        go_wp2_with fail
        go_ret
        exact ⟨by rw [HF.out]; rfl, (Below.refl _ _).alloc (Nat.le_refl _) _⟩
      | true =>
        obtain rfl : b3 = false := by have := HN.out; revert this; cases b3 <;> simp
        go_enter Tryd.func14, Tryd.ntmps14
        go_wp2_with fail
        refine (within_any _ _ _ _).mono ?_; rintro e w' ⟨rfl, rfl⟩
        rw [K1.out]
        go_wp2_with fail
        refine (within_any _ _ _ _).mono ?_; rintro e w' ⟨rfl, rfl⟩
        rw [K2.out]
        go_wp2_with fail
        refine (within_any _ _ _ _).mono ?_; rintro e w' ⟨rfl, rfl⟩
        rw [K3.out]
        go_wp2_with fail
        go_ret
        exact ⟨by rw [HF.out]; rfl, (Below.refl _ _).alloc (Nat.le_refl _) _⟩
set_option maxHeartbeats 4000000 in
theorem refAt_any (s : Sp) (gen : Int) (w : World) (hg : 0 ≤ gen ∧ gen ≤ 18446744073709551615) :
    Calls Tryd.prog 15 #[s.val, .int .u64 gen] w fun e w' => e = .returned (.int .i64 (atF s gen)) ∧ Below w.heap.size w w' := by
  obtain ⟨ow, sq, fi, wo, de⟩ := s
  unfold Sp.val
  simp only
  by_cases h1 : wo < 1
  · have k1 : decide (wo < 1) = true := decide_eq_true h1
    have HF := Lib.hid (show atF ⟨ow, sq, fi, wo, de⟩ gen = -1 from if_neg (fun h => by have h9 : (1 ≤ wo ∧ wo ≤ 64) ∧ (1 ≤ de ∧ de ≤ 16) ∧ (0 ≤ fi ∧ fi ≤ 1048576) := h; omega))
    clear h1 hg
    go_enter Tryd.func15, Tryd.ntmps15
    go_wp2_with fail
    go_ret
    exact ⟨by rw [HF.out]; rfl, (Below.refl _ _).alloc (Nat.le_refl _) _⟩
  have k1 : decide (wo < 1) = false := decide_eq_false h1
  by_cases h2 : wo > 64
  · have k2 : decide (wo > 64) = true := decide_eq_true h2
    have HF := Lib.hid (show atF ⟨ow, sq, fi, wo, de⟩ gen = -1 from if_neg (fun h => by have h9 : (1 ≤ wo ∧ wo ≤ 64) ∧ (1 ≤ de ∧ de ≤ 16) ∧ (0 ≤ fi ∧ fi ≤ 1048576) := h; omega))
    clear h1 h2 hg
    go_enter Tryd.func15, Tryd.ntmps15
    go_wp2_with fail
    go_ret
    exact ⟨by rw [HF.out]; rfl, (Below.refl _ _).alloc (Nat.le_refl _) _⟩
  have k2 : decide (wo > 64) = false := decide_eq_false h2
  by_cases h3 : de < 1
  · have k3 : decide (de < 1) = true := decide_eq_true h3
    have HF := Lib.hid (show atF ⟨ow, sq, fi, wo, de⟩ gen = -1 from if_neg (fun h => by have h9 : (1 ≤ wo ∧ wo ≤ 64) ∧ (1 ≤ de ∧ de ≤ 16) ∧ (0 ≤ fi ∧ fi ≤ 1048576) := h; omega))
    clear h1 h2 h3 hg
    go_enter Tryd.func15, Tryd.ntmps15
    go_wp2_with fail
    go_ret
    exact ⟨by rw [HF.out]; rfl, (Below.refl _ _).alloc (Nat.le_refl _) _⟩
  have k3 : decide (de < 1) = false := decide_eq_false h3
  by_cases h4 : de > 16
  · have k4 : decide (de > 16) = true := decide_eq_true h4
    have HF := Lib.hid (show atF ⟨ow, sq, fi, wo, de⟩ gen = -1 from if_neg (fun h => by have h9 : (1 ≤ wo ∧ wo ≤ 64) ∧ (1 ≤ de ∧ de ≤ 16) ∧ (0 ≤ fi ∧ fi ≤ 1048576) := h; omega))
    clear h1 h2 h3 h4 hg
    go_enter Tryd.func15, Tryd.ntmps15
    go_wp2_with fail
    go_ret
    exact ⟨by rw [HF.out]; rfl, (Below.refl _ _).alloc (Nat.le_refl _) _⟩
  have k4 : decide (de > 16) = false := decide_eq_false h4
  by_cases h5 : fi < 0
  · have k5 : decide (fi < 0) = true := decide_eq_true h5
    have HF := Lib.hid (show atF ⟨ow, sq, fi, wo, de⟩ gen = -1 from if_neg (fun h => by have h9 : (1 ≤ wo ∧ wo ≤ 64) ∧ (1 ≤ de ∧ de ≤ 16) ∧ (0 ≤ fi ∧ fi ≤ 1048576) := h; omega))
    clear h1 h2 h3 h4 h5 hg
    go_enter Tryd.func15, Tryd.ntmps15
    go_wp2_with fail
    go_ret
    exact ⟨by rw [HF.out]; rfl, (Below.refl _ _).alloc (Nat.le_refl _) _⟩
  have k5 : decide (fi < 0) = false := decide_eq_false h5
  by_cases h6 : fi > 1048576
  · have k6 : decide (fi > 1048576) = true := decide_eq_true h6
    have HF := Lib.hid (show atF ⟨ow, sq, fi, wo, de⟩ gen = -1 from if_neg (fun h => by have h9 : (1 ≤ wo ∧ wo ≤ 64) ∧ (1 ≤ de ∧ de ≤ 16) ∧ (0 ≤ fi ∧ fi ≤ 1048576) := h; omega))
    clear h1 h2 h3 h4 h5 h6 hg
    go_enter Tryd.func15, Tryd.ntmps15
    go_wp2_with fail
    go_ret
    exact ⟨by rw [HF.out]; rfl, (Below.refl _ _).alloc (Nat.le_refl _) _⟩
  have k6 : decide (fi > 1048576) = false := decide_eq_false h6
  have h9 : (1 ≤ wo ∧ wo ≤ 64) ∧ (1 ≤ de ∧ de ≤ 16) ∧ (0 ≤ fi ∧ fi ≤ 1048576) := by omega
  have h : Sp.AtOk ⟨ow, sq, fi, wo, de⟩ := h9
  have HF := Lib.hid (show atF ⟨ow, sq, fi, wo, de⟩ gen = fi + gen % de * wo from if_pos h)
  have hb := atF_bounds (gen := gen) h
  simp only at hb
  have HE := Lib.hid (show wrap64 (fi + wrap64 (wo * wrap64 (gen.tmod de))) = fi + gen % de * wo by
    obtain ⟨⟨h1, h2⟩, ⟨h3, h4⟩, h5, h6⟩ := h9
    rw [Int.tmod_eq_emod_of_nonneg hg.1, wrap64_in (gen % de) (by omega), Int.mul_comm wo, wrap64_in (gen % de * wo) (by omega), wrap64_in _ (by omega)])
  have hw1 : IntKind.u64.wrap de = de := u64_in (by omega)
  have hde : ¬ de = 0 := by omega
  have B0 := Lib.hid (Blk.new w 41 #[.int .i64 ow, .int .i64 sq, .int .i64 fi, .int .i64 wo, .int .i64 de])
  have L0 := Lib.hid ((Below.refl w.heap.size w).alloc (Nat.le_refl _) (.cells #[.int .i64 ow, .int .i64 sq, .int .i64 fi, .int .i64 wo, .int .i64 de] 41))
  clear h h9 hg hb h1 h2 h3 h4 h5 h6
  go_enter Tryd.func15, Tryd.ntmps15
  go_upto_region 3 with fail
  generalize hw1w : w.alloc (.cells #[.int .i64 ow, .int .i64 sq, .int .i64 fi, .int .i64 wo, .int .i64 de] 41) = w1 at *
  have hne : Nonempty (Held (fun W => W = w1.drew)) := ⟨⟨_, rfl⟩⟩
  have s2 : ∀ x : Held (fun W => W = w1.drew), x.w.cell? ⟨w.heap.size, 2, none⟩ = some (.int .i64 fi) := fun x => by rw [x.ok]; exact B0.out.cell 2
  have s3 : ∀ x : Held (fun W => W = w1.drew), x.w.cell? ⟨w.heap.size, 3, none⟩ = some (.int .i64 wo) := fun x => by rw [x.ok]; exact B0.out.cell 3
  have s4 : ∀ x : Held (fun W => W = w1.drew), x.w.cell? ⟨w.heap.size, 4, none⟩ = some (.int .i64 de) := fun x => by rw [x.ok]; exact B0.out.cell 4
  refine drawn_bars (S := fun _ => True) [] [0, 1, 2, 3, 4, 5, 6, 7, 8, 9, 10, 11, 12] (by kernel_rfl) (by kernel_rfl) (by kernel_rfl) rfl trivial ?_
  refine Phased.end_ ?_
  simp only [pick, List.map_cons, List.map_nil, List.getElem?_cons_zero, List.getElem?_cons_succ, Option.getD_some]
  repeat (go_big_quiet_step (fail))
  refine wpQuiet_nil ?_
  clear hne s2 s3 s4 hw1w
  have L1 := Lib.hid L0.out.drew
  generalize w1.drew = w2 at *
  go_wp2_with fail
  go_ret
  exact ⟨by rw [HF.out]; exact congrArg (fun z => Ending.returned (.int .i64 z)) HE.out, L1.out⟩
set_option maxHeartbeats 4000000 in
theorem Entry_any (rg lo ln sz : Int) (A : Option Addr) (n cp : Nat) (epoch : Int) (w : World) (hg : 0 ≤ epoch ∧ epoch ≤ 18446744073709551615) :
    Calls Tryd.prog 16 #[.agg #[.int .i64 rg, .int .i64 lo, .int .i64 ln, .slice A n cp, .int .i64 sz], .int .u64 epoch] w fun e w' => e = .returned (.int .i64 (entryF lo ln epoch)) ∧ Below w.heap.size w w' := by
  by_cases h : (1 ≤ ln ∧ ln ≤ 64) ∧ (0 ≤ lo ∧ lo ≤ 1048576)
  case pos =>
    have HF := Lib.hid (show entryF lo ln epoch = lo + epoch % ln from if_pos h)
    have HE := Lib.hid (show wrap64 (lo + wrap64 (epoch.tmod ln)) = lo + epoch % ln by
      have a := Int.emod_nonneg epoch (b := ln) (by omega)
      have b := Int.emod_lt_of_pos epoch (b := ln) (by omega)
      rw [Int.tmod_eq_emod_of_nonneg hg.1, wrap64_in (epoch % ln) (by omega), wrap64_in _ (by omega)])
    have hw1 : IntKind.u64.wrap ln = ln := u64_in (by omega)
    have hde : ¬ ln = 0 := by omega
    have K1 := Lib.hid (show inB ln 1 64 = true from decide_eq_true h.1)
    have K2 := Lib.hid (show inB lo 0 1048576 = true from decide_eq_true h.2)
    clear h hg
    go_enter Tryd.func16, Tryd.ntmps16
    go_wp2_with fail
    refine (within_any _ _ _ _).mono ?_; rintro e w' ⟨rfl, rfl⟩
    rw [K1.out]
    go_wp2_with fail
    refine (within_any _ _ _ _).mono ?_; rintro e w' ⟨rfl, rfl⟩
    rw [K2.out]
    go_wp2_with fail
    go_quiet (fail)
    go_wp2_with fail
    go_ret
    refine ⟨?_, below_drewN ((Below.refl _ _).alloc (Nat.le_refl _) _) _⟩
    rw [HF.out, ← HE.out]
    rfl
  case neg =>
    have HF := Lib.hid (show entryF lo ln epoch = -1 from if_neg h)
    obtain ⟨b1, hb1⟩ : ∃ b, inB ln 1 64 = b := ⟨_, rfl⟩
    obtain ⟨b2, hb2⟩ : ∃ b, inB lo 0 1048576 = b := ⟨_, rfl⟩
    have HN := Lib.hid (show ¬ (b1 = true ∧ b2 = true) by rintro ⟨rfl, rfl⟩; exact h ⟨of_decide_eq_true hb1, of_decide_eq_true hb2⟩)
    have K1 := Lib.hid hb1
    have K2 := Lib.hid hb2
    clear h hb1 hb2 hg
    cases b1 with
    | false =>
      go_enter Tryd.func16, Tryd.ntmps16
      go_wp2_with fail
      refine (within_any _ _ _ _).mono ?_; rintro e w' ⟨rfl, rfl⟩
      rw [K1.out]
      go_wp2_with fail
      go_ret
      exact ⟨by rw [HF.out]; rfl, (Below.refl _ _).alloc (Nat.le_refl _) _⟩
    | true =>
      obtain rfl : b2 = false := by have := HN.out; revert this; cases b2 <;> simp
      go_enter Tryd.func16, Tryd.ntmps16
      go_wp2_with fail
      refine (within_any _ _ _ _).mono ?_; rintro e w' ⟨rfl, rfl⟩
      rw [K1.out]
      go_wp2_with fail
      refine (within_any _ _ _ _).mono ?_; rintro e w' ⟨rfl, rfl⟩
      rw [K2.out]
      go_wp2_with fail
      go_ret
      exact ⟨by rw [HF.out]; rfl, (Below.refl _ _).alloc (Nat.le_refl _) _⟩
set_option maxHeartbeats 4000000 in
theorem refEntry_any (lo ln epoch : Int) (w : World) (hg : 0 ≤ epoch ∧ epoch ≤ 18446744073709551615) :
    Calls Tryd.prog 17 #[.int .i64 lo, .int .i64 ln, .int .u64 epoch] w fun e w' => e = .returned (.int .i64 (entryF lo ln epoch)) ∧ Below w.heap.size w w' := by
  by_cases h1 : ln < 1
  · have k1 : decide (ln < 1) = true := decide_eq_true h1
    have HF := Lib.hid (show entryF lo ln epoch = -1 from if_neg (fun h => by omega))
    clear h1 hg
    go_enter Tryd.func17, Tryd.ntmps17
    go_wp2_with fail
    go_ret
    exact ⟨by rw [HF.out]; rfl, Below.refl _ _⟩
  have k1 : decide (ln < 1) = false := decide_eq_false h1
  by_cases h2 : ln > 64
  · have k2 : decide (ln > 64) = true := decide_eq_true h2
    have HF := Lib.hid (show entryF lo ln epoch = -1 from if_neg (fun h => by omega))
    clear h1 h2 hg
    go_enter Tryd.func17, Tryd.ntmps17
    go_wp2_with fail
    go_ret
    exact ⟨by rw [HF.out]; rfl, Below.refl _ _⟩
  have k2 : decide (ln > 64) = false := decide_eq_false h2
  by_cases h3 : lo < 0
  · have k3 : decide (lo < 0) = true := decide_eq_true h3
    have HF := Lib.hid (show entryF lo ln epoch = -1 from if_neg (fun h => by omega))
    clear h1 h2 h3 hg
    go_enter Tryd.func17, Tryd.ntmps17
    go_wp2_with fail
    go_ret
    exact ⟨by rw [HF.out]; rfl, Below.refl _ _⟩
  have k3 : decide (lo < 0) = false := decide_eq_false h3
  by_cases h4 : lo > 1048576
  · have k4 : decide (lo > 1048576) = true := decide_eq_true h4
    have HF := Lib.hid (show entryF lo ln epoch = -1 from if_neg (fun h => by omega))
    clear h1 h2 h3 h4 hg
    go_enter Tryd.func17, Tryd.ntmps17
    go_wp2_with fail
    go_ret
    exact ⟨by rw [HF.out]; rfl, Below.refl _ _⟩
  have k4 : decide (lo > 1048576) = false := decide_eq_false h4
  have HF := Lib.hid (show entryF lo ln epoch = lo + epoch % ln from if_pos (by omega))
  have HE := Lib.hid (show wrap64 (lo + wrap64 (epoch.tmod ln)) = lo + epoch % ln by
    have a := Int.emod_nonneg epoch (b := ln) (by omega)
    have b := Int.emod_lt_of_pos epoch (b := ln) (by omega)
    rw [Int.tmod_eq_emod_of_nonneg hg.1, wrap64_in (epoch % ln) (by omega), wrap64_in _ (by omega)])
  have hw1 : IntKind.u64.wrap ln = ln := u64_in (by omega)
  have hde : ¬ ln = 0 := by omega
  clear hg h1 h2 h3 h4
  go_enter Tryd.func17, Tryd.ntmps17
  go_wp2_with fail
  go_ret
  refine ⟨?_, Below.refl _ _⟩
  rw [HF.out, ← HE.out]
  rfl
theorem plain_any (s : Sp) (w : World) : Calls Tryd.prog 13 #[s.val] w fun e w' => e = .returned s.val ∧ Below w.heap.size w w' := by
  obtain ⟨ow, sq, fi, wo, de⟩ := s
  unfold Sp.val
  simp only
  go_enter Tryd.func13, Tryd.ntmps13
  go_wp2_with fail
  have hz := Blk.new (w.alloc (.cells #[.int .i64 ow, .int .i64 sq, .int .i64 fi, .int .i64 wo, .int .i64 de] 43)) 41 #[.int .i64 ow, .int .i64 sq, .int .i64 fi, .int .i64 wo, .int .i64 de]
  simp only [World.size_alloc] at hz
  exact bodyPost_ret (results_cell_row (fn := Tryd.f13) rfl _ _ (w.heap.size + 1) _ _ _ _ rfl hz Tryd.underlying41 rfl (by kernel_rfl)) rfl ⟨rfl, ((Below.refl _ _).alloc (Nat.le_refl _) _).alloc (by simp) _⟩
end Go.Proofs.YtgdfhgoenemanaaDoor.Plan
