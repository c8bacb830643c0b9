/-
  Spots, and a publishing, in memory: contracts of packages plan (places), seq and write. Conditions stand at each. By an AI agent.
-/
import Derived.Test.YthcaagkgddeabaaBank
import Derived.Test.YthcaagkgddeabaaEx
import Derived.Test.YthcaagkgddeabaaGoto
import Derived.WalkMore
import Derived.WalkSmall
import Derived.OwnWalk
import Derived.Lib.SliceRun
import Derived.Lib.Walk
namespace Go.Proofs.Ythcaagkgddeabaa.Bank
set_option linter.unusedVariables false
set_option linter.unusedSimpArgs false
open Go Go.RowKit Go.Proofs.Ythcaagkgddeabaa.Base

theorem wrap64_in (n : Int) (h : -9223372036854775808 ≤ n ∧ n ≤ 9223372036854775807) : wrap64 n = n := by unfold wrap64; omega

structure Spot where
  owners : Int
  seq : Int
  first : Int
  words : Int
  depth : Int
def Spot.val (s : Spot) : Value := .agg #[.int .i64 s.owners, .int .i64 s.seq, .int .i64 s.first, .int .i64 s.words, .int .i64 s.depth]
def Spot.AtOk (s : Spot) : Prop := (1 ≤ s.words ∧ s.words ≤ 64) ∧ (1 ≤ s.depth ∧ s.depth ≤ 16) ∧ (0 ≤ s.first ∧ s.first ≤ 1048576)
instance (s : Spot) : Decidable s.AtOk := inferInstanceAs (Decidable (_ ∧ _))
def Spot.Right (s : Spot) : Prop := (1 ≤ s.words ∧ s.words ≤ 64) ∧ (2 ≤ s.depth ∧ s.depth ≤ 16) ∧ (0 ≤ s.owners ∧ s.owners ≤ 1048576) ∧ (0 ≤ s.seq ∧ s.seq ≤ 1048576) ∧ (0 ≤ s.first ∧ s.first ≤ 1048576)
instance (s : Spot) : Decidable s.Right := inferInstanceAs (Decidable (_ ∧ _))
theorem Spot.Right.atOk {s : Spot} (h : s.Right) : s.AtOk := ⟨h.1, ⟨by have := h.2.1; omega, h.2.1.2⟩, h.2.2.2.2⟩
/-- the first word of a generation's place -/
def atF (s : Spot) (gen : Int) : Int := if s.AtOk then s.first + gen % s.depth * s.words else -1

theorem within_any (n lo hi : Int) (w : World) :
    Calls Try.prog 57 #[.int .i64 n, .int .i64 lo, .int .i64 hi] w fun e w' => e = .returned (.bool (decide (lo ≤ n ∧ n ≤ hi))) ∧ w = w' := by
  by_cases h1 : lo ≤ n
  · by_cases h2 : n ≤ hi
    · have hd : decide (lo ≤ n ∧ n ≤ hi) = true := decide_eq_true ⟨h1, h2⟩
      rw [hd]
      clear hd
      go_enter Try.func57, Try.ntmps57
      go_wp2_with fail
      go_ret
      exact ⟨rfl, rfl⟩
    · have hd : decide (lo ≤ n ∧ n ≤ hi) = false := decide_eq_false (fun h => h2 h.2)
      rw [hd]
      clear hd
      have hd2 : decide (n ≤ hi) = false := decide_eq_false h2
      go_enter Try.func57, Try.ntmps57
      go_wp2_with fail
      go_ret
      exact ⟨rfl, rfl⟩
  · have hd : decide (lo ≤ n ∧ n ≤ hi) = false := decide_eq_false (fun h => h1 h.1)
    rw [hd]
    clear hd
    have hd2 : decide (n ≥ lo) = false := decide_eq_false h1
    go_enter Try.func57, Try.ntmps57
    go_wp2_with fail
    go_ret
    exact ⟨rfl, rfl⟩
theorem Gen_any (s : Int) (w : World) :
    Calls Try.prog 38 #[.int .u64 s] w fun e w' => e = .returned (.int .u64 (s / 2)) ∧ w = w' := by
  go_enter Try.func38, Try.ntmps38
  go_wp2_with fail
  go_ret
  exact ⟨rfl, rfl⟩
theorem atF_ok {s : Spot} {gen : Int} (h : s.AtOk) : atF s gen = s.first + gen % s.depth * s.words := if_pos h
theorem atF_bounds {s : Spot} {gen : Int} (h : s.AtOk) : 0 ≤ gen % s.depth ∧ gen % s.depth ≤ 15 ∧ 0 ≤ gen % s.depth * s.words ∧ gen % s.depth * s.words ≤ 960 := by
  obtain ⟨⟨h1, h2⟩, ⟨h3, h4⟩, _⟩ := h
  have a := Int.emod_nonneg gen (b := s.depth) (by omega)
  have b := Int.emod_lt_of_pos gen (b := s.depth) (by omega)
  refine ⟨a, by omega, Int.mul_nonneg a (by omega), ?_⟩
  calc gen % s.depth * s.words ≤ 15 * s.words := Int.mul_le_mul_of_nonneg_right (by omega) (by omega)
    _ ≤ 15 * 64 := Int.mul_le_mul_of_nonneg_left h2 (by omega)
    _ = 960 := rfl
theorem At_any (s : Spot) (gen : Int) (w : World) (hg : 0 ≤ gen ∧ gen ≤ 18446744073709551615) (h : s.AtOk) :
    Calls Try.prog 26 #[s.val, .int .u64 gen] w fun e w' => e = .returned (.int .i64 (atF s gen)) ∧ Below w.heap.size w w' := by
  rw [atF_ok h]
  have hb := atF_bounds (gen := gen) h
  obtain ⟨ow, sq, fi, wo, de⟩ := s
  unfold Spot.val
  simp only at h hb ⊢
  have he : wrap64 (fi + wrap64 (wrap64 (gen.tmod de) * wo)) = fi + gen % de * wo := by
    obtain ⟨⟨h1, h2⟩, ⟨h3, h4⟩, h5, h6⟩ := h
    simp only at h1 h2 h3 h4 h5 h6
    rw [Int.tmod_eq_emod_of_nonneg hg.1, wrap64_in (gen % de) (by omega), wrap64_in (gen % de * wo) (by omega), wrap64_in _ (by omega)]
  have HE := Lib.hid he
  clear he
  have hw1 : IntKind.u64.wrap de = de := u64_wrap_in (by have h3 := h.2.1; simp only at h3; omega)
  have hde : ¬ de = 0 := by have h3 := h.2.1; simp only at h3; omega
  have k1 : decide ((1 : Int) ≤ wo ∧ wo ≤ 64) = true := decide_eq_true h.1
  have k2 : decide ((1 : Int) ≤ de ∧ de ≤ 16) = true := decide_eq_true h.2.1
  have k3 : decide ((0 : Int) ≤ fi ∧ fi ≤ 1048576) = true := decide_eq_true h.2.2
  have K1 := Lib.hid k1
  have K2 := Lib.hid k2
  have K3 := Lib.hid k3
  clear k1 k2 k3 h hg hb
  go_enter Try.func26, Try.ntmps26
  go_wp2_with fail
  refine (within_any _ _ _ _).mono ?_; rintro e w' ⟨rfl, rfl⟩
  rw [K1.out]
  go_wp2_with fail
  refine (within_any _ _ _ _).mono ?_; rintro e w' ⟨rfl, rfl⟩
  rw [K2.out]
  go_wp2_with fail
  refine (within_any _ _ _ _).mono ?_; rintro e w' ⟨rfl, rfl⟩
  rw [K3.out]
  go_wp2_with fail
  go_quiet (fail)
  go_wp2_with fail
  go_ret
  refine ⟨?_, below_drewN ((Below.refl _ _).alloc (Nat.le_refl _) _) _⟩
  rw [← HE.out]
  rfl
set_option maxHeartbeats 2000000 in
set_option maxRecDepth 100000 in
/-- slices.Clone of words, of which there are some -/
theorem Clone64_any (b off n c : Nat) (rec : List Int) (w : World) (hn : rec.length = n) (h0 : 0 < n) (h1 : n ≤ 1048576) (hc : ∀ i : Nat, i < n → w.cell? ⟨b, off + i, none⟩ = some (.int .u64 (nth rec i))) :
    Calls Try.prog 36 #[.slice (some ⟨b, off, none⟩) n c] w fun e w' => ∃ r cc, e = .returned (.slice (some ⟨r, 0, none⟩) n cc) ∧ w.heap.size ≤ r ∧ IntsIn w' .u64 r cc rec ∧ Below w.heap.size w w' := by
  obtain ⟨i0, hi, hz0, hz1, hz2⟩ := info_parts word_info
  have q22 : ∀ (w : World) (a : Option Addr) (n c n' c' : Nat), (Go.binOp .eql 26 (.slice a n c) (.slice none n' c')).run Try.prog w = .ok (.bool a.isNone) w := fun w a n c n' c' => Lib.run_eql_slice_nil w _ _ a n c n' c' Try.underlying26
  have u22 : ∀ w, Sem.run Try.prog (underlying 26) w = .ok (TypeDesc.slice 32) w := run_underlying Try.underlying26
  have A := Lib.hid hc
  have HN := Lib.hid hn
  clear hc hn
  go_enter Try.func36, Try.ntmps36
  go_wp2_with (at_builtin; refine wpList_append_own _ rfl _ _ 26 rfl w.heap.size 32 i0 (.int .u64 0) 1 8 Try.underlying26 hi hz0 hz1 hz2 rfl (by decide) _ _ _ rfl (World.ownsRow_made w #[] 0 (Nat.le_refl _) (Nat.zero_le _) rfl) ⟨b, off, none⟩ n c (rec.map (Value.int .u64)) rfl ?qc1 ?qc2 ?qc3 ?qc4 ?qc5 ?qc6 ?_)
  case qc1 => simp [HN.out]
  case qc2 =>
    intro j u hj
    have hjn : j < n := by
      have := (List.getElem?_eq_some_iff.1 hj).1
      simp [HN.out] at this
      omega
    rw [Addr.add_lit]
    refine Lib.cell?_alloc_some _ ?_
    rw [A.out j hjn]
    have e : (rec.map (Value.int .u64))[j]? = some (Value.int .u64 (nth rec j)) := by
      have : j < rec.length := by rw [HN.out]; exact hjn
      simp [nth, List.getD, List.getElem?_eq_getElem this]
    rw [e] at hj
    exact hj
  case qc3 => intro u hu; obtain ⟨x, _, rfl⟩ := List.mem_map.1 hu; rfl
  case qc4 => unfold maxLen; omega
  case qc5 => omega
  case qc6 => simp
  intro v' w1 hown hgrow hnil
  have hown' : w1.ownsRow w.heap.size 32 1 v' rec.length (rec.map (Value.int .u64)) := by
    rw [HN.out]
    simpa using hown
  obtain ⟨r, cc, hv, hr, hin⟩ := intsIn_of_own hown' (by rw [HN.out]; unfold maxLen; omega) (by intro h; rw [h] at HN; have := HN.out; simp at this; omega)
  have hb : Below w.heap.size w w1 := ((Below.refl _ w).alloc (Nat.le_refl _) _).grown hgrow (by simp) (by intro k hk; simp [Value.ownBlock] at hk; omega)
  have HV := Lib.hid hv
  have HIN := Lib.hid hin
  have HB := Lib.hid hb
  have HR := Lib.hid hr
  clear hown hown' hgrow hnil hv hin hb hr
  go_wp2_with fail
  go_ret
  exact ⟨r, cc, by rw [← HN.out, ← HV.out]; rfl, HR.out, HIN.out, HB.out⟩
end Go.Proofs.Ythcaagkgddeabaa.Bank
