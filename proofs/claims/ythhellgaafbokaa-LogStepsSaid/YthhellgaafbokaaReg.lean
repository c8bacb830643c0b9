/-
  Reg: states, their words, requests: what the functions of layer 14 compute, with no program in sight. No condition. By an AI agent.
-/
import Derived.Test.YthhellgaafbokaaWays14
import Derived.Test.YthhellgaafbokaaHead
import Derived.Laws.ResultCell
import Derived.Laws.Bits64b
namespace Go.Proofs.Ythhellgaafbokaa.Reg
set_option linter.unusedVariables false
set_option linter.unusedSimpArgs false
open Go Go.RowKit Go.Proofs.Ythhellgaafbokaa.Base Go.Proofs.Ythhellgaafbokaa.Modes

structure St where
  mode : Int
  source : Int
  hold : Bool
  flags : Int
  epoch : Int
def St.cells (s : St) : Array Value := #[.int .i64 s.mode, .int .i64 s.source, .bool s.hold, .int .i64 s.flags, .int .u64 s.epoch]
def St.val (s : St) : Value := .agg #[.int .i64 s.mode, .int .i64 s.source, .bool s.hold, .int .i64 s.flags, .int .u64 s.epoch]
structure St.Ok (s : St) : Prop where
  mode : -9223372036854775808 ≤ s.mode ∧ s.mode ≤ 9223372036854775807
  source : -9223372036854775808 ≤ s.source ∧ s.source ≤ 9223372036854775807
  flags : -9223372036854775808 ≤ s.flags ∧ s.flags ≤ 9223372036854775807
  epoch : 0 ≤ s.epoch ∧ s.epoch ≤ 18446744073709551615
def St.zero : St := ⟨0, 0, false, 0, 0⟩
def St.Parts (s : St) : Prop := (0 ≤ s.mode ∧ s.mode < 8) ∧ (0 ≤ s.source ∧ s.source < 4) ∧ (0 ≤ s.flags ∧ s.flags ≤ 63) ∧ s.epoch < 4503599627370496
instance (s : St) : Decidable s.Parts := inferInstanceAs (Decidable (_ ∧ _))
def St.Held (s : St) : Prop := s.hold = true ∧ s.source ≠ 3
instance (s : St) : Decidable s.Held := inferInstanceAs (Decidable (_ ∧ _))
/-- what is wrong with a state -/
def mayE (s : St) : Int := if s.Parts then (if s.Held then 1 else 0) else 10
theorem mayE_zero {s : St} : mayE s = 0 ↔ s.Parts ∧ ¬ s.Held := by
  unfold mayE
  split
  · split <;> simp_all
  · simp_all
def wordI (s : St) : Int := s.epoch * 4096 + s.flags * 64 + (if s.hold then 32 else 0) + s.source * 8 + s.mode
def packW (s : St) : Int := if mayE s = 0 then wordI s else 0
def partsOf (w : Int) : St := ⟨w % 8, w / 8 % 4, w / 32 % 2 == 1, w / 64 % 64, w / 4096⟩
def unE (w : Int) : Int := if mayE (partsOf w) = 0 then 0 else 11
def unS (w : Int) : St := if mayE (partsOf w) = 0 then partsOf w else St.zero
theorem partsOf_parts {w : Int} (h : 0 ≤ w ∧ w ≤ 18446744073709551615) : (partsOf w).Parts := by
  unfold partsOf St.Parts
  simp only
  omega
theorem partsOf_ok {w : Int} (h : 0 ≤ w ∧ w ≤ 18446744073709551615) : (partsOf w).Ok := by
  refine ⟨?_, ?_, ?_, ?_⟩ <;> unfold partsOf <;> simp only <;> omega
theorem wordI_range {s : St} (h : s.Parts) (h0 : s.Ok) : 0 ≤ wordI s ∧ wordI s ≤ 18446744073709551615 := by
  obtain ⟨⟨a, b⟩, ⟨c, d⟩, ⟨e, f⟩, g⟩ := h
  have := h0.epoch
  unfold wordI
  split <;> omega
theorem partsOf_word {s : St} (h : s.Parts) (h0 : s.Ok) : partsOf (wordI s) = s := by
  obtain ⟨⟨a, b⟩, ⟨c, d⟩, ⟨e, f⟩, g⟩ := h
  have := h0.epoch
  obtain ⟨m, so, ho, fl, ep⟩ := s
  simp only at *
  unfold partsOf wordI
  simp only [St.mk.injEq]
  cases ho
  · simp only [Bool.false_eq_true, if_false]
    refine ⟨by omega, by omega, ?_, by omega, by omega⟩
    simp
    omega
  · simp only [if_true]
    refine ⟨by omega, by omega, ?_, by omega, by omega⟩
    simp
    omega
theorem word_partsOf {w : Int} (h : 0 ≤ w ∧ w ≤ 18446744073709551615) : wordI (partsOf w) = w := by
  unfold partsOf wordI
  simp only
  split <;> rename_i hh <;> simp at hh <;> omega

theorem or_hi (a b i : Nat) (h : b < 2 ^ i) : b ||| a * 2 ^ i = a * 2 ^ i + b := by
  rw [Nat.or_comm, Nat.mul_comm]
  exact (Nat.two_pow_add_eq_or_of_lt h a).symm
theorem or_32 (q r : Nat) (h : r < 32) : (q * 64 + r) ||| 32 = q * 64 + 32 + r := by
  have h1 : q * 64 + r = r ||| q * 64 := (or_hi q r 6 (by omega)).symm
  have h2 : r ||| 32 = 32 + r := by have := or_hi 1 r 5 (by omega); simpa using this
  have h3 : (32 + r) ||| q * 64 = q * 64 + (32 + r) := or_hi q (32 + r) 6 (by omega)
  rw [h1, Nat.or_assoc, Nat.or_comm (q * 64) 32, ← Nat.or_assoc, h2, h3]
  omega
theorem u64_or {a b : Int} (h0 : 0 ≤ a ∧ a < 18446744073709551616) (h1 : 0 ≤ b ∧ b < 18446744073709551616) : bits .or .u64 a b = ((a.toNat ||| b.toNat : Nat) : Int) := by
  have := bits_or_u64_nat a.toNat b.toNat (by omega) (by omega)
  rwa [show ((a.toNat : Nat) : Int) = a by omega, show ((b.toNat : Nat) : Int) = b by omega] at this
/-- the word, by bits -/
theorem word_bits {m so fl ep : Int} (hm : 0 ≤ m ∧ m < 8) (hs : 0 ≤ so ∧ so < 4) (hf : 0 ≤ fl ∧ fl ≤ 63) (he : 0 ≤ ep ∧ ep < 4503599627370496) :
    bits .or .u64 (bits .or .u64 (bits .or .u64 m (so * 8)) (fl * 64)) (ep * 4096) = ep * 4096 + fl * 64 + so * 8 + m := by
  obtain ⟨m, rfl⟩ := Int.eq_ofNat_of_zero_le hm.1
  obtain ⟨so, rfl⟩ := Int.eq_ofNat_of_zero_le hs.1
  obtain ⟨fl, rfl⟩ := Int.eq_ofNat_of_zero_le hf.1
  obtain ⟨ep, rfl⟩ := Int.eq_ofNat_of_zero_le he.1
  have e1 : (m ||| so * 8) = so * 8 + m := or_hi so m 3 (by omega)
  have e2 : ((so * 8 + m) ||| fl * 64) = fl * 64 + (so * 8 + m) := or_hi fl (so * 8 + m) 6 (by omega)
  have e3 : ((fl * 64 + (so * 8 + m)) ||| ep * 4096) = ep * 4096 + (fl * 64 + (so * 8 + m)) := or_hi ep _ 12 (by omega)
  have f1 : bits .or .u64 (m : Int) ((so : Int) * 8) = ((so * 8 + m : Nat) : Int) := by
    have := bits_or_u64_nat m (so * 8) (by omega) (by omega)
    rw [e1] at this
    simpa using this
  have f2 : bits .or .u64 ((so * 8 + m : Nat) : Int) ((fl : Int) * 64) = ((fl * 64 + (so * 8 + m) : Nat) : Int) := by
    have := bits_or_u64_nat (so * 8 + m) (fl * 64) (by omega) (by omega)
    rw [e2] at this
    simpa using this
  have f3 : bits .or .u64 ((fl * 64 + (so * 8 + m) : Nat) : Int) ((ep : Int) * 4096) = ((ep * 4096 + (fl * 64 + (so * 8 + m)) : Nat) : Int) := by
    have := bits_or_u64_nat (fl * 64 + (so * 8 + m)) (ep * 4096) (by omega) (by omega)
    rw [e3] at this
    simpa using this
  rw [f1, f2, f3]
  omega
theorem word_bits32 {m so fl ep : Int} (hm : 0 ≤ m ∧ m < 8) (hs : 0 ≤ so ∧ so < 4) (hf : 0 ≤ fl ∧ fl ≤ 63) (he : 0 ≤ ep ∧ ep < 4503599627370496) :
    bits .or .u64 (bits .or .u64 (bits .or .u64 (bits .or .u64 m (so * 8)) (fl * 64)) (ep * 4096)) 32 = ep * 4096 + fl * 64 + 32 + so * 8 + m := by
  rw [word_bits hm hs hf he]
  have := or_32 ((ep * 64 + fl).toNat) ((so * 8 + m).toNat) (by omega)
  rw [u64_or (by omega) (by omega), show (ep * 4096 + fl * 64 + so * 8 + m).toNat = (ep * 64 + fl).toNat * 64 + (so * 8 + m).toNat by omega, show ((32 : Int).toNat) = 32 from rfl, this]
  omega

structure Ask where
  source : Int
  mode : Int
  free : Bool
structure Ask.Ok (a : Ask) : Prop where
  source : -9223372036854775808 ≤ a.source ∧ a.source ≤ 9223372036854775807
  mode : -9223372036854775808 ≤ a.mode ∧ a.mode ≤ 9223372036854775807
def Ask.In (a : Ask) : Prop := (0 ≤ a.source ∧ a.source < 4) ∧ (0 ≤ a.mode ∧ a.mode < 8)
instance (a : Ask) : Decidable a.In := inferInstanceAs (Decidable (_ ∧ _))
def Ask.val (a : Ask) : Value := .agg #[.int .i64 a.source, .int .i64 a.mode, .bool a.free]
def guardB (s : St) (a : Ask) : Bool := (bits .and .i64 s.flags (needZ s.mode a.mode) == needZ s.mode a.mode) && (bits .and .i64 s.flags (notZ s.mode a.mode) == 0)
def lastE : Int := 4503599627370495
/-- why a request is refused -/
def decideE (s : St) (a : Ask) : Int :=
  if mayE s ≠ 0 then 1 else if ¬ a.In then 10 else if s.hold = true ∧ a.source ≠ 3 then 23 else if a.source < s.source ∧ s.mode ≠ 0 then 24
  else if wayB s.mode a.mode = false then 21 else if guardB s a = false then 22 else if s.epoch = lastE then 16 else 0
def nextS (s : St) (a : Ask) : St :=
  if a.source = 3 ∧ a.mode = 7 then ⟨7, 3, true, s.flags, s.epoch + 1⟩
  else if a.free = true then ⟨a.mode, 0, false, s.flags, s.epoch + 1⟩
  else ⟨a.mode, a.source, s.hold, s.flags, s.epoch + 1⟩
def decideS (s : St) (a : Ask) : St := if decideE s a = 0 then nextS s a else St.zero
def healthE (s : St) (f : Int) : Int := if mayE s ≠ 0 then 1 else if ¬ (0 ≤ f ∧ f ≤ 63) then 10 else if s.epoch = lastE then 16 else 0
def healthS (s : St) (f : Int) : St := if healthE s f = 0 then ⟨s.mode, s.source, s.hold, f, s.epoch + 1⟩ else St.zero
end Go.Proofs.Ythhellgaafbokaa.Reg
