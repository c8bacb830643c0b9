/-
  The bank in memory: a struct (words, touches) in block g, its words in block h; contracts of package bank's calls. Conditions stand at each. By an AI agent.
-/
import Derived.Test.YthcaagkgddeabaaProg
import Derived.Test.YthcaagkgddeabaaBase
import Derived.WalkKit
import Derived.WalkSpells
import Derived.Lib.Hide
import Derived.Deep.QuietTactic
import Derived.BigQuiet
import Derived.Laws.LoneSync
namespace Go.Proofs.Ythcaagkgddeabaa.Bank
set_option linter.unusedVariables false
set_option linter.unusedSimpArgs false
open Go Go.RowKit Go.Proofs.Ythcaagkgddeabaa.Base

abbrev TB : TypeId := 98
abbrev TW : TypeId := 32
structure BankAt (w : World) (g h : Nat) (ws : List Int) (t : Int) : Prop where
  head : Blk w g 98 #[.slice (some ⟨h, 0, none⟩) ws.length ws.length, .int .i64 t]
  row : Blk w h 32 (ws.map (Value.int .u64)).toArray
  len : ws.length ≤ 1048576
  fit : ∀ x ∈ ws, 0 ≤ x ∧ x ≤ 18446744073709551615
theorem BankAt.ne {w : World} {g h : Nat} {ws : List Int} {t : Int} (b : BankAt w g h ws t) : g ≠ h := by
  rintro rfl
  have h1 := b.head
  have h2 := b.row
  unfold Blk at h1 h2
  rw [h1] at h2
  injection h2 with h2
  injection h2 with _ ht _
  exact absurd ht (by decide)
theorem BankAt.below {w w' : World} {g h : Nat} {ws : List Int} {t : Int} (b : BankAt w g h ws t) (hb : Below w.heap.size w w') : BankAt w' g h ws t := ⟨b.head.bl hb, b.row.bl hb, b.len, b.fit⟩
theorem BankAt.drewN {w : World} {g h : Nat} {ws : List Int} {t : Int} (b : BankAt w g h ws t) (n : Nat) : BankAt (w.drewN n) g h ws t := ⟨b.head, b.row, b.len, b.fit⟩
theorem BankAt.other {w w' : World} {g h g' h' : Nat} {ws : List Int} {t : Int} (b : BankAt w g h ws t) (q : Ex2 g' h' w w') (h1 : g ≠ g') (h2 : g ≠ h') (h3 : h ≠ g') (h4 : h ≠ h') : BankAt w' g h ws t :=
  ⟨q.blk b.head h1 h2, q.blk b.row h3 h4, b.len, b.fit⟩
theorem BankAt.touched {w : World} {g h : Nat} {ws : List Int} {t : Int} (b : BankAt w g h ws t) (u : Int) : BankAt (w.setCell ⟨g, 1, none⟩ (.int .i64 u)) g h ws u :=
  ⟨by have := b.head.set_ 1 (.int .i64 u); simpa using this, b.row.far (p := ⟨g, 1, none⟩) (Ne.symm b.ne) _, b.len, b.fit⟩
theorem BankAt.stored {w : World} {g h : Nat} {ws : List Int} {t : Int} (b : BankAt w g h ws t) (i : Nat) (x : Int) (hx : 0 ≤ x ∧ x ≤ 18446744073709551615) : BankAt (w.setCell ⟨h, i, none⟩ (.int .u64 x)) g h (ws.set i x) t :=
  ⟨by rw [List.length_set]; exact b.head.far (p := ⟨h, i, none⟩) b.ne _, by
    have := b.row.set_ i (.int .u64 x)
    have e : ((ws.map (Value.int .u64)).toArray.setIfInBounds i (.int .u64 x)) = ((ws.set i x).map (Value.int .u64)).toArray := by
      rw [List.setIfInBounds_toArray, List.map_set]
    rwa [e] at this, by rw [List.length_set]; exact b.len, fun y hy => by
    rcases List.mem_or_eq_of_mem_set hy with h1 | h1
    · exact b.fit y h1
    · subst h1; exact hx⟩
theorem BankAt.word {w : World} {g h : Nat} {ws : List Int} {t : Int} (b : BankAt w g h ws t) {i : Nat} (hi : i < ws.length) : w.cell? ⟨h, i, none⟩ = some (.int .u64 (nth ws i)) := by
  rw [b.row.cell i]
  simp [nth, List.getD_eq_getElem?_getD, List.getElem?_eq_getElem hi]
theorem BankAt.range {w : World} {g h : Nat} {ws : List Int} {t : Int} (b : BankAt w g h ws t) (i : Nat) : 0 ≤ nth ws i ∧ nth ws i ≤ 18446744073709551615 := by
  by_cases hi : i < ws.length
  · exact b.fit _ (nth_mem hi)
  · have : nth ws i = 0 := by unfold nth; rw [List.getD_eq_getElem?_getD, List.getElem?_eq_none (by omega)]; rfl
    omega

def inW (ws : List Int) (at_ : Int) : Prop := 0 ≤ at_ ∧ at_ < ws.length
instance (ws : List Int) (at_ : Int) : Decidable (inW ws at_) := inferInstanceAs (Decidable (_ ∧ _))
/-- what is told of an access: 0, or 10 -/
def errF (ws : List Int) (at_ : Int) : Int := if inW ws at_ then 0 else 10
def wordF (ws : List Int) (at_ : Int) : Int := if inW ws at_ then nth ws at_.toNat else 0
def tickF (ws : List Int) (at_ t : Int) : Int := if inW ws at_ then IntKind.i64.wrap (t + 1) else t
def setF (ws : List Int) (at_ x : Int) : List Int := if inW ws at_ then ws.set at_.toNat x else ws
def casB (ws : List Int) (at_ o : Int) : Bool := decide (inW ws at_) && wordF ws at_ == o

theorem add64_any (g : Nat) (t d : Int) (w : World) (hc : w.cell? ⟨g, 1, none⟩ = some (.int .i64 t)) (hf : w.frozen? ⟨g, 1, none⟩ = false) :
    Calls Try.prog 73 #[.pointer (some ⟨g, 1, none⟩), .int .i64 d] w fun e w' => e = .returned (.int .i64 (IntKind.i64.wrap (t + d))) ∧ w' = w.setCell ⟨g, 1, none⟩ (.int .i64 (IntKind.i64.wrap (t + d))) := by
  have hs : (Op.intArith .add .i64 t d).run Try.prog w = .ok (.int .i64 (IntKind.i64.wrap (t + d))) w := by simp [Op.intArith]
  have hadd := run_call_add (P := Try.prog) Try.func88 (by kernel_rfl) (by kernel_rfl) (by kernel_rfl) .i64 (by kernel_rfl) hc hf hs
  generalize IntKind.i64.wrap (t + d) = r at *
  clear hs
  go_enter Try.func73, Try.ntmps73
  go_wp2
  go_ret
  exact ⟨rfl, rfl⟩

theorem has_in (g h : Nat) (ws : List Int) (t at_ : Int) (v : Value) (w : World) (hb : BankAt w g h ws t) (hi : Ints w .i64 v [at_]) (hin : inW ws at_) :
    Calls Try.prog 55 #[.pointer (some ⟨g, 0, none⟩), v] w fun e w' => e = .returned (.int .i64 0) ∧ w = w' := by
  obtain ⟨A, c, rfl, hl, hx⟩ := hi.form
  obtain ⟨b, o, rfl, hbl, hc⟩ := hx (by simp)
  have c0 := hc 0 (by simp)
  rw [show nth [at_] 0 = at_ from rfl] at c0
  simp only [Nat.add_zero] at c0
  have cb := hb.head.cell 0
  simp only [List.getElem?_toArray, List.getElem?_cons_zero] at cb
  have hlen := hb.len
  obtain ⟨h0, h1⟩ := hin
  clear hx hc hi hb hl
  go_enter Try.func55, Try.ntmps55
  go_wp2_with fail
  go_loop [11] (fun i => ∃ k : Nat, k ≤ 1 ∧ i = .int .i64 k) (fun i => 1 - (intOf i).toNat)
  case atStart => exact ⟨0, by omega, rfl⟩
  case round =>
    obtain ⟨k, hk, rfl⟩ := hrel
    by_cases hk0 : k = 0
    · subst hk0
      go_wp2_with fail
      go_round
      case rel => exact ⟨1, by omega, by go_num⟩
      case measure => simp [intOf]
    · have : k = 1 := by omega
      subst this
      go_wp2_with fail
      go_ret
      exact ⟨rfl, rfl⟩
theorem has_out (g h : Nat) (ws : List Int) (t at_ : Int) (v : Value) (w : World) (hb : BankAt w g h ws t) (hi : Ints w .i64 v [at_]) (hin : ¬ inW ws at_) :
    Calls Try.prog 55 #[.pointer (some ⟨g, 0, none⟩), v] w fun e w' => e = .returned (.int .i64 10) ∧ w = w' := by
  obtain ⟨A, c, rfl, hl, hx⟩ := hi.form
  obtain ⟨b, o, rfl, hbl, hc⟩ := hx (by simp)
  have c0 := hc 0 (by simp)
  rw [show nth [at_] 0 = at_ from rfl] at c0
  simp only [Nat.add_zero] at c0
  have cb := hb.head.cell 0
  simp only [List.getElem?_toArray, List.getElem?_cons_zero] at cb
  have hlen := hb.len
  unfold inW at hin
  clear hx hc hi hb hl
  by_cases h0 : at_ < 0
  · clear hin
    go_enter Try.func55, Try.ntmps55
    go_wp2_with fail
    refine wp_loop_rounds 1 ?_
    rw [rounds_succ]
    go_wp2_with fail
    go_ret
    exact ⟨rfl, rfl⟩
  · have h1 : (ws.length : Int) ≤ at_ := by omega
    clear hin
    go_enter Try.func55, Try.ntmps55
    go_wp2_with fail
    refine wp_loop_rounds 1 ?_
    rw [rounds_succ]
    go_wp2_with fail
    go_ret
    exact ⟨rfl, rfl⟩
theorem has_nil (v : Value) (w : World) :
    Calls Try.prog 55 #[.pointer none, v] w fun e w' => e = .returned (.int .i64 2) ∧ w = w' := by
  go_enter Try.func55, Try.ntmps55
  go_wp2_with fail
  go_ret
  exact ⟨rfl, rfl⟩

theorem touch_in (g h : Nat) (ws : List Int) (t at_ : Int) (w : World) (hb : BankAt w g h ws t) (hin : inW ws at_) :
    Calls Try.prog 51 #[.pointer (some ⟨g, 0, none⟩), .int .i64 at_] w fun e w' => e = .returned (.tuple #[.pointer (some ⟨h, at_.toNat, none⟩), .int .i64 0]) ∧ BankAt w' g h ws (IntKind.i64.wrap (t + 1)) ∧ Ex2 g h w w' := by
  have hlen := hb.len
  have hin' := hin
  obtain ⟨h0, h1⟩ := hin'
  have HB := Lib.hid hb
  have HIN := Lib.hid hin
  clear hb hin
  go_enter Try.func51, Try.ntmps51
  go_wp2_with fail
  have hw1 : Below w.heap.size w (w.alloc (.cells #[.int .i64 at_] 3)) := (Below.refl _ _).alloc (Nat.le_refl _) _
  have HB1 := Lib.hid (HB.out.below hw1)
  refine (has_in g h ws t at_ _ _ HB1.out (ints_new w 3 .i64 [at_] (by simp [maxLen]) _) HIN.out).mono ?_; rintro e w' ⟨rfl, rfl⟩
  have HE1 := Lib.hid (Ex2.of_below (g := g) (h := h) hw1)
  clear hw1
  generalize w.alloc (.cells #[.int .i64 at_] 3) = w1 at *
  go_wp2_with fail
  refine (add64_any g t 1 _ (by rw [HB1.out.head.cell 1]; rfl) (HB1.out.head.frozen 1)).mono ?_; rintro e w2 ⟨rfl, hw2⟩
  have HB2 := Lib.hid (HB1.out.touched (IntKind.i64.wrap (t + 1)))
  rw [← hw2] at HB2
  have HE2 := Lib.hid (HE1.out.setCell (q := ⟨g, 1, none⟩) (.inl rfl) (.int .i64 (IntKind.i64.wrap (t + 1))))
  rw [← hw2] at HE2
  clear hw2
  have cb := HB2.out.head.cell 0
  simp only [List.getElem?_toArray, List.getElem?_cons_zero] at cb
  go_wp2_with fail
  go_ret2
  exact ⟨rfl, HB2.out, HE2.out⟩
theorem touch_out (g h : Nat) (ws : List Int) (t at_ : Int) (w : World) (hb : BankAt w g h ws t) (hin : ¬ inW ws at_) :
    Calls Try.prog 51 #[.pointer (some ⟨g, 0, none⟩), .int .i64 at_] w fun e w' => e = .returned (.tuple #[.pointer none, .int .i64 10]) ∧ Below w.heap.size w w' := by
  have HB := Lib.hid hb
  have HIN := Lib.hid hin
  clear hb hin
  go_enter Try.func51, Try.ntmps51
  go_wp2_with fail
  have hw1 : Below w.heap.size w (w.alloc (.cells #[.int .i64 at_] 3)) := (Below.refl _ _).alloc (Nat.le_refl _) _
  refine (has_out g h ws t at_ _ _ (HB.out.below hw1) (ints_new w 3 .i64 [at_] (by simp [maxLen]) _) HIN.out).mono ?_; rintro e w' ⟨rfl, rfl⟩
  have HE1 := Lib.hid hw1
  clear hw1
  generalize w.alloc (.cells #[.int .i64 at_] 3) = w1 at *
  go_wp2_with fail
  go_ret2
  exact ⟨rfl, HE1.out⟩
theorem touch_nil (at_ : Int) (w : World) :
    Calls Try.prog 51 #[.pointer none, .int .i64 at_] w fun e w' => e = .returned (.tuple #[.pointer none, .int .i64 2]) ∧ Below w.heap.size w w' := by
  go_enter Try.func51, Try.ntmps51
  go_wp2_with fail
  refine (has_nil _ _).mono ?_; rintro e w' ⟨rfl, rfl⟩
  go_wp2_with fail
  go_ret2
  exact ⟨rfl, (Below.refl _ _).alloc (Nat.le_refl _) _⟩

theorem errF_in {ws : List Int} {at_ : Int} (h : inW ws at_) : errF ws at_ = 0 := if_pos h
theorem errF_out {ws : List Int} {at_ : Int} (h : ¬ inW ws at_) : errF ws at_ = 10 := if_neg h
theorem wordF_in {ws : List Int} {at_ : Int} (h : inW ws at_) : wordF ws at_ = nth ws at_.toNat := if_pos h
theorem wordF_out {ws : List Int} {at_ : Int} (h : ¬ inW ws at_) : wordF ws at_ = 0 := if_neg h
theorem tickF_in {ws : List Int} {at_ t : Int} (h : inW ws at_) : tickF ws at_ t = IntKind.i64.wrap (t + 1) := if_pos h
theorem tickF_out {ws : List Int} {at_ t : Int} (h : ¬ inW ws at_) : tickF ws at_ t = t := if_neg h
theorem setF_in {ws : List Int} {at_ x : Int} (h : inW ws at_) : setF ws at_ x = ws.set at_.toNat x := if_pos h
theorem setF_out {ws : List Int} {at_ x : Int} (h : ¬ inW ws at_) : setF ws at_ x = ws := if_neg h
theorem casB_out {ws : List Int} {at_ o : Int} (h : ¬ inW ws at_) : casB ws at_ o = false := by simp [casB, h]
theorem casB_in {ws : List Int} {at_ o : Int} (h : inW ws at_) : casB ws at_ o = (nth ws at_.toNat == o) := by simp [casB, h, wordF_in h]

theorem Load_any (g h : Nat) (ws : List Int) (t at_ : Int) (w : World) (hb : BankAt w g h ws t) :
    Calls Try.prog 37 #[.pointer (some ⟨g, 0, none⟩), .int .i64 at_] w fun e w' => e = .returned (.tuple #[.int .u64 (wordF ws at_), .int .i64 (errF ws at_)]) ∧ BankAt w' g h ws (tickF ws at_ t) ∧ Ex2 g h w w' := by
  by_cases hin : inW ws at_
  · rw [wordF_in hin, errF_in hin, tickF_in hin]
    have HIN := Lib.hid hin
    clear hin
    go_enter Try.func37, Try.ntmps37
    go_wp2_with fail
    refine (touch_in g h ws t at_ _ hb HIN.out).mono ?_; rintro e w1 ⟨rfl, hb1, he1⟩
    have hd := run_call_load (P := Try.prog) Try.func56 (by kernel_rfl) (by kernel_rfl) (by kernel_rfl) .u64 (by kernel_rfl) (hb1.word (i := at_.toNat) (by have := HIN.out.1; have := HIN.out.2; omega))
    have HB1 := Lib.hid hb1
    have HE1 := Lib.hid he1
    clear hb1 he1 hb
    go_wp2_with fail
    go_ret2
    exact ⟨rfl, HB1.out, HE1.out⟩
  · rw [wordF_out hin, errF_out hin, tickF_out hin]
    have HIN := Lib.hid hin
    clear hin
    have HB := Lib.hid hb
    clear hb
    go_enter Try.func37, Try.ntmps37
    go_wp2_with fail
    refine (touch_out g h ws t at_ _ HB.out HIN.out).mono ?_; rintro e w1 ⟨rfl, hw1⟩
    go_wp2_with fail
    go_ret2
    exact ⟨rfl, HB.out.below hw1, Ex2.of_below hw1⟩
theorem Load_nil (at_ : Int) (w : World) :
    Calls Try.prog 37 #[.pointer none, .int .i64 at_] w fun e w' => e = .returned (.tuple #[.int .u64 0, .int .i64 2]) ∧ Below w.heap.size w w' := by
  go_enter Try.func37, Try.ntmps37
  go_wp2_with fail
  refine (touch_nil at_ _).mono ?_; rintro e w1 ⟨rfl, hw1⟩
  go_wp2_with fail
  go_ret2
  exact ⟨rfl, hw1⟩

theorem Store_any (g h : Nat) (ws : List Int) (t at_ x : Int) (w : World) (hb : BankAt w g h ws t) (hx : 0 ≤ x ∧ x ≤ 18446744073709551615) :
    Calls Try.prog 17 #[.pointer (some ⟨g, 0, none⟩), .int .i64 at_, .int .u64 x] w fun e w' => e = .returned (.int .i64 (errF ws at_)) ∧ BankAt w' g h (setF ws at_ x) (tickF ws at_ t) ∧ Ex2 g h w w' := by
  have HX := Lib.hid hx
  clear hx
  by_cases hin : inW ws at_
  · rw [setF_in hin, errF_in hin, tickF_in hin]
    have HIN := Lib.hid hin
    clear hin
    go_enter Try.func17, Try.ntmps17
    go_wp2_with fail
    refine (touch_in g h ws t at_ _ hb HIN.out).mono ?_; rintro e w1 ⟨rfl, hb1, he1⟩
    have hd := run_call_store (P := Try.prog) Try.func52 (by kernel_rfl) (by kernel_rfl) (by kernel_rfl) (by kernel_rfl) (k := .u64) (y := x) (hb1.word (i := at_.toNat) (by have := HIN.out.1; have := HIN.out.2; omega)) (hb1.row.frozen _)
    have HB1 := Lib.hid hb1
    have HE1 := Lib.hid he1
    clear hb1 he1 hb
    go_wp2_with fail
    go_ret
    exact ⟨rfl, HB1.out.stored _ _ HX.out, HE1.out.setCell (.inr rfl) _⟩
  · rw [setF_out hin, errF_out hin, tickF_out hin]
    have HIN := Lib.hid hin
    clear hin
    have HB := Lib.hid hb
    clear hb
    go_enter Try.func17, Try.ntmps17
    go_wp2_with fail
    refine (touch_out g h ws t at_ _ HB.out HIN.out).mono ?_; rintro e w1 ⟨rfl, hw1⟩
    go_wp2_with fail
    go_ret
    exact ⟨rfl, HB.out.below hw1, Ex2.of_below hw1⟩
theorem Store_nil (at_ x : Int) (w : World) :
    Calls Try.prog 17 #[.pointer none, .int .i64 at_, .int .u64 x] w fun e w' => e = .returned (.int .i64 2) ∧ Below w.heap.size w w' := by
  go_enter Try.func17, Try.ntmps17
  go_wp2_with fail
  refine (touch_nil at_ _).mono ?_; rintro e w1 ⟨rfl, hw1⟩
  go_wp2_with fail
  go_ret
  exact ⟨rfl, hw1⟩

theorem u64_wrap_in {x : Int} (h : 0 ≤ x ∧ x ≤ 18446744073709551615) : IntKind.u64.wrap x = x := by
  rw [IntKind.wrap_u64]; omega
theorem u64_wrap_range (x : Int) : 0 ≤ IntKind.u64.wrap x ∧ IntKind.u64.wrap x ≤ 18446744073709551615 := by
  rw [IntKind.wrap_u64]; omega
theorem u64_add_sub {x y : Int} (h : 0 ≤ x ∧ x ≤ 18446744073709551615) : IntKind.u64.wrap (IntKind.u64.wrap (x + y) - y) = x := by
  rw [IntKind.wrap_u64, IntKind.wrap_u64]; omega

theorem load64_any (g : Nat) (t : Int) (w : World) (hc : w.cell? ⟨g, 1, none⟩ = some (.int .i64 t)) :
    Calls Try.prog 50 #[.pointer (some ⟨g, 1, none⟩)] w fun e w' => e = .returned (.int .i64 t) ∧ w = w' := by
  have hd := run_call_load (P := Try.prog) Try.func72 (by kernel_rfl) (by kernel_rfl) (by kernel_rfl) .i64 (by kernel_rfl) hc
  go_enter Try.func50, Try.ntmps50
  go_wp2
  go_ret
  exact ⟨rfl, rfl⟩
theorem Touches_any (g h : Nat) (ws : List Int) (t : Int) (w : World) (hb : BankAt w g h ws t) :
    Calls Try.prog 16 #[.pointer (some ⟨g, 0, none⟩)] w fun e w' => e = .returned (.int .i64 t) ∧ w = w' := by
  have c1 := hb.head.cell 1
  simp only [List.getElem?_toArray, List.getElem?_cons_succ, List.getElem?_cons_zero] at c1
  clear hb
  go_enter Try.func16, Try.ntmps16
  go_wp2_with fail
  refine (load64_any g t _ c1).mono ?_; rintro e w' ⟨rfl, rfl⟩
  go_wp2_with fail
  go_ret
  exact ⟨rfl, rfl⟩
theorem Touches_nil (w : World) :
    Calls Try.prog 16 #[.pointer none] w fun e w' => e = .returned (.int .i64 0) ∧ w = w' := by
  go_enter Try.func16, Try.ntmps16
  go_wp2_with fail
  go_ret
  exact ⟨rfl, rfl⟩
theorem Peek_any (g h : Nat) (ws : List Int) (t at_ : Int) (w : World) (hb : BankAt w g h ws t) :
    Calls Try.prog 25 #[.pointer (some ⟨g, 0, none⟩), .int .i64 at_] w fun e w' => e = .returned (.int .u64 (wordF ws at_)) ∧ Below w.heap.size w w' := by
  have hw1 : Below w.heap.size w (w.alloc (.cells #[.int .i64 at_] 3)) := (Below.refl _ _).alloc (Nat.le_refl _) _
  by_cases hin : inW ws at_
  · rw [wordF_in hin]
    have HB1 := Lib.hid (hb.below hw1)
    have HIN := Lib.hid hin
    obtain ⟨h0, h1⟩ := hin
    have hlen := hb.len
    clear hb
    go_enter Try.func25, Try.ntmps25
    go_wp2_with fail
    refine (has_in g h ws t at_ _ _ HB1.out (ints_new w 3 .i64 [at_] (by simp [maxLen]) _) HIN.out).mono ?_; rintro e w' ⟨rfl, rfl⟩
    have HE1 := Lib.hid hw1
    clear hw1
    generalize w.alloc (.cells #[.int .i64 at_] 3) = w1 at *
    have cb := HB1.out.head.cell 0
    simp only [List.getElem?_toArray, List.getElem?_cons_zero] at cb
    have hd := run_call_load (P := Try.prog) Try.func56 (by kernel_rfl) (by kernel_rfl) (by kernel_rfl) .u64 (by kernel_rfl) (HB1.out.word (i := at_.toNat) (by omega))
    go_wp2_with fail
    go_ret
    exact ⟨rfl, HE1.out⟩
  · rw [wordF_out hin]
    have HIN := Lib.hid hin
    have HB1 := Lib.hid (hb.below hw1)
    clear hin hb
    go_enter Try.func25, Try.ntmps25
    go_wp2_with fail
    refine (has_out g h ws t at_ _ _ HB1.out (ints_new w 3 .i64 [at_] (by simp [maxLen]) _) HIN.out).mono ?_; rintro e w' ⟨rfl, rfl⟩
    have HE1 := Lib.hid hw1
    clear hw1
    generalize w.alloc (.cells #[.int .i64 at_] 3) = w1 at *
    go_wp2_with fail
    go_ret
    exact ⟨rfl, HE1.out⟩
theorem Peek_nil (at_ : Int) (w : World) :
    Calls Try.prog 25 #[.pointer none, .int .i64 at_] w fun e w' => e = .returned (.int .u64 0) ∧ Below w.heap.size w w' := by
  go_enter Try.func25, Try.ntmps25
  go_wp2_with fail
  refine (has_nil _ _).mono ?_; rintro e w' ⟨rfl, rfl⟩
  go_wp2_with fail
  go_ret
  exact ⟨rfl, (Below.refl _ _).alloc (Nat.le_refl _) _⟩

theorem word_info : (Try.prog.info? 32).map (fun i => (i.zero, i.size, i.bytes)) = some (some (.int .u64 0), 1, 8) := by kernel_rfl
/-- so many words, all of them 0 -/
def zeros (n : Nat) : List Int := List.replicate n 0
set_option maxRecDepth 100000 in
theorem make_words (n : Nat) (hn : n ≤ 1048576) (w : World) :
    (Instr.makeSlice 26 (.int .i64 (n : Int)) (.int .i64 (n : Int))).run Try.prog w = .ok (.slice (some ⟨w.heap.size, 0, none⟩) n n) (w.alloc (.cells ((zeros n).map (Value.int .u64)).toArray 32)) := by
  obtain ⟨i0, hi, hz0, hz1, hz2⟩ := info_parts word_info
  have hr := run_make (P := Try.prog) w 26 32 i0 _ Try.underlying26 hi hz0 .i64 .i64 n n (by omega) (by omega) (by rw [hz2]; omega) (by omega)
  rw [hr, hz1]
  simp only [Int.toNat_natCast, Nat.mul_one]
  congr 3
  apply Array.toList_inj.1
  rw [show (Value.int IntKind.u64 0).cells = #[.int .u64 0] from rfl, toList_madeCells_one]
  simp [zeros]
theorem zeros_fit (n : Nat) : ∀ x ∈ zeros n, 0 ≤ x ∧ x ≤ 18446744073709551615 := by
  intro x hx
  have := List.eq_of_mem_replicate hx
  omega
theorem zeros_len (n : Nat) : (zeros n).length = n := by simp [zeros]

theorem New_in (n : Nat) (h1 : 1 ≤ n) (h2 : n ≤ 1048576) (w : World) :
    Calls Try.prog 7 #[.int .i64 n] w fun e w' => e = .returned (.tuple #[.pointer (some ⟨w.heap.size + 1, 0, none⟩), .int .i64 0]) ∧ BankAt w' (w.heap.size + 1) w.heap.size (zeros n) 0 ∧ Below w.heap.size w w' ∧ w'.heap.size = w.heap.size + 2 := by
  have hmk := make_words n h2 w
  have hi1 : ¬ (n : Int) < 1 := by omega
  have hi2 : ¬ (n : Int) > 1048576 := by omega
  have hbk : BankAt ((w.alloc (.cells ((zeros n).map (Value.int .u64)).toArray 32)).alloc (.cells #[.slice (some ⟨w.heap.size, 0, none⟩) n n, .int .i64 0] 98)) (w.heap.size + 1) w.heap.size (zeros n) 0 := by
    refine ⟨?_, (Blk.new w _ _).alloc _, by rw [zeros_len]; exact h2, zeros_fit n⟩
    rw [zeros_len]
    have := Blk.new (w.alloc (.cells ((zeros n).map (Value.int .u64)).toArray 32)) 98 #[.slice (some ⟨w.heap.size, 0, none⟩) n n, .int .i64 0]
    rwa [World.size_alloc] at this
  have HBK := Lib.hid hbk
  clear hbk
  go_enter Try.func7, Try.ntmps7
  go_wp2_with fail
  go_ret2
  exact ⟨rfl, HBK.out, ((Below.refl _ _).alloc (Nat.le_refl _) _).alloc (by simp) _, by simp⟩
theorem New_out (n : Int) (hn : n < 1 ∨ 1048576 < n) (w : World) :
    Calls Try.prog 7 #[.int .i64 n] w fun e w' => e = .returned (.tuple #[.pointer none, .int .i64 10]) ∧ w = w' := by
  rcases hn with hn | hn
  · go_enter Try.func7, Try.ntmps7
    go_wp2_with fail
    go_ret2
    exact ⟨rfl, rfl⟩
  · have hn1 : ¬ n < 1 := by omega
    go_enter Try.func7, Try.ntmps7
    go_wp2_with fail
    go_ret2
    exact ⟨rfl, rfl⟩
end Go.Proofs.Ythcaagkgddeabaa.Bank
