/-
  Law 6: a config in memory, what a judge holds; whether numbers are within bounds. Conditions stand at each. By an AI agent.
-/
import Derived.Test.YtgdfhgoenemanaaDoorPlB
import Derived.Test.YtgdfhgoenemanaaDoorSch
import Derived.Maps.OwnSet
import Derived.Maps.Views
namespace Go.Proofs.YtgdfhgoenemanaaDoor.Plan
set_option linter.unusedVariables false
set_option linter.unusedSimpArgs false
open Go Go.RowKit Go.Proofs.YtgdfhgoenemanaaDoor.Base
structure Tc where
  nm : ByteArray
  words : Int
  depth : Int
structure Cf where
  tasks : Int
  n : Nat
  l : Nat → Tc
  tries : Int
  log : Int
def inB (x lo hi : Int) : Bool := decide (lo ≤ x ∧ x ≤ hi)
def sureE (b : Bool) (e : Int) : Int := if b then 0 else e
theorem between_any (x lo hi : Int) (w : World) : Calls Tryd.prog 33 #[.int .i64 x, .int .i64 lo, .int .i64 hi] w fun e w' => e = .returned (.bool (inB x lo hi)) ∧ w = w' := by
  by_cases h1 : x ≥ lo
  · have k1 : decide (x ≥ lo) = true := decide_eq_true h1
    by_cases h2 : x ≤ hi
    · have k2 : decide (x ≤ hi) = true := decide_eq_true h2
      have HR := Lib.hid (show inB x lo hi = true from decide_eq_true ⟨h1, h2⟩)
      clear h1 h2
      go_enter Tryd.func33, Tryd.ntmps33
      go_wp2_with fail
      go_ret
      exact ⟨by rw [HR.out]; rfl, rfl⟩
    · have k2 : decide (x ≤ hi) = false := decide_eq_false h2
      have HR := Lib.hid (show inB x lo hi = false from decide_eq_false (fun h => h2 h.2))
      clear h1 h2
      go_enter Tryd.func33, Tryd.ntmps33
      go_wp2_with fail
      go_ret
      exact ⟨by rw [HR.out]; rfl, rfl⟩
  · have k1 : decide (x ≥ lo) = false := decide_eq_false h1
    have HR := Lib.hid (show inB x lo hi = false from decide_eq_false (fun h => h1 h.1))
    clear h1
    go_enter Tryd.func33, Tryd.ntmps33
    go_wp2_with fail
    go_ret
    exact ⟨by rw [HR.out]; rfl, rfl⟩
theorem within_any (x lo hi : Int) (w : World) : Calls Tryd.prog 23 #[.int .i64 x, .int .i64 lo, .int .i64 hi] w fun e w' => e = .returned (.bool (inB x lo hi)) ∧ w = w' := by
  by_cases h1 : x ≥ lo
  · have k1 : decide (x ≥ lo) = true := decide_eq_true h1
    by_cases h2 : x ≤ hi
    · have k2 : decide (x ≤ hi) = true := decide_eq_true h2
      have HR := Lib.hid (show inB x lo hi = true from decide_eq_true ⟨h1, h2⟩)
      clear h1 h2
      go_enter Tryd.func23, Tryd.ntmps23
      go_wp2_with fail
      go_ret
      exact ⟨by rw [HR.out]; rfl, rfl⟩
    · have k2 : decide (x ≤ hi) = false := decide_eq_false h2
      have HR := Lib.hid (show inB x lo hi = false from decide_eq_false (fun h => h2 h.2))
      clear h1 h2
      go_enter Tryd.func23, Tryd.ntmps23
      go_wp2_with fail
      go_ret
      exact ⟨by rw [HR.out]; rfl, rfl⟩
  · have k1 : decide (x ≥ lo) = false := decide_eq_false h1
    have HR := Lib.hid (show inB x lo hi = false from decide_eq_false (fun h => h1 h.1))
    clear h1
    go_enter Tryd.func23, Tryd.ntmps23
    go_wp2_with fail
    go_ret
    exact ⟨by rw [HR.out]; rfl, rfl⟩
theorem sure_any (b : Bool) (x : Int) (w : World) : Calls Tryd.prog 32 #[.bool b, .int .i64 x] w fun e w' => e = .returned (.int .i64 (sureE b x)) ∧ w = w' := by
  cases b with
  | true =>
    go_enter Tryd.func32, Tryd.ntmps32
    go_wp2_with fail
    go_ret
    exact ⟨rfl, rfl⟩
  | false =>
    go_enter Tryd.func32, Tryd.ntmps32
    go_wp2_with fail
    go_ret
    exact ⟨rfl, rfl⟩
/-- topics in memory -/
def Tcs (w : World) (A : Option Addr) (n : Nat) (l : Nat → Tc) : Prop :=
  0 < n → ∃ b o, A = some ⟨b, o, none⟩ ∧ b < w.heap.size ∧ ∀ i : Nat, i < n →
    w.cell? ⟨b, o + i * 3, none⟩ = some (.string (l i).nm) ∧ w.cell? ⟨b, o + i * 3 + 1, none⟩ = some (.int .i64 (l i).words) ∧ w.cell? ⟨b, o + i * 3 + 2, none⟩ = some (.int .i64 (l i).depth)
theorem Tcs.keep {w w' : World} {A : Option Addr} {n : Nat} {l : Nat → Tc} (h : Tcs w A n l) (hs : w.heap.size ≤ w'.heap.size) (hk : ∀ p : Addr, p.block < w.heap.size → w'.cell? p = w.cell? p) : Tcs w' A n l := fun h0 => by
  obtain ⟨b, o, e, hb, hc⟩ := h h0
  exact ⟨b, o, e, by omega, fun i hi => by
    obtain ⟨c0, c1, c2⟩ := hc i hi
    exact ⟨(hk ⟨b, o + i * 3, none⟩ hb).trans c0, (hk ⟨b, o + i * 3 + 1, none⟩ hb).trans c1, (hk ⟨b, o + i * 3 + 2, none⟩ hb).trans c2⟩⟩
theorem Tcs.bl {w w' : World} {A : Option Addr} {n : Nat} {l : Nat → Tc} (h : Tcs w A n l) (p : Below w.heap.size w w') : Tcs w' A n l := h.keep p.size fun _ hp => p.cell hp
/-- .. which hangs on no block from B on -/
def TcsB (B : Nat) (w : World) (A : Option Addr) (n : Nat) (l : Nat → Tc) : Prop :=
  0 < n → ∃ b o, A = some ⟨b, o, none⟩ ∧ b < B ∧ ∀ i : Nat, i < n →
    w.cell? ⟨b, o + i * 3, none⟩ = some (.string (l i).nm) ∧ w.cell? ⟨b, o + i * 3 + 1, none⟩ = some (.int .i64 (l i).words) ∧ w.cell? ⟨b, o + i * 3 + 2, none⟩ = some (.int .i64 (l i).depth)
theorem TcsB.ex {T : Nat → Prop} {B : Nat} {w w' : World} {A : Option Addr} {n : Nat} {l : Nat → Tc} (h : TcsB B w A n l) (p : Ex T w w') (hT : ∀ b, T b → B ≤ b) : TcsB B w' A n l := fun h0 => by
  obtain ⟨b, o, e, hb, hc⟩ := h h0
  have hn : ¬ T b := fun ht => by have := hT b ht; omega
  exact ⟨b, o, e, hb, fun i hi => by
    obtain ⟨c0, c1, c2⟩ := hc i hi
    exact ⟨p.cell c0 hn, p.cell c1 hn, p.cell c2 hn⟩⟩
theorem Tcs.to_b {w w' : World} {A : Option Addr} {n : Nat} {l : Nat → Tc} (h : Tcs w A n l) (p : Below w.heap.size w w') : TcsB w.heap.size w' A n l := fun h0 => by
  obtain ⟨b, o, e, hb, hc⟩ := h h0
  exact ⟨b, o, e, hb, fun i hi => by
    obtain ⟨c0, c1, c2⟩ := hc i hi
    exact ⟨(p.cell (p := ⟨b, o + i * 3, none⟩) hb).trans c0, (p.cell (p := ⟨b, o + i * 3 + 1, none⟩) hb).trans c1, (p.cell (p := ⟨b, o + i * 3 + 2, none⟩) hb).trans c2⟩⟩
theorem TcsB.tcs {B : Nat} {w : World} {A : Option Addr} {n : Nat} {l : Nat → Tc} (h : TcsB B w A n l) (hB : B ≤ w.heap.size) : Tcs w A n l := fun h0 => by
  obtain ⟨b, o, e, hb, hc⟩ := h h0
  exact ⟨b, o, e, by omega, hc⟩
/-- what a judge holds -/
def jCells (c : Cf) (A : Option Addr) (k mb : Nat) : Array Value := #[.int .i64 c.tasks, .slice A c.n k, .int .i64 c.tries, .int .i64 c.log, .map (some mb)]
theorem tasks_any (j : Nat) (c : Cf) (A : Option Addr) (k mb : Nat) (w : World) (h : Blk w j 73 (jCells c A k mb)) :
    Calls Tryd.prog 25 #[.pointer (some ⟨j, 0, none⟩)] w fun e w' => e = .returned (.int .i64 (sureE (inB c.tasks 1 8) 10)) ∧ w = w' := by
  have c0 := h.cell 0
  simp only [jCells, List.getElem?_toArray, List.getElem?_cons_succ, List.getElem?_cons_zero] at c0
  clear h
  go_enter Tryd.func25, Tryd.ntmps25
  go_wp2_with (first
    | (go_at_call 33; refine (between_any _ _ _ _).mono ?_; rintro e w' ⟨rfl, rfl⟩)
    | (go_at_call 32; refine (sure_any _ _ _).mono ?_; rintro e w' ⟨rfl, rfl⟩))
  go_ret
  exact ⟨rfl, rfl⟩
theorem topics_any (j : Nat) (c : Cf) (A : Option Addr) (k mb : Nat) (w : World) (h : Blk w j 73 (jCells c A k mb)) :
    Calls Tryd.prog 26 #[.pointer (some ⟨j, 0, none⟩)] w fun e w' => e = .returned (.int .i64 (sureE (inB c.n 1 64) 12)) ∧ w = w' := by
  have c0 := h.cell 0
  have c1 := h.cell 1
  simp only [jCells, List.getElem?_toArray, List.getElem?_cons_succ, List.getElem?_cons_zero] at c0 c1
  clear h
  go_enter Tryd.func26, Tryd.ntmps26
  go_wp2_with (first
    | (go_at_call 33; refine (between_any _ _ _ _).mono ?_; rintro e w' ⟨rfl, rfl⟩)
    | (go_at_call 32; refine (sure_any _ _ _).mono ?_; rintro e w' ⟨rfl, rfl⟩))
  go_ret
  exact ⟨rfl, rfl⟩
theorem rest_any (j : Nat) (c : Cf) (A : Option Addr) (k mb : Nat) (w : World) (h : Blk w j 73 (jCells c A k mb)) :
    Calls Tryd.prog 27 #[.pointer (some ⟨j, 0, none⟩)] w fun e w' => e = .returned (.int .i64 (sureE (inB c.tries 1 16 && inB c.log 1 64) 10)) ∧ w = w' := by
  have c0 := h.cell 0
  have c2 := h.cell 2
  have c3 := h.cell 3
  simp only [jCells, List.getElem?_toArray, List.getElem?_cons_succ, List.getElem?_cons_zero] at c0 c2 c3
  clear h
  obtain ⟨b1, hb1⟩ : ∃ b, inB c.tries 1 16 = b := ⟨_, rfl⟩
  obtain ⟨b2, hb2⟩ : ∃ b, inB c.log 1 64 = b := ⟨_, rfl⟩
  have HC1 := Lib.hid (fun W => (between_any c.tries 1 16 W))
  have HC2 := Lib.hid (fun W => (between_any c.log 1 64 W))
  rw [hb1] at HC1 ⊢
  rw [hb2] at HC2 ⊢
  clear hb1 hb2
  cases b1 with
  | false =>
    go_enter Tryd.func27, Tryd.ntmps27
    go_wp2_with (first
      | (go_at_call 33; refine (HC1.out _).mono ?_; rintro e w' ⟨rfl, rfl⟩)
      | (go_at_call 32; refine (sure_any _ _ _).mono ?_; rintro e w' ⟨rfl, rfl⟩))
    go_ret
    exact ⟨rfl, rfl⟩
  | true =>
    go_enter Tryd.func27, Tryd.ntmps27
    go_wp2_with fail
    refine (HC1.out _).mono ?_; rintro e w' ⟨rfl, rfl⟩
    go_wp2_with fail
    refine (HC2.out _).mono ?_; rintro e w' ⟨rfl, rfl⟩
    go_wp2_with fail
    refine (sure_any _ _ _).mono ?_; rintro e w' ⟨rfl, rfl⟩
    go_wp2_with fail
    go_ret
    exact ⟨rfl, rfl⟩
end Go.Proofs.YtgdfhgoenemanaaDoor.Plan
