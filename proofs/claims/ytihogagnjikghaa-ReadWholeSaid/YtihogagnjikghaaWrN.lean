/-
  A publishing in memory: how it is made, and how many steps it may do. Conditions stand at each. By an AI agent.
-/
import Derived.Test.YtihogagnjikghaaWr
import Derived.Deep.CutRange
import Derived.Deep.CutBlock
namespace Go.Proofs.Ytihogagnjikghaa.Bank
set_option linter.unusedVariables false
set_option linter.unusedSimpArgs false
open Go Go.RowKit Go.Proofs.Ytihogagnjikghaa.Base

/-- how a publishing stands: how, what is next, how many tries failed, its steps, the sequence, and how many words it has written -/
structure WS where
  how : Int
  next : Int
  had : Int
  steps : Int
  sq : Int
  n : Int
def WS.zero : WS := ⟨0, 0, 0, 0, 0, 0⟩
abbrev TOp : TypeId := 99
/-- its struct's cells -/
def opCs (s : Spot) (tries : Int) (r n cc : Nat) (x : WS) : Array Value :=
  #[.int .i64 x.how, .int .i64 x.next, .int .i64 (tries - x.had), .int .i64 x.steps, .int .i64 s.owners, .int .i64 s.seq, .int .i64 s.first, .int .i64 s.words, .int .i64 s.depth, .slice (some ⟨r, 0, none⟩) n cc, .int .u64 x.sq, .int .i64 x.n]
structure OpAt (w : World) (o r cc : Nat) (s : Spot) (rec : List Int) (tries : Int) (x : WS) : Prop where
  head : Blk w o 99 (opCs s tries r rec.length cc x)
  row : IntsIn w .u64 r cc rec
  ne : o ≠ r
theorem OpAt.ex {T : Nat → Prop} {w w' : World} {o r cc : Nat} {s : Spot} {rec : List Int} {tries : Int} {x : WS} (h : OpAt w o r cc s rec tries x) (p : Ex T w w') (ho : ¬ T o) (hr : ¬ T r) : OpAt w' o r cc s rec tries x :=
  ⟨h.head.ex p ho, h.row.ex p hr, h.ne⟩
theorem OpAt.below {w w' : World} {o r cc : Nat} {s : Spot} {rec : List Int} {tries : Int} {x : WS} (h : OpAt w o r cc s rec tries x) (p : Below w.heap.size w w') : OpAt w' o r cc s rec tries x :=
  ⟨h.head.bl p, h.row.below p, h.ne⟩

theorem opCs_zero (s : Spot) (tries : Int) (r n cc : Nat) : opCs s tries r n cc WS.zero = #[.int .i64 0, .int .i64 0, .int .i64 tries, .int .i64 0, .int .i64 s.owners, .int .i64 s.seq, .int .i64 s.first, .int .i64 s.words, .int .i64 s.depth, .slice (some ⟨r, 0, none⟩) n cc, .int .u64 0, .int .i64 0] := by
  simp [opCs, WS.zero]
theorem WNew_may (s : Spot) (tries : Int) (v : Value) (w : World) (hm : mayF s tries = false) :
    Calls Try.prog 23 #[s.val, v, .int .i64 tries] w fun e w' => e = .returned (.tuple #[.pointer none, .int .i64 10]) ∧ Below w.heap.size w w' := by
  have hr := right_any s tries (w.alloc (.cells #[.int .i64 s.owners, .int .i64 s.seq, .int .i64 s.first, .int .i64 s.words, .int .i64 s.depth] 23))
  rw [hm] at hr
  have HR := Lib.hid hr
  have L0 := Lib.hid ((Below.refl w.heap.size w).alloc (Nat.le_refl _) (.cells #[.int .i64 s.owners, .int .i64 s.seq, .int .i64 s.first, .int .i64 s.words, .int .i64 s.depth] 23))
  clear hr hm
  obtain ⟨ow, sq, fi, wo, de⟩ := s
  unfold Spot.val at *
  simp only at HR L0 ⊢
  go_enter Try.func23, Try.ntmps23
  go_wp2_with fail
  refine HR.out.mono ?_; rintro e w1 ⟨rfl, hb1⟩
  have L1 := Lib.hid (L0.out.trans (hb1.mono (by simp)))
  clear hb1
  go_wp2_with fail
  go_ret2
  exact ⟨rfl, L1.out⟩
theorem WNew_width (s : Spot) (tries : Int) (a : Option Addr) (n c : Nat) (w : World) (hm : mayF s tries = true) (hn : (n : Int) ≠ s.words) :
    Calls Try.prog 23 #[s.val, .slice a n c, .int .i64 tries] w fun e w' => e = .returned (.tuple #[.pointer none, .int .i64 17]) ∧ Below w.heap.size w w' := by
  have hr := right_any s tries (w.alloc (.cells #[.int .i64 s.owners, .int .i64 s.seq, .int .i64 s.first, .int .i64 s.words, .int .i64 s.depth] 23))
  rw [hm] at hr
  have HR := Lib.hid hr
  have L0 := Lib.hid ((Below.refl w.heap.size w).alloc (Nat.le_refl _) (.cells #[.int .i64 s.owners, .int .i64 s.seq, .int .i64 s.first, .int .i64 s.words, .int .i64 s.depth] 23))
  have B0 := Lib.hid (Blk.new w 23 #[.int .i64 s.owners, .int .i64 s.seq, .int .i64 s.first, .int .i64 s.words, .int .i64 s.depth])
  clear hr hm
  obtain ⟨ow, sq, fi, wo, de⟩ := s
  unfold Spot.val at *
  simp only at HR L0 B0 hn ⊢
  have hn1 : ((n : Int) != wo) = true := by simpa using hn
  clear hn
  go_enter Try.func23, Try.ntmps23
  go_wp2_with fail
  refine HR.out.mono ?_; rintro e w1 ⟨rfl, hb1⟩
  have L1 := Lib.hid (L0.out.trans (hb1.mono (by simp)))
  have c3 := (B0.out.bl hb1).cell 3
  simp only [List.getElem?_toArray, List.getElem?_cons_succ, List.getElem?_cons_zero] at c3
  clear hb1
  go_wp2_with fail
  go_ret2
  exact ⟨rfl, L1.out⟩
theorem WNew_in (s : Spot) (tries : Int) (b off n c : Nat) (rec : List Int) (w : World) (hm : mayF s tries = true) (hn : (n : Int) = s.words) (hl : rec.length = n) (hb : b < w.heap.size) (hc : ∀ i : Nat, i < n → w.cell? ⟨b, off + i, none⟩ = some (.int .u64 (nth rec i))) :
    Calls Try.prog 23 #[s.val, .slice (some ⟨b, off, none⟩) n c, .int .i64 tries] w fun e w' => ∃ o r cc, e = .returned (.tuple #[.pointer (some ⟨o, 0, none⟩), .int .i64 0]) ∧ OpAt w' o r cc s rec tries WS.zero ∧ w.heap.size ≤ r ∧ r < o ∧ Below w.heap.size w w' := by
  have hright : s.Right ∧ 1 ≤ tries ∧ tries ≤ 16 := of_decide_eq_true hm
  have hr := right_any s tries (w.alloc (.cells #[.int .i64 s.owners, .int .i64 s.seq, .int .i64 s.first, .int .i64 s.words, .int .i64 s.depth] 23))
  rw [hm] at hr
  have HR := Lib.hid hr
  have L0 := Lib.hid ((Below.refl w.heap.size w).alloc (Nat.le_refl _) (.cells #[.int .i64 s.owners, .int .i64 s.seq, .int .i64 s.first, .int .i64 s.words, .int .i64 s.depth] 23))
  have B0 := Lib.hid (Blk.new w 23 #[.int .i64 s.owners, .int .i64 s.seq, .int .i64 s.first, .int .i64 s.words, .int .i64 s.depth])
  have HC := Lib.hid hc
  have HL := Lib.hid hl
  have hnb : 1 ≤ n ∧ n ≤ 64 := by have := hright.1.1; omega
  have HNB := Lib.hid hnb
  have HBB := Lib.hid hb
  clear hr hm hc hl hnb hright hb
  obtain ⟨ow, sq, fi, wo, de⟩ := s
  unfold Spot.val at *
  simp only at HR L0 B0 hn ⊢
  have hn1 : ((n : Int) != wo) = false := by simpa using hn
  have HN := Lib.hid hn
  clear hn
  go_enter Try.func23, Try.ntmps23
  go_wp2_with fail
  refine HR.out.mono ?_; rintro e w1 ⟨rfl, hb1⟩
  have L1 := Lib.hid (L0.out.trans (hb1.mono (by simp)))
  have B1 := Lib.hid (B0.out.bl hb1)
  have c3 := B1.out.cell 3
  simp only [List.getElem?_toArray, List.getElem?_cons_succ, List.getElem?_cons_zero] at c3
  clear hb1
  go_upto_region 5 with fail
  have hcl := Clone64_any b off n c rec w1.drew HL.out (by have := HNB.out; omega) (by have := HNB.out; omega) (fun i hi => (L1.out.cell (p := ⟨b, off + i, none⟩) HBB.out).trans (HC.out i hi))
  have HCL := Lib.hid hcl
  clear hcl c3
  have hS : Below w1.heap.size w1 w1.drew := (Below.refl _ _).drew
  have hb0 : ∀ x : Held (Below w1.heap.size w1), x.w.cell? ⟨w.heap.size, 0, none⟩ = some (.int .i64 ow) := fun x => (B1.out.bl x.ok).cell 0
  have hb1 : ∀ x : Held (Below w1.heap.size w1), x.w.cell? ⟨w.heap.size, 1, none⟩ = some (.int .i64 sq) := fun x => (B1.out.bl x.ok).cell 1
  have hb2 : ∀ x : Held (Below w1.heap.size w1), x.w.cell? ⟨w.heap.size, 2, none⟩ = some (.int .i64 fi) := fun x => (B1.out.bl x.ok).cell 2
  have hb3 : ∀ x : Held (Below w1.heap.size w1), x.w.cell? ⟨w.heap.size, 3, none⟩ = some (.int .i64 wo) := fun x => (B1.out.bl x.ok).cell 3
  have hb4 : ∀ x : Held (Below w1.heap.size w1), x.w.cell? ⟨w.heap.size, 4, none⟩ = some (.int .i64 de) := fun x => (B1.out.bl x.ok).cell 4
  have hnonempty : Nonempty (Held (Below w1.heap.size w1)) := ⟨⟨w1, Below.refl _ _⟩⟩
  refine drawn_bars (S := Below w1.heap.size w1) [([0, 1, 2, 3], 4), ([5], 6)] [7, 8] (by kernel_rfl) (by kernel_rfl) (by kernel_rfl) rfl hS ?_
  refine Phased.go ?_
  simp only [pick, List.map_cons, List.map_nil, List.getElem?_cons_zero, List.getElem?_cons_succ, Option.getD_some]
  repeat (go_big_quiet_step (fail))
  refine wpQuiet_nil ?_
  go_wp2_with fail
  refine HCL.out.mono ?_; rintro e w2 ⟨r, cc, rfl, hr, hin, hb2⟩
  have HW2 := Lib.hid (bl hS hb2)
  have HR2 := Lib.hid hr
  have HIN := Lib.hid hin
  clear hr hin hb2
  go_wp2_with fail
  refine behind_normal ⟨Below w1.heap.size w1, fun W h => h, HW2.out, ?_⟩
  refine Phased.go ?_
  simp only [pick, List.map_cons, List.map_nil, List.getElem?_cons_zero, List.getElem?_cons_succ, Option.getD_some]
  repeat (go_big_quiet_step (fail))
  refine wpQuiet_nil ?_
  go_wp2_with fail
  refine behind_normal ⟨Below w1.heap.size w1, fun W h => h, HW2.out.alloc HW2.out.size _, ?_⟩
  refine Phased.end_ ?_
  simp only [pick, List.map_cons, List.map_nil, List.getElem?_cons_zero, List.getElem?_cons_succ, Option.getD_some]
  repeat (go_big_quiet_step (fail))
  refine wpQuiet_nil ?_
  go_wp2_with fail
  go_ret2
  have hrl := HIN.out.lt
  have hsz : w.heap.size ≤ w1.heap.size := L1.out.size
  have hr2 : w1.heap.size ≤ r := HR2.out
  refine ⟨w2.heap.size, r, cc, rfl, ⟨?_, HIN.out.below ((Below.refl _ _).alloc (Nat.le_refl _) _), by omega⟩, by omega, hrl, (L1.out.trans (HW2.out.mono hsz)).alloc (by have := HW2.out.size; omega) _⟩
  rw [opCs_zero, HL.out]
  exact Blk.new w2 _ _
/-- how many steps it may do -/
def mostF (s : Spot) (tries : Int) : Int := if mayF s tries = true then 2 * tries + s.words + 1 else 0
end Go.Proofs.Ytihogagnjikghaa.Bank
