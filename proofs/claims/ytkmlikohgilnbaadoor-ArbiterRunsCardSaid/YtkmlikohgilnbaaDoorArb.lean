/-
  An operation of the arbiter: how it stands in memory, and contracts of its functions. Printed by wip/tools/mkarb.py. Conditions stand at each. By an AI agent.
-/
import Derived.Test.YtkmlikohgilnbaaDoorBank
import Derived.Test.YtkmlikohgilnbaaDoorSch
import Derived.Test.YtkmlikohgilnbaaDoorRegD
import Derived.Deep.CutRange
import Derived.Test.YtkmlikohgilnbaaDoorGoto
namespace Go.Proofs.YtkmlikohgilnbaaDoor.Base
open Go Go.RowKit
theorem Ex.ex {T0 T : Nat → Prop} {a b c : World} (p : Ex T0 a b) (q : Ex T b c) (h : ∀ k, T k → T0 k) : Ex T0 a c := p.trans (q.mono h)
end Go.Proofs.YtkmlikohgilnbaaDoor.Base
namespace Go.Proofs.YtkmlikohgilnbaaDoor.Arb
set_option linter.unusedVariables false
set_option linter.unusedSimpArgs false
open Go Go.RowKit Go.Proofs.YtkmlikohgilnbaaDoor.Base Go.Proofs.YtkmlikohgilnbaaDoor.Reg
open Go.Proofs.YtkmlikohgilnbaaDoor.Bank (BankAt inW wordF setF tickF errF casB errF_in errF_out wordF_in tickF_in setF_in Load_any CAS_any Load_nil)
open Go.Proofs.YtkmlikohgilnbaaDoor.Modes (Tab)

section
variable {w : World} {g : Nat} {t : TypeId} {a b c d e x0 x1 x2 x3 x4 : Value}
theorem set5_blk (h : Blk w g t #[a, b, c, d, e]) : Blk (((((w.setCell ⟨g, 0, none⟩ x0).setCell ⟨g, 1, none⟩ x1).setCell ⟨g, 2, none⟩ x2).setCell ⟨g, 3, none⟩ x3).setCell ⟨g, 4, none⟩ x4) g t #[x0, x1, x2, x3, x4] := by
  have := ((((h.set_ 0 x0).set_ 1 x1).set_ 2 x2).set_ 3 x3).set_ 4 x4
  simpa using this
theorem set5_below {B : Nat} {w0 : World} (h : Below B w0 w) (hg : B ≤ g) : Below B w0 (((((w.setCell ⟨g, 0, none⟩ x0).setCell ⟨g, 1, none⟩ x1).setCell ⟨g, 2, none⟩ x2).setCell ⟨g, 3, none⟩ x3).setCell ⟨g, 4, none⟩ x4) :=
  ((((h.setCell (p := ⟨g, 0, none⟩) hg _).setCell (p := ⟨g, 1, none⟩) hg _).setCell (p := ⟨g, 2, none⟩) hg _).setCell (p := ⟨g, 3, none⟩) hg _).setCell (p := ⟨g, 4, none⟩) hg _
end
/-- what is asked -/
inductive Kd where
  | req (a : Reg.Ask)
  | tell (f : Int)
  | read
def Kd.Ok : Kd → Prop
  | .req a => a.Ok
  | .tell f => -9223372036854775808 ≤ f ∧ f ≤ 9223372036854775807
  | .read => True
def Kd.S : Kd → St → St
  | .req a, s => decideS s a
  | .tell f, s => healthS s f
  | .read, s => s
def Kd.E : Kd → St → Int
  | .req a, s => decideE s a
  | .tell f, s => healthE s f
  | .read, _ => 0
def Kd.isRead : Kd → Bool
  | .read => true
  | _ => false
/-- how an operation stands -/
structure AX where
  how : Int
  swaps : Bool
  word : Int
  next : St
  st : St
  err : Int
  left : Int
  steps : Int
def AX.zero (n : Int) : AX := ⟨0, false, 0, St.zero, St.zero, 0, n, 0⟩
def fnV : Kd → Nat → Value
  | .req _, b => .func (.func 57) #[] #[.pointer (some ⟨b, 0, none⟩)]
  | .tell _, b => .func (.func 31) #[] #[.pointer (some ⟨b, 0, none⟩)]
  | .read, _ => .nilFunc
def aCs (at_ : Int) (fv : Value) (x : AX) : Array Value :=
  #[.int .i64 at_, .int .i64 x.left, fv, .bool x.swaps, .int .u64 x.word, .int .i64 x.next.mode, .int .i64 x.next.source, .bool x.next.hold, .int .i64 x.next.flags, .int .u64 x.next.epoch, .int .i64 x.how, .int .i64 x.st.mode, .int .i64 x.st.source, .bool x.st.hold, .int .i64 x.st.flags, .int .u64 x.st.epoch, .int .i64 x.err, .int .i64 x.steps]
/-- what its closure has caught -/
def CapAt (w : World) : Kd → Nat → Prop
  | .req a, b => Blk w b 67 #[.int .i64 a.source, .int .i64 a.mode, .bool a.free]
  | .tell f, b => Blk w b 3 #[.int .i64 f]
  | .read, b => True
theorem CapAt.ex {T : Nat → Prop} {w w' : World} {k : Kd} {b : Nat} (h : CapAt w k b) (p : Ex T w w') (hb : ¬ T b) : CapAt w' k b := by
  cases k with
  | req a => exact Blk.ex h p hb
  | tell f => exact Blk.ex h p hb
  | read => trivial
structure ArbAt (w : World) (o b : Nat) (k : Kd) (at_ : Int) (x : AX) : Prop where
  head : Blk w o 90 (aCs at_ (fnV k b) x)
  cap : CapAt w k b
  ne : b ≠ o
theorem ArbAt.ex {T : Nat → Prop} {w w' : World} {o b : Nat} {k : Kd} {at_ : Int} {x : AX} (h : ArbAt w o b k at_ x) (p : Ex T w w') (ho : ¬ T o) (hb : ¬ T b) : ArbAt w' o b k at_ x := ⟨h.head.ex p ho, h.cap.ex p hb, h.ne⟩
theorem ArbAt.below {w w' : World} {o b : Nat} {k : Kd} {at_ : Int} {x : AX} (h : ArbAt w o b k at_ x) (p : Below w.heap.size w w') : ArbAt w' o b k at_ x := h.ex (T := fun _ => False) (Ex.of_below p) (fun h => h) (fun h => h)
theorem amay_any (n : Int) (w : World) :
    Calls Tryd.prog 30 #[.int .i64 n] w fun e w' => e = .returned (.bool (decide (1 ≤ n ∧ n ≤ 16))) ∧ w = w' := by
  by_cases h1 : 1 ≤ n
  · have k1 : decide (n ≥ 1) = true := decide_eq_true h1
    by_cases h2 : n ≤ 16
    · have k2 : decide (n ≤ 16) = true := decide_eq_true h2
      rw [decide_eq_true (show 1 ≤ n ∧ n ≤ 16 from ⟨h1, h2⟩)]
      clear h1 h2
      go_enter Tryd.func30, Tryd.ntmps30
      go_wp2_with fail
      go_ret
      exact ⟨rfl, rfl⟩
    · have k2 : decide (n ≤ 16) = false := decide_eq_false h2
      rw [decide_eq_false (show ¬ (1 ≤ n ∧ n ≤ 16) from fun h => h2 h.2)]
      clear h1 h2
      go_enter Tryd.func30, Tryd.ntmps30
      go_wp2_with fail
      go_ret
      exact ⟨rfl, rfl⟩
  · have k1 : decide (n ≥ 1) = false := decide_eq_false h1
    rw [decide_eq_false (show ¬ (1 ≤ n ∧ n ≤ 16) from fun h => h1 h.1)]
    clear h1
    go_enter Tryd.func30, Tryd.ntmps30
    go_wp2_with fail
    go_ret
    exact ⟨rfl, rfl⟩
def amostF (n : Int) : Int := if 1 ≤ n ∧ n ≤ 16 then 2 * n else 0
theorem AMost_any (n : Int) (w : World) :
    Calls Tryd.prog 16 #[.int .i64 n] w fun e w' => e = .returned (.int .i64 (amostF n)) ∧ w = w' := by
  have HM := Lib.hid (amay_any n w)
  unfold amostF
  by_cases h : 1 ≤ n ∧ n ≤ 16
  · rw [if_pos h]
    rw [decide_eq_true h] at HM
    have hw : wrap64 (2 * n) = 2 * n := by unfold wrap64; omega
    have HW := Lib.hid hw
    clear h hw
    go_enter Tryd.func16, Tryd.ntmps16
    go_wp2_with fail
    refine HM.out.mono ?_; rintro e w' ⟨rfl, rfl⟩
    go_wp2_with fail
    go_ret
    refine ⟨?_, rfl⟩
    show Ending.returned (.int .i64 (wrap64 (2 * n))) = _
    rw [HW.out]
  · rw [if_neg h]
    rw [decide_eq_false h] at HM
    clear h
    go_enter Tryd.func16, Tryd.ntmps16
    go_wp2_with fail
    refine HM.out.mono ?_; rintro e w' ⟨rfl, rfl⟩
    go_wp2_with fail
    go_ret
    exact ⟨rfl, rfl⟩
set_option maxRecDepth 100000 in
theorem AMode_any (at_ : Int) (w : World) (hz : 0 < w.heap.size) : Calls Tryd.prog 36 #[.int .i64 at_] w fun e w' => ∃ o b, e = .returned (.tuple #[.pointer (some ⟨o, 0, none⟩), .int .i64 0]) ∧ ArbAt w' o b (.read) at_ (AX.zero 0) ∧ w.heap.size ≤ o ∧ (w.heap.size ≤ b ∨ b = 0) ∧ o < w'.heap.size ∧ b < w'.heap.size ∧ Below w.heap.size w w' := by
  go_enter Tryd.func36, Tryd.ntmps36
  go_wp2_with fail
  go_ret2
  have hb := Blk.new w 90 #[.int .i64 at_, .int .i64 0, .nilFunc, .bool false, .int .u64 0, .int .i64 0, .int .i64 0, .bool false, .int .i64 0, .int .u64 0, .int .i64 0, .int .i64 0, .int .i64 0, .bool false, .int .i64 0, .int .u64 0, .int .i64 0, .int .i64 0]
  exact ⟨w.heap.size, 0, rfl, ⟨hb, trivial, by omega⟩, Nat.le_refl _, .inr rfl, by simp, by simp, (Below.refl _ _).alloc (Nat.le_refl _) _⟩
set_option maxRecDepth 100000 in
theorem ARequest_bad (at_ n : Int) (a : Reg.Ask) (w : World) (h : ¬ (1 ≤ n ∧ n ≤ 16 ∧ a.In)) : Calls Tryd.prog 29 #[.int .i64 at_, a.val, .int .i64 n] w fun e w' => e = .returned (.tuple #[.pointer none, .int .i64 10]) ∧ Below w.heap.size w w' := by
  obtain ⟨so, mo, fr⟩ := a
  unfold Reg.Ask.In at h
  simp only at h
  have HW : (decide (1 ≤ n ∧ n ≤ 16) = false) ∨ (decide (1 ≤ n ∧ n ≤ 16) = true ∧ decide (so < 0) = true) ∨ (decide (1 ≤ n ∧ n ≤ 16) = true ∧ decide (so < 0) = false ∧ decide (so ≥ 4) = true) ∨ (decide (1 ≤ n ∧ n ≤ 16) = true ∧ decide (so < 0) = false ∧ decide (so ≥ 4) = false ∧ decide (mo < 0) = true) ∨ (decide (1 ≤ n ∧ n ≤ 16) = true ∧ decide (so < 0) = false ∧ decide (so ≥ 4) = false ∧ decide (mo < 0) = false ∧ decide (mo ≥ 8) = true) := by
    simp only [decide_eq_true_eq, decide_eq_false_iff_not]
    omega
  have HM0 := amay_any n (w.alloc (.cells #[.int .i64 so, .int .i64 mo, .bool fr] 67))
  have L0 := Lib.hid ((Below.refl w.heap.size w).alloc (Nat.le_refl _) (.cells #[.int .i64 so, .int .i64 mo, .bool fr] 67))
  clear h
  unfold Reg.Ask.val
  simp only
  rcases HW with hd | ⟨hd, d1⟩ | ⟨hd, d1, d2⟩ | ⟨hd, d1, d2, d3⟩ | ⟨hd, d1, d2, d3, d4⟩
  all_goals
    rw [hd] at HM0
    have HM := Lib.hid HM0
    clear HM0 hd
    go_enter Tryd.func29, Tryd.ntmps29
    go_wp2_with fail
    refine HM.out.mono ?_; rintro e w' ⟨rfl, rfl⟩
    go_wp2_with fail
    go_ret2
    exact ⟨rfl, L0.out⟩
set_option maxRecDepth 100000 in
theorem ARequest_in (at_ n : Int) (a : Reg.Ask) (w : World) (h : (1 ≤ n ∧ n ≤ 16 ∧ a.In)) : Calls Tryd.prog 29 #[.int .i64 at_, a.val, .int .i64 n] w fun e w' => ∃ o b, e = .returned (.tuple #[.pointer (some ⟨o, 0, none⟩), .int .i64 0]) ∧ ArbAt w' o b (.req a) at_ (AX.zero n) ∧ w.heap.size ≤ o ∧ (w.heap.size ≤ b ∨ b = 0) ∧ o < w'.heap.size ∧ b < w'.heap.size ∧ Below w.heap.size w w' := by
  obtain ⟨so, mo, fr⟩ := a
  unfold Reg.Ask.In at h
  simp only at h
  have d1 : decide (so < 0) = false := decide_eq_false (by omega)
  have d2 : decide (so ≥ 4) = false := decide_eq_false (by omega)
  have d3 : decide (mo < 0) = false := decide_eq_false (by omega)
  have d4 : decide (mo ≥ 8) = false := decide_eq_false (by omega)
  have HM0 := amay_any n (w.alloc (.cells #[.int .i64 so, .int .i64 mo, .bool fr] 67))
  rw [decide_eq_true (show 1 ≤ n ∧ n ≤ 16 by omega)] at HM0
  have HM := Lib.hid HM0
  have B0 := Lib.hid (Blk.new w 67 #[.int .i64 so, .int .i64 mo, .bool fr])
  have L0 := Lib.hid ((Below.refl w.heap.size w).alloc (Nat.le_refl _) (.cells #[.int .i64 so, .int .i64 mo, .bool fr] 67))
  clear h HM0
  unfold Reg.Ask.val
  simp only
  go_enter Tryd.func29, Tryd.ntmps29
  go_wp2_with fail
  refine HM.out.mono ?_; rintro e w' ⟨rfl, rfl⟩
  go_wp2_with fail
  go_ret2
  have hb := Blk.new (w.alloc (.cells #[.int .i64 so, .int .i64 mo, .bool fr] 67)) 90 #[.int .i64 at_, .int .i64 n, (.func (.func 57) #[] #[.pointer (some ⟨w.heap.size, 0, none⟩)]), .bool false, .int .u64 0, .int .i64 0, .int .i64 0, .bool false, .int .i64 0, .int .u64 0, .int .i64 0, .int .i64 0, .int .i64 0, .bool false, .int .i64 0, .int .u64 0, .int .i64 0, .int .i64 0]
  simp only [World.size_alloc] at hb
  exact ⟨w.heap.size + 1, w.heap.size, rfl, ⟨hb, B0.out.alloc _, by omega⟩, by omega, .inl (Nat.le_refl _), by simp, by simp; omega, L0.out.alloc (by simp) _⟩
set_option maxRecDepth 100000 in
theorem AHealth_bad (at_ n : Int) (f : Int) (w : World) (h : ¬ (1 ≤ n ∧ n ≤ 16 ∧ 0 ≤ f ∧ f ≤ 63)) : Calls Tryd.prog 10 #[.int .i64 at_, .int .i64 f, .int .i64 n] w fun e w' => e = .returned (.tuple #[.pointer none, .int .i64 10]) ∧ Below w.heap.size w w' := by
  have HW : (decide (1 ≤ n ∧ n ≤ 16) = false) ∨ (decide (1 ≤ n ∧ n ≤ 16) = true ∧ decide (f < 0) = true) ∨ (decide (1 ≤ n ∧ n ≤ 16) = true ∧ decide (f < 0) = false ∧ decide (f > 63) = true) := by
    simp only [decide_eq_true_eq, decide_eq_false_iff_not]
    omega
  have HM0 := amay_any n (w.alloc (.cells #[.int .i64 f] 3))
  have L0 := Lib.hid ((Below.refl w.heap.size w).alloc (Nat.le_refl _) (.cells #[.int .i64 f] 3))
  clear h
  rcases HW with hd | ⟨hd, d1⟩ | ⟨hd, d1, d2⟩
  all_goals
    rw [hd] at HM0
    have HM := Lib.hid HM0
    clear HM0 hd
    go_enter Tryd.func10, Tryd.ntmps10
    go_wp2_with fail
    refine HM.out.mono ?_; rintro e w' ⟨rfl, rfl⟩
    go_wp2_with fail
    go_ret2
    exact ⟨rfl, L0.out⟩
set_option maxRecDepth 100000 in
theorem AHealth_in (at_ n : Int) (f : Int) (w : World) (h : (1 ≤ n ∧ n ≤ 16 ∧ 0 ≤ f ∧ f ≤ 63)) : Calls Tryd.prog 10 #[.int .i64 at_, .int .i64 f, .int .i64 n] w fun e w' => ∃ o b, e = .returned (.tuple #[.pointer (some ⟨o, 0, none⟩), .int .i64 0]) ∧ ArbAt w' o b (.tell f) at_ (AX.zero n) ∧ w.heap.size ≤ o ∧ (w.heap.size ≤ b ∨ b = 0) ∧ o < w'.heap.size ∧ b < w'.heap.size ∧ Below w.heap.size w w' := by
  have d1 : decide (f < 0) = false := decide_eq_false (by omega)
  have d2 : decide (f > 63) = false := decide_eq_false (by omega)
  have HM0 := amay_any n (w.alloc (.cells #[.int .i64 f] 3))
  rw [decide_eq_true (show 1 ≤ n ∧ n ≤ 16 by omega)] at HM0
  have HM := Lib.hid HM0
  have B0 := Lib.hid (Blk.new w 3 #[.int .i64 f])
  have L0 := Lib.hid ((Below.refl w.heap.size w).alloc (Nat.le_refl _) (.cells #[.int .i64 f] 3))
  clear h HM0
  go_enter Tryd.func10, Tryd.ntmps10
  go_wp2_with fail
  refine HM.out.mono ?_; rintro e w' ⟨rfl, rfl⟩
  go_wp2_with fail
  go_ret2
  have hb := Blk.new (w.alloc (.cells #[.int .i64 f] 3)) 90 #[.int .i64 at_, .int .i64 n, (.func (.func 31) #[] #[.pointer (some ⟨w.heap.size, 0, none⟩)]), .bool false, .int .u64 0, .int .i64 0, .int .i64 0, .bool false, .int .i64 0, .int .u64 0, .int .i64 0, .int .i64 0, .int .i64 0, .bool false, .int .i64 0, .int .u64 0, .int .i64 0, .int .i64 0]
  simp only [World.size_alloc] at hb
  exact ⟨w.heap.size + 1, w.heap.size, rfl, ⟨hb, B0.out.alloc _, by omega⟩, by omega, .inl (Nat.le_refl _), by simp, by simp; omega, L0.out.alloc (by simp) _⟩
set_option maxRecDepth 100000 in
set_option maxHeartbeats 4000000 in
theorem Aend_any (o b : Nat) (k : Kd) (at_ : Int) (x : AX) (how : Int) (s : St) (e0 : Int) (w : World) (h : ArbAt w o b k at_ x) :
    Calls Tryd.prog 35 #[.pointer (some ⟨o, 0, none⟩), .int .i64 how, s.val, .int .i64 e0] w fun e w' => e = .returned (.int .i64 how) ∧ ArbAt w' o b k at_ ⟨how, x.swaps, x.word, x.next, s, e0, x.left, x.steps⟩ ∧ Ex (fun q => q = o) w w' := by
  have B0 := Lib.hid (show Blk w o 90 _ from h.head)
  have C0 := Lib.hid h.cap
  have NE := Lib.hid h.ne
  have X0 := Lib.hid (Ex.refl (fun q => q = o) w)
  have SZ := Lib.hid (show o < w.heap.size from Blk.lt h.head)
  unfold aCs at B0
  have ORD := Lib.hid (show b ≠ o from h.ne)
  clear h 
  have Bq0 := (B0.out).cell 0
  have Bq10 := (B0.out).cell 10
  simp only [List.getElem?_toArray, List.getElem?_cons_succ, List.getElem?_cons_zero] at Bq0 Bq10
  have Bf10 := (B0.out).frozen 10
  have Bf11 := (B0.out).frozen 11
  have Bf12 := (B0.out).frozen 12
  have Bf13 := (B0.out).frozen 13
  have Bf14 := (B0.out).frozen 14
  have Bf15 := (B0.out).frozen 15
  have Bf16 := (B0.out).frozen 16
  have BS := Lib.hid (Blk.new w 34 #[.int .i64 s.mode, .int .i64 s.source, .bool s.hold, .int .i64 s.flags, .int .u64 s.epoch])
  have HNS := Lib.hid (show ¬ o = w.heap.size by have := SZ.out; omega)
  unfold St.val
  clear Bf10 Bf11 Bf12 Bf13 Bf14 Bf15 Bf16 Bq0 Bq10
  go_enter Tryd.func35, Tryd.ntmps35
  go_upto_region 1 with fail
  have ee : Ex (fun _ => False) w (w.alloc (.cells #[.int .i64 s.mode, .int .i64 s.source, .bool s.hold, .int .i64 s.flags, .int .u64 s.epoch] 34)) := (Ex.refl _ w).alloc _
  have B_1 := Lib.hid (B0.out.ex ee (fun h => h))
  have C_1 := Lib.hid (C0.out.ex ee (fun h => h))
  have X_1 := Lib.hid (X0.out.ex ee (fun b_ h_ => h_.elim))
  have S_1 := Lib.hid (BS.out)
  clear ee B0 C0 X0 BS
  generalize (w.alloc (.cells #[.int .i64 s.mode, .int .i64 s.source, .bool s.hold, .int .i64 s.flags, .int .u64 s.epoch] 34)) = w1 at *
  generalize w.heap.size = sb at *
  have ORD9 := Lib.hid ORD.out
  clear SZ NE ORD
  have ORD := Lib.hid (show ¬ o = sb from HNS.out)
  have ORD1 := Lib.hid (show ¬ o = sb ∧ b ≠ o from ⟨HNS.out, ORD9.out⟩)
  clear ORD ORD9 HNS
  have hne : Nonempty (Held (fun W : World => W.cell? ⟨o, 0, none⟩ = some (.int .i64 at_) ∧ Blk W sb 34 #[.int .i64 s.mode, .int .i64 s.source, .bool s.hold, .int .i64 s.flags, .int .u64 s.epoch])) := ⟨⟨w1, B_1.out.cell 0, S_1.out⟩⟩
  have p0 : ∀ y : Held (fun W : World => W.cell? ⟨o, 0, none⟩ = some (.int .i64 at_) ∧ Blk W sb 34 #[.int .i64 s.mode, .int .i64 s.source, .bool s.hold, .int .i64 s.flags, .int .u64 s.epoch]), y.w.cell? ⟨o, 0, none⟩ = some (.int .i64 at_) := fun y => y.ok.1
  have s0 : ∀ y : Held (fun W : World => W.cell? ⟨o, 0, none⟩ = some (.int .i64 at_) ∧ Blk W sb 34 #[.int .i64 s.mode, .int .i64 s.source, .bool s.hold, .int .i64 s.flags, .int .u64 s.epoch]), y.w.cell? ⟨sb, 0, none⟩ = some (.int .i64 s.mode) := fun y => y.ok.2.cell 0
  have s1 : ∀ y : Held (fun W : World => W.cell? ⟨o, 0, none⟩ = some (.int .i64 at_) ∧ Blk W sb 34 #[.int .i64 s.mode, .int .i64 s.source, .bool s.hold, .int .i64 s.flags, .int .u64 s.epoch]), y.w.cell? ⟨sb, 1, none⟩ = some (.int .i64 s.source) := fun y => y.ok.2.cell 1
  have s2 : ∀ y : Held (fun W : World => W.cell? ⟨o, 0, none⟩ = some (.int .i64 at_) ∧ Blk W sb 34 #[.int .i64 s.mode, .int .i64 s.source, .bool s.hold, .int .i64 s.flags, .int .u64 s.epoch]), y.w.cell? ⟨sb, 2, none⟩ = some (.bool s.hold) := fun y => y.ok.2.cell 2
  have s3 : ∀ y : Held (fun W : World => W.cell? ⟨o, 0, none⟩ = some (.int .i64 at_) ∧ Blk W sb 34 #[.int .i64 s.mode, .int .i64 s.source, .bool s.hold, .int .i64 s.flags, .int .u64 s.epoch]), y.w.cell? ⟨sb, 3, none⟩ = some (.int .i64 s.flags) := fun y => y.ok.2.cell 3
  have s4 : ∀ y : Held (fun W : World => W.cell? ⟨o, 0, none⟩ = some (.int .i64 at_) ∧ Blk W sb 34 #[.int .i64 s.mode, .int .i64 s.source, .bool s.hold, .int .i64 s.flags, .int .u64 s.epoch]), y.w.cell? ⟨sb, 4, none⟩ = some (.int .u64 s.epoch) := fun y => y.ok.2.cell 4
  refine drawn_bars (S := (fun W : World => W.cell? ⟨o, 0, none⟩ = some (.int .i64 at_) ∧ Blk W sb 34 #[.int .i64 s.mode, .int .i64 s.source, .bool s.hold, .int .i64 s.flags, .int .u64 s.epoch])) [([0, 1, 2, 3, 4, 5, 6, 7], 8), ([9, 10], 11), ([12, 13], 14)] [] (by kernel_rfl) (by kernel_rfl) (by kernel_rfl) rfl ⟨B_1.out.cell 0, S_1.out⟩ ?_
  refine Phased.go ?_
  simp only [pick, List.map_cons, List.map_nil, List.getElem?_cons_zero, List.getElem?_cons_succ, Option.getD_some]
  repeat (go_big_quiet_step (fail))
  refine wpQuiet_nil ?_
  have ee : Ex (fun _ => False) w1 w1.drew := (Ex.refl _ w1).drew
  have B_2 := Lib.hid (B_1.out.ex ee (fun h => h))
  have C_2 := Lib.hid (C_1.out.ex ee (fun h => h))
  have X_2 := Lib.hid (X_1.out.ex ee (fun b_ h_ => h_.elim))
  have S_2 := Lib.hid (S_1.out.ex ee (fun h => h))
  clear ee B_1 C_1 X_1 S_1
  generalize w1.drew = w2 at *
  have Bq10 := (B_2.out).cell 10
  simp only [List.getElem?_toArray, List.getElem?_cons_succ, List.getElem?_cons_zero] at Bq10
  have Bf10 := (B_2.out).frozen 10
  go_wp2_with fail
  clear Bq10 Bf10
  have bb := (B_2.out.set_ 10 (.int .i64 how))
  simp only [List.setIfInBounds_toArray, List.set_cons_succ, List.set_cons_zero] at bb
  have BB := Lib.hid bb
  clear bb
  have ee : Ex (fun k => k = o) w2 (w2.setCell ⟨o, 10, none⟩ (.int .i64 how)) := ((Ex.refl (fun q => q = o) w2).setCell (q := ⟨o, 10, none⟩) (.inl rfl) (.int .i64 how))
  have C_3 := Lib.hid (C_2.out.ex ee (by have o_ := ORD1.out; omega))
  have X_3 := Lib.hid (X_2.out.ex ee (fun b_ h_ => h_))
  have S_3 := Lib.hid (S_2.out.ex ee (by have o_ := ORD1.out; omega))
  have B_3 := Lib.hid (BB.out)
  clear ee B_2 C_2 X_2 S_2 BB
  generalize (w2.setCell ⟨o, 10, none⟩ (.int .i64 how)) = w3 at *
  refine behind_normal ⟨(fun W : World => W.cell? ⟨o, 0, none⟩ = some (.int .i64 at_) ∧ Blk W sb 34 #[.int .i64 s.mode, .int .i64 s.source, .bool s.hold, .int .i64 s.flags, .int .u64 s.epoch]), fun W h => h, ⟨B_3.out.cell 0, S_3.out⟩, ?_⟩
  refine Phased.go ?_
  simp only [pick, List.map_cons, List.map_nil, List.getElem?_cons_zero, List.getElem?_cons_succ, Option.getD_some]
  repeat (go_big_quiet_step (fail))
  refine wpQuiet_nil ?_
  have Bq11 := (B_3.out).cell 11
  have Bq12 := (B_3.out).cell 12
  have Bq13 := (B_3.out).cell 13
  have Bq14 := (B_3.out).cell 14
  have Bq15 := (B_3.out).cell 15
  simp only [List.getElem?_toArray, List.getElem?_cons_succ, List.getElem?_cons_zero] at Bq11 Bq12 Bq13 Bq14 Bq15
  have Bf11 := (B_3.out).frozen 11
  have Bf12 := (B_3.out).frozen 12
  have Bf13 := (B_3.out).frozen 13
  have Bf14 := (B_3.out).frozen 14
  have Bf15 := (B_3.out).frozen 15
  go_wp2_with fail
  clear Bq11 Bq12 Bq13 Bq14 Bq15 Bf11 Bf12 Bf13 Bf14 Bf15
  have bb := (((((B_3.out.set_ 11 (.int .i64 s.mode)).set_ 12 (.int .i64 s.source)).set_ 13 (.bool s.hold)).set_ 14 (.int .i64 s.flags)).set_ 15 (.int .u64 s.epoch))
  simp only [List.setIfInBounds_toArray, List.set_cons_succ, List.set_cons_zero] at bb
  have BB := Lib.hid bb
  clear bb
  have ee : Ex (fun k => k = o) w3 (((((w3.setCell ⟨o, 11, none⟩ (.int .i64 s.mode)).setCell ⟨o, 12, none⟩ (.int .i64 s.source)).setCell ⟨o, 13, none⟩ (.bool s.hold)).setCell ⟨o, 14, none⟩ (.int .i64 s.flags)).setCell ⟨o, 15, none⟩ (.int .u64 s.epoch)) := ((((((Ex.refl (fun q => q = o) w3).setCell (q := ⟨o, 11, none⟩) (.inl rfl) (.int .i64 s.mode)).setCell (q := ⟨o, 12, none⟩) (.inl rfl) (.int .i64 s.source)).setCell (q := ⟨o, 13, none⟩) (.inl rfl) (.bool s.hold)).setCell (q := ⟨o, 14, none⟩) (.inl rfl) (.int .i64 s.flags)).setCell (q := ⟨o, 15, none⟩) (.inl rfl) (.int .u64 s.epoch))
  have C_4 := Lib.hid (C_3.out.ex ee (by have o_ := ORD1.out; omega))
  have X_4 := Lib.hid (X_3.out.ex ee (fun b_ h_ => h_))
  have S_4 := Lib.hid (S_3.out.ex ee (by have o_ := ORD1.out; omega))
  have B_4 := Lib.hid (BB.out)
  clear ee B_3 C_3 X_3 S_3 BB
  generalize (((((w3.setCell ⟨o, 11, none⟩ (.int .i64 s.mode)).setCell ⟨o, 12, none⟩ (.int .i64 s.source)).setCell ⟨o, 13, none⟩ (.bool s.hold)).setCell ⟨o, 14, none⟩ (.int .i64 s.flags)).setCell ⟨o, 15, none⟩ (.int .u64 s.epoch)) = w4 at *
  refine behind_normal ⟨(fun W : World => W.cell? ⟨o, 0, none⟩ = some (.int .i64 at_) ∧ Blk W sb 34 #[.int .i64 s.mode, .int .i64 s.source, .bool s.hold, .int .i64 s.flags, .int .u64 s.epoch]), fun W h => h, ⟨B_4.out.cell 0, S_4.out⟩, ?_⟩
  refine Phased.go ?_
  simp only [pick, List.map_cons, List.map_nil, List.getElem?_cons_zero, List.getElem?_cons_succ, Option.getD_some]
  repeat (go_big_quiet_step (fail))
  refine wpQuiet_nil ?_
  have Bq16 := (B_4.out).cell 16
  simp only [List.getElem?_toArray, List.getElem?_cons_succ, List.getElem?_cons_zero] at Bq16
  have Bf16 := (B_4.out).frozen 16
  go_wp2_with fail
  clear Bq16 Bf16
  have bb := (B_4.out.set_ 16 (.int .i64 e0))
  simp only [List.setIfInBounds_toArray, List.set_cons_succ, List.set_cons_zero] at bb
  have BB := Lib.hid bb
  clear bb
  have ee : Ex (fun k => k = o) w4 (w4.setCell ⟨o, 16, none⟩ (.int .i64 e0)) := ((Ex.refl (fun q => q = o) w4).setCell (q := ⟨o, 16, none⟩) (.inl rfl) (.int .i64 e0))
  have C_5 := Lib.hid (C_4.out.ex ee (by have o_ := ORD1.out; omega))
  have X_5 := Lib.hid (X_4.out.ex ee (fun b_ h_ => h_))
  have S_5 := Lib.hid (S_4.out.ex ee (by have o_ := ORD1.out; omega))
  have B_5 := Lib.hid (BB.out)
  clear ee B_4 C_4 X_4 S_4 BB
  generalize (w4.setCell ⟨o, 16, none⟩ (.int .i64 e0)) = w5 at *
  refine behind_normal ⟨(fun W : World => W.cell? ⟨o, 0, none⟩ = some (.int .i64 at_) ∧ Blk W sb 34 #[.int .i64 s.mode, .int .i64 s.source, .bool s.hold, .int .i64 s.flags, .int .u64 s.epoch]), fun W h => h, ⟨B_5.out.cell 0, S_5.out⟩, ?_⟩
  refine Phased.end_ ?_
  simp only [pick, List.map_cons, List.map_nil, List.getElem?_cons_zero, List.getElem?_cons_succ, Option.getD_some]
  repeat (go_big_quiet_step (fail))
  refine wpQuiet_nil ?_
  clear hne p0 s0 s1 s2 s3 s4
  go_wp2_with fail
  go_ret
  exact ⟨rfl, ⟨B_5.out, C_5.out, ORD1.out.2⟩, X_5.out⟩
/-- what an operation makes of the word that it loaded -/
def aFound (k : Kd) (v : Int) (x : AX) : AX :=
  if unE v ≠ 0 then ⟨1, x.swaps, x.word, x.next, unS v, unE v, x.left, x.steps⟩
  else if k.isRead = true then ⟨1, x.swaps, x.word, x.next, unS v, 0, x.left, x.steps⟩
  else if k.E (unS v) ≠ 0 then ⟨1, x.swaps, x.word, x.next, unS v, k.E (unS v), x.left, x.steps⟩
  else ⟨x.how, true, v, k.S (unS v), x.st, x.err, x.left, x.steps⟩
theorem unS_ok {v : Int} (h : 0 ≤ v ∧ v ≤ 18446744073709551615) : (unS v).Ok := by
  unfold unS
  split
  · exact partsOf_ok h
  · exact ⟨by decide, by decide, by decide, by decide⟩
set_option maxRecDepth 100000 in
set_option maxHeartbeats 4000000 in
/-- what its closure tells -/
theorem dec_any (k : Kd) (hr : k.isRead = false) (hk : k.Ok) (s : St) (hs : s.Ok) (b : Nat) (w : World) (hc : CapAt w k b) (ht : Tab w) :
    Calls Tryd.prog (match k with | .req _ => 57 | _ => 31) #[s.val, .pointer (some ⟨b, 0, none⟩)] w fun e w' => e = .returned (.tuple #[(k.S s).val, .int .i64 (k.E s)]) ∧ Below w.heap.size w w' := by
  cases k with
  | read => simp [Kd.isRead] at hr
  | req a =>
    simp only [Kd.S, Kd.E]
    have HT := Lib.hid ((ht.below ((Below.refl _ w).alloc (Nat.le_refl _) (.cells #[.int .i64 s.mode, .int .i64 s.source, .bool s.hold, .int .i64 s.flags, .int .u64 s.epoch] 34))).below ((Below.refl _ _).alloc (Nat.le_refl _) (.cells #[.int .i64 0, .int .i64 0, .bool false, .int .i64 0, .int .u64 0] 34)))
    have C0 := Lib.hid hc
    have BS := Lib.hid ((Blk.new w 34 #[.int .i64 s.mode, .int .i64 s.source, .bool s.hold, .int .i64 s.flags, .int .u64 s.epoch]).alloc (.cells #[.int .i64 0, .int .i64 0, .bool false, .int .i64 0, .int .u64 0] 34))
    have BZ0 := Blk.new (w.alloc (.cells #[.int .i64 s.mode, .int .i64 s.source, .bool s.hold, .int .i64 s.flags, .int .u64 s.epoch] 34)) 34 #[.int .i64 0, .int .i64 0, .bool false, .int .i64 0, .int .u64 0]
    simp only [World.size_alloc] at BZ0
    have BZ := Lib.hid BZ0
    have L0 := Lib.hid (((Below.refl w.heap.size w).alloc (Nat.le_refl _) (.cells #[.int .i64 s.mode, .int .i64 s.source, .bool s.hold, .int .i64 s.flags, .int .u64 s.epoch] 34)).alloc (by simp) (.cells #[.int .i64 0, .int .i64 0, .bool false, .int .i64 0, .int .u64 0] 34))
    have CQ := Lib.hid (C0.out.ex (T := fun _ => False) (((Ex.refl _ w).alloc (.cells #[.int .i64 s.mode, .int .i64 s.source, .bool s.hold, .int .i64 s.flags, .int .u64 s.epoch] 34)).alloc (.cells #[.int .i64 0, .int .i64 0, .bool false, .int .i64 0, .int .u64 0] 34)) (fun h => h))
    clear ht hc BZ0
    unfold St.val
    go_enter Tryd.func57, Tryd.ntmps57
    go_upto_region 1 with fail
    generalize ((w.alloc (.cells #[.int .i64 s.mode, .int .i64 s.source, .bool s.hold, .int .i64 s.flags, .int .u64 s.epoch] 34)).alloc (.cells #[.int .i64 0, .int .i64 0, .bool false, .int .i64 0, .int .u64 0] 34)) = w1 at *
    have s0 := BS.out.cell 0
    have s1 := BS.out.cell 1
    have s2 := BS.out.cell 2
    have s3 := BS.out.cell 3
    have s4 := BS.out.cell 4
    have c0 := Blk.cell CQ.out 0
    have c1 := Blk.cell CQ.out 1
    have c2 := Blk.cell CQ.out 2
    simp only [List.getElem?_toArray, List.getElem?_cons_succ, List.getElem?_cons_zero] at s0 s1 s2 s3 s4 c0 c1 c2
    have HD := Lib.hid (Decide_any s hs a hk _ HT.out : Calls Tryd.prog _ _ w1 _)
    unfold St.val Reg.Ask.val at HD
    go_wp2_with fail
    refine HD.out.mono ?_; rintro e w2 ⟨rfl, hb⟩
    have L1 := Lib.hid (bl L0.out hb)
    have BZ1 := Lib.hid (BZ.out.bl hb)
    clear hb s0 s1 s2 s3 s4 c0 c1 c2 HD
    have z0 := BZ1.out.cell 0
    have f0 := BZ1.out.frozen 0
    have z1 := BZ1.out.cell 1
    have f1 := BZ1.out.frozen 1
    have z2 := BZ1.out.cell 2
    have f2 := BZ1.out.frozen 2
    have z3 := BZ1.out.cell 3
    have f3 := BZ1.out.frozen 3
    have z4 := BZ1.out.cell 4
    have f4 := BZ1.out.frozen 4
    simp only [List.getElem?_toArray, List.getElem?_cons_succ, List.getElem?_cons_zero] at z0 z1 z2 z3 z4
    go_wp2_with fail
    have hb := set5_blk (x0 := .int .i64 (decideS s a).mode) (x1 := .int .i64 (decideS s a).source) (x2 := .bool (decideS s a).hold) (x3 := .int .i64 (decideS s a).flags) (x4 := .int .u64 (decideS s a).epoch) BZ1.out
    exact bodyPost_ret (res_cell_tmp (fn := Tryd.f57) rfl _ _ (w.heap.size + 1) _ _ _ _ rfl hb Tryd.underlying34 rfl (by kernel_rfl)) rfl ⟨rfl, set5_below L1.out (by omega)⟩
  | tell f =>
    simp only [Kd.S, Kd.E]
    have HT := Lib.hid ((ht.below ((Below.refl _ w).alloc (Nat.le_refl _) (.cells #[.int .i64 s.mode, .int .i64 s.source, .bool s.hold, .int .i64 s.flags, .int .u64 s.epoch] 34))).below ((Below.refl _ _).alloc (Nat.le_refl _) (.cells #[.int .i64 0, .int .i64 0, .bool false, .int .i64 0, .int .u64 0] 34)))
    have C0 := Lib.hid hc
    have BS := Lib.hid ((Blk.new w 34 #[.int .i64 s.mode, .int .i64 s.source, .bool s.hold, .int .i64 s.flags, .int .u64 s.epoch]).alloc (.cells #[.int .i64 0, .int .i64 0, .bool false, .int .i64 0, .int .u64 0] 34))
    have BZ0 := Blk.new (w.alloc (.cells #[.int .i64 s.mode, .int .i64 s.source, .bool s.hold, .int .i64 s.flags, .int .u64 s.epoch] 34)) 34 #[.int .i64 0, .int .i64 0, .bool false, .int .i64 0, .int .u64 0]
    simp only [World.size_alloc] at BZ0
    have BZ := Lib.hid BZ0
    have L0 := Lib.hid (((Below.refl w.heap.size w).alloc (Nat.le_refl _) (.cells #[.int .i64 s.mode, .int .i64 s.source, .bool s.hold, .int .i64 s.flags, .int .u64 s.epoch] 34)).alloc (by simp) (.cells #[.int .i64 0, .int .i64 0, .bool false, .int .i64 0, .int .u64 0] 34))
    have CQ := Lib.hid (C0.out.ex (T := fun _ => False) (((Ex.refl _ w).alloc (.cells #[.int .i64 s.mode, .int .i64 s.source, .bool s.hold, .int .i64 s.flags, .int .u64 s.epoch] 34)).alloc (.cells #[.int .i64 0, .int .i64 0, .bool false, .int .i64 0, .int .u64 0] 34)) (fun h => h))
    clear ht hc BZ0
    unfold St.val
    go_enter Tryd.func31, Tryd.ntmps31
    go_upto_region 1 with fail
    generalize ((w.alloc (.cells #[.int .i64 s.mode, .int .i64 s.source, .bool s.hold, .int .i64 s.flags, .int .u64 s.epoch] 34)).alloc (.cells #[.int .i64 0, .int .i64 0, .bool false, .int .i64 0, .int .u64 0] 34)) = w1 at *
    have s0 := BS.out.cell 0
    have s1 := BS.out.cell 1
    have s2 := BS.out.cell 2
    have s3 := BS.out.cell 3
    have s4 := BS.out.cell 4
    have c0 := Blk.cell CQ.out 0
    simp only [List.getElem?_toArray, List.getElem?_cons_succ, List.getElem?_cons_zero] at s0 s1 s2 s3 s4 c0
    have HD := Lib.hid (Health_any s hs f _ : Calls Tryd.prog _ _ w1 _)
    unfold St.val at HD
    go_wp2_with fail
    refine HD.out.mono ?_; rintro e w2 ⟨rfl, hb⟩
    have L1 := Lib.hid (bl L0.out hb)
    have BZ1 := Lib.hid (BZ.out.bl hb)
    clear hb s0 s1 s2 s3 s4 c0 HD
    have z0 := BZ1.out.cell 0
    have f0 := BZ1.out.frozen 0
    have z1 := BZ1.out.cell 1
    have f1 := BZ1.out.frozen 1
    have z2 := BZ1.out.cell 2
    have f2 := BZ1.out.frozen 2
    have z3 := BZ1.out.cell 3
    have f3 := BZ1.out.frozen 3
    have z4 := BZ1.out.cell 4
    have f4 := BZ1.out.frozen 4
    simp only [List.getElem?_toArray, List.getElem?_cons_succ, List.getElem?_cons_zero] at z0 z1 z2 z3 z4
    go_wp2_with fail
    have hb := set5_blk (x0 := .int .i64 (healthS s f).mode) (x1 := .int .i64 (healthS s f).source) (x2 := .bool (healthS s f).hold) (x3 := .int .i64 (healthS s f).flags) (x4 := .int .u64 (healthS s f).epoch) BZ1.out
    exact bodyPost_ret (res_cell_tmp (fn := Tryd.f31) rfl _ _ (w.heap.size + 1) _ _ _ _ rfl hb Tryd.underlying34 rfl (by kernel_rfl)) rfl ⟨rfl, set5_below L1.out (by omega)⟩
end Go.Proofs.YtkmlikohgilnbaaDoor.Arb
