/-
  Log: an operation in memory; Read, Write. Conditions stand at each. By an AI agent.
-/
import Derived.Test.YthhellgaafbokaaLgD
import Derived.Test.YthhellgaafbokaaLgN
import Derived.Test.YthhellgaafbokaaEx
namespace Go.Proofs.Ythhellgaafbokaa.Base
open Go Go.RowKit
theorem ownsRow_ex {T : Nat → Prop} {w w' : World} {base e size n : Nat} {v : Value} {xs : List Value} (h : w.ownsRow base e size v n xs) (p : Ex T w w') (hT : ∀ k, v.ownBlock = some k → ¬ T k) : w'.ownsRow base e size v n xs := by
  refine ⟨h.1, ?_⟩
  rcases h.2 with hn | ⟨g, cap, cur, rfl, hb, hgg, rest⟩
  · exact .inl hn
  · refine .inr ⟨g, cap, cur, rfl, hb, ?_, rest⟩
    rw [p.block g (Array.getElem?_eq_some_iff.1 hgg).1 (hT g rfl)]
    exact hgg
theorem Ex.of_grown {T : Nat → Prop} {w w' : World} {r : Option Nat} (h : w.grownBy w' r) (hT : ∀ k, r = some k → T k) : Ex T w w' :=
  ⟨h.os, h.tape, h.output, h.size, fun k hk hn => h.block k hk (fun e => hn (hT k e.symm))⟩
theorem Ex.cons {T T' : Nat → Prop} {a b c : World} (p : Ex T a b) (q : Ex T' b c) (h : ∀ k, k < a.heap.size → T' k → T k) : Ex T a c :=
  ⟨q.os.trans p.os, q.tape.trans p.tape, q.output.trans p.output, Nat.le_trans p.size q.size, fun k hk hn => (q.block k (Nat.lt_of_lt_of_le hk p.size) (fun t => hn (h k hk t))).trans (p.block k hk hn)⟩
end Go.Proofs.Ythhellgaafbokaa.Base
namespace Go.Proofs.Ythhellgaafbokaa.Lg
set_option linter.unusedVariables false
set_option linter.unusedSimpArgs false
open Go Go.RowKit Go.Proofs.Ythhellgaafbokaa.Base Go.Proofs.Ythhellgaafbokaa.Reg

structure LX where
  wr : Bool
  st : St
  word : Int
  next : Int
  how : Int
def lgC (log long : Int) (x : LX) (gv : Value) : Array Value := #[.int .i64 0, .int .i64 log, .int .i64 long, .slice none 0 0, .int .i64 0, .bool x.wr, .int .i64 x.st.mode, .int .i64 x.st.source, .bool x.st.hold, .int .i64 x.st.flags, .int .u64 x.st.epoch, .int .u64 x.word, .int .i64 x.next, .int .i64 x.how, gv]
/-- an operation at block o, what it read at block q (which is o, if there is none) -/
structure LgAt (w : World) (o q : Nat) (log long : Int) (x : LX) (l : List St) : Prop where
  form : ∃ gv, Blk w o 78 (lgC log long x gv) ∧ w.ownsRow (o + 1) 28 5 gv l.length (flatS l) ∧ ∀ k, gv.ownBlock = some k → k = q
  qlt : q < w.heap.size
theorem LgAt.lt {w : World} {o q : Nat} {log long : Int} {x : LX} {l : List St} (h : LgAt w o q log long x l) : o < w.heap.size := by
  obtain ⟨_, h1, _⟩ := h.form
  exact h1.lt
theorem LgAt.ex {T : Nat → Prop} {w w' : World} {o q : Nat} {log long : Int} {x : LX} {l : List St} (h : LgAt w o q log long x l) (p : Ex T w w') (ho : ¬ (T o ∨ T q)) : LgAt w' o q log long x l := by
  obtain ⟨gv, h1, h2, h3⟩ := h.form
  exact ⟨⟨gv, h1.ex p (fun h => ho (.inl h)), ownsRow_ex h2 p (fun k hk ht => ho (.inr (h3 k hk ▸ ht))), h3⟩, Nat.lt_of_lt_of_le h.qlt p.size⟩
theorem LgAt.below {w w' : World} {o q : Nat} {log long : Int} {x : LX} {l : List St} (h : LgAt w o q log long x l) (p : Below w.heap.size w w') : LgAt w' o q log long x l := h.ex (T := fun _ => False) (Ex.of_below p) (by simp)
theorem LgAt.new (w : World) (log long : Int) (x : LX) : LgAt (w.alloc (.cells (lgC log long x (.slice none 0 0)) 78)) w.heap.size w.heap.size log long x [] :=
  ⟨⟨.slice none 0 0, Blk.new _ _ _, World.ownsRow_nil _ _ _ _, fun k hk => by simp [Value.ownBlock] at hk⟩, by simp⟩

set_option maxRecDepth 100000 in
theorem Read_in (log long : Int) (h : HasP log long) (w : World) :
    Calls Try.prog 15 #[.agg #[.int .i64 0, .int .i64 log, .int .i64 long, .slice none 0 0, .int .i64 0]] w fun e w' => ∃ o, e = .returned (.tuple #[.pointer (some ⟨o, 0, none⟩), .int .i64 0]) ∧ LgAt w' o o log long ⟨false, St.zero, 0, 0, 0⟩ [] ∧ w.heap.size ≤ o ∧ Below w.heap.size w w' := by
  have HE := Lib.hid (fun W => Entry_any log long 0 W (by omega))
  have hr := (entF_range (e := 0) h).1
  obtain ⟨en, hen⟩ : ∃ en, entF log long 0 = en := ⟨_, rfl⟩
  rw [hen] at HE hr
  have kl : decide (en < 0) = false := decide_eq_false (by have := h.2; omega)
  clear h hr hen
  have L0 := Lib.hid ((Below.refl w.heap.size w).alloc (Nat.le_refl _) (.cells #[.int .i64 0, .int .i64 log, .int .i64 long, .slice none 0 0, .int .i64 0] 33))
  have hq := Blk.new w 33 #[.int .i64 0, .int .i64 log, .int .i64 long, .slice none 0 0, .int .i64 0]
  go_enter Try.func15, Try.ntmps15
  go_wp2_with fail
  refine (HE.out _).mono ?_; rintro e w1 ⟨rfl, hb⟩
  have hb1 := bl L0.out hb
  have hq1 := hq.bl hb
  have c0 := hq1.cell 0
  have c1 := hq1.cell 1
  have c2 := hq1.cell 2
  have c3 := hq1.cell 3
  have c4 := hq1.cell 4
  simp only [List.getElem?_toArray, List.getElem?_cons_succ, List.getElem?_cons_zero] at c0 c1 c2 c3 c4
  have L1 := Lib.hid hb1
  clear hb hb1 hq hq1
  go_wp2_with fail
  go_ret2
  refine ⟨_, rfl, LgAt.new w1 log long ⟨false, St.zero, 0, 0, 0⟩, L1.out.size, bl L1.out ((Below.refl _ _).alloc (Nat.le_refl _) _)⟩
set_option maxRecDepth 100000 in
theorem Read_out (log long : Int) (h : ¬ HasP log long) (w : World) :
    Calls Try.prog 15 #[.agg #[.int .i64 0, .int .i64 log, .int .i64 long, .slice none 0 0, .int .i64 0]] w fun e w' => e = .returned (.tuple #[.pointer none, .int .i64 1]) ∧ Below w.heap.size w w' := by
  have HE := Lib.hid (fun W => Entry_any log long 0 W (by omega))
  rw [entF_bad h] at HE
  clear h
  have L0 := Lib.hid ((Below.refl w.heap.size w).alloc (Nat.le_refl _) (.cells #[.int .i64 0, .int .i64 log, .int .i64 long, .slice none 0 0, .int .i64 0] 33))
  go_enter Try.func15, Try.ntmps15
  go_wp2_with fail
  refine (HE.out _).mono ?_; rintro e w1 ⟨rfl, hb⟩
  have L1 := Lib.hid (bl L0.out hb)
  clear hb
  go_wp2_with fail
  go_ret2
  exact ⟨rfl, L1.out⟩
end Go.Proofs.Ythhellgaafbokaa.Lg
