/-
  Law 16: turns that came in; a row of words of one's own. Conditions stand at each. By an AI agent.
-/
import Derived.Test.YthhellgaafbokaaLgW
import Derived.Test.YthhellgaafbokaaLgH
import Derived.Lib.SmallJoins
namespace Go.Proofs.Ythhellgaafbokaa.Lg
set_option linter.unusedVariables false
set_option linter.unusedSimpArgs false
open Go Go.RowKit Go.Proofs.Ythhellgaafbokaa.Base Go.Proofs.Ythhellgaafbokaa.Reg Go.Deep Go.ChangeShapes Go.WideShapes Go.Joins

theorem trod_struct5 {H : Type} {enc : TypeId × Value → H} {P : Program} {w : World} {base : Nat} {spare : Nat → Bool} {held : Bool} {t : TypeId} {f0 f1 f2 f3 f4 : Field} {fuel : Nat} {cs : List Value} {x : DataW H × List MemPlace} (ht : P.underlying t = some (.struct #[f0, f1, f2, f3, f4])) (h : DataW.trod enc P w base spare held fuel t cs = some x) :
    ∃ (y0 y1 y2 y3 y4 : DataW H × List MemPlace) (n : Nat), DataW.trod enc P w base spare held n f0.type ((cs.drop f0.offset).take (P.cellsOf f0.type)) = some y0 ∧ DataW.trod enc P w base spare held n f1.type ((cs.drop f1.offset).take (P.cellsOf f1.type)) = some y1 ∧
      DataW.trod enc P w base spare held n f2.type ((cs.drop f2.offset).take (P.cellsOf f2.type)) = some y2 ∧ DataW.trod enc P w base spare held n f3.type ((cs.drop f3.offset).take (P.cellsOf f3.type)) = some y3 ∧ DataW.trod enc P w base spare held n f4.type ((cs.drop f4.offset).take (P.cellsOf f4.type)) = some y4 := by
  obtain ⟨xs, n, _, rfl, hl, hlen, hf⟩ := DataW.trod_struct ht h
  match xs, hlen with
  | [y0, y1, y2, y3, y4], _ => exact ⟨y0, y1, y2, y3, y4, n, by simpa using hf 0 f0 rfl, by simpa using hf 1 f1 rfl, by simpa using hf 2 f2 rfl, by simpa using hf 3 f3 rfl, by simpa using hf 4 f4 rfl⟩
structure Tn where
  act : Int
  s : St
  at_ : Int
  x : Int
structure Tn.Ok (a : Tn) : Prop where
  act : -9223372036854775808 ≤ a.act ∧ a.act ≤ 9223372036854775807
  s : a.s.Ok
  at_ : -9223372036854775808 ≤ a.at_ ∧ a.at_ ≤ 9223372036854775807
  x : 0 ≤ a.x ∧ a.x ≤ 18446744073709551615
instance : Inhabited Tn := ⟨⟨0, St.zero, 0, 0⟩⟩
structure Tns (w : World) (v : Value) (n : Nat) (l : Nat → Tn) : Prop where
  form : ∃ A c, v = .slice A n c ∧ n ≤ maxLen ∧ (0 < n → ∃ b o, A = some ⟨b, o, none⟩ ∧ b < w.heap.size ∧ ∀ i : Nat, i < n →
    w.cell? ⟨b, o + i * 8, none⟩ = some (.int .i64 (l i).act) ∧ w.cell? ⟨b, o + i * 8 + 1, none⟩ = some (.int .i64 (l i).s.mode) ∧ w.cell? ⟨b, o + i * 8 + 2, none⟩ = some (.int .i64 (l i).s.source) ∧ w.cell? ⟨b, o + i * 8 + 3, none⟩ = some (.bool (l i).s.hold) ∧ w.cell? ⟨b, o + i * 8 + 4, none⟩ = some (.int .i64 (l i).s.flags) ∧ w.cell? ⟨b, o + i * 8 + 5, none⟩ = some (.int .u64 (l i).s.epoch) ∧ w.cell? ⟨b, o + i * 8 + 6, none⟩ = some (.int .i64 (l i).at_) ∧ w.cell? ⟨b, o + i * 8 + 7, none⟩ = some (.int .u64 (l i).x))
  ok : ∀ i : Nat, i < n → (l i).Ok
theorem tn_of_cells {H : Type} {enc : TypeId × Value → H} {W : World} {fuel : Nat} {cs : List Value} {x : DataW H × List MemPlace} (hl : cs.length = 8)
    (h : DataW.trod enc Try.prog W 0 (fun _ => true) true fuel 43 cs = some x) :
    ∃ a : Tn, a.Ok ∧ cs = [.int .i64 a.act, .int .i64 a.s.mode, .int .i64 a.s.source, .bool a.s.hold, .int .i64 a.s.flags, .int .u64 a.s.epoch, .int .i64 a.at_, .int .u64 a.x] := by
  match cs, hl with
  | [c0, c1, c2, c3, c4, c5, c6, c7], _ =>
    obtain ⟨y0, y1, y2, y3, n, _, _, h0, h1, h2, h3⟩ := trod_struct4 Try.underlying43 h
    have k0 : Try.prog.cellsOf 3 = 1 := by kernel_rfl
    have k1 : Try.prog.cellsOf 28 = 5 := by kernel_rfl
    have k2 : Try.prog.cellsOf 25 = 1 := by kernel_rfl
    have k3 : Try.prog.cellsOf 4 = 1 := by kernel_rfl
    simp only [k0, k1, k2, List.drop_zero, List.drop_succ_cons, List.take_succ_cons, List.take_zero] at h0 h1 h2 h3
    obtain ⟨z0, z1, z2, z3, z4, m, g0, g1, g2, g3, g4⟩ := trod_struct5 Try.underlying28 h1
    simp only [k0, k2, k3, List.drop_zero, List.drop_succ_cons, List.take_succ_cons, List.take_zero] at g0 g1 g2 g3 g4
    obtain ⟨a0, e0, _, w0⟩ := DataW.trod_int Try.underlying3 h0
    obtain ⟨a1, e1, _, w1⟩ := DataW.trod_int Try.underlying3 g0
    obtain ⟨a2, e2, _, w2⟩ := DataW.trod_int Try.underlying3 g1
    obtain ⟨a3, e3, _⟩ := DataW.trod_bool Try.underlying4 g2
    obtain ⟨a4, e4, _, w4⟩ := DataW.trod_int Try.underlying3 g3
    obtain ⟨a5, e5, _, w5⟩ := DataW.trod_int Try.underlying25 g4
    obtain ⟨a6, e6, _, w6⟩ := DataW.trod_int Try.underlying3 h2
    obtain ⟨a7, e7, _, w7⟩ := DataW.trod_int Try.underlying25 h3
    simp only [List.cons.injEq, and_true] at e0 e1 e2 e3 e4 e5 e6 e7
    subst e0 e1 e2 e3 e4 e5 e6 e7
    exact ⟨⟨a0, ⟨a1, a2, a3, a4, a5⟩, a6, a7⟩, ⟨i64_bounds w0, ⟨i64_bounds w1, i64_bounds w2, i64_bounds w4, u64_bounds w5⟩, i64_bounds w6, u64_bounds w7⟩, rfl⟩
set_option maxRecDepth 100000 in
theorem tns_of_trod {H : Type} {enc : TypeId × Value → H} {W : World} {r : Reach} {b : Nat} {v : Value} {d : DataW H} {p : List MemPlace}
    (hv : Value.okWide Try.prog W r b 30 v) (h : DataW.Trod enc Try.prog W 0 (fun _ => true) true 30 v d p) : ∃ x : Nat × (Nat → Tn), Tns W v x.1 x.2 := by
  obtain ⟨a0, len, cap, rfl⟩ := okWide_slice Try.underlying30 hv
  obtain ⟨fuel, hf⟩ := h
  rcases open_slice Try.underlying30 hf with ⟨hcs, hx⟩ | ⟨a, len', cap', m, n, D, Pl, hcs, _, hl, hm, hmm, hx, hi⟩
  · have hcs' : [Value.slice a0 len cap] = [.slice none 0 0] := hcs
    simp only [List.cons.injEq, Value.slice.injEq, and_true] at hcs'
    obtain ⟨rfl, rfl, rfl⟩ := hcs'
    exact ⟨(0, fun _ => default), ⟨none, 0, rfl, by simp [maxLen], fun hn => absurd hn (by omega)⟩, fun i hi => absurd hi (by omega)⟩
  · have hcs' : [Value.slice a0 len cap] = [.slice (some a) len' cap'] := hcs
    simp only [List.cons.injEq, Value.slice.injEq, and_true] at hcs'
    obtain ⟨rfl, rfl, rfl⟩ := hcs'
    simp only [if_true] at hmm
    have k6 : Try.prog.cellsOf 43 = 8 := by kernel_rfl
    rw [k6] at hi
    have hall : ∀ i, i < len → ∃ s : Tn, s.Ok ∧ W.cell? (a.add (i * 8 + 0)) = some (.int .i64 s.act) ∧ W.cell? (a.add (i * 8 + 1)) = some (.int .i64 s.s.mode) ∧ W.cell? (a.add (i * 8 + 2)) = some (.int .i64 s.s.source) ∧ W.cell? (a.add (i * 8 + 3)) = some (.bool s.s.hold) ∧
        W.cell? (a.add (i * 8 + 4)) = some (.int .i64 s.s.flags) ∧ W.cell? (a.add (i * 8 + 5)) = some (.int .u64 s.s.epoch) ∧ W.cell? (a.add (i * 8 + 6)) = some (.int .i64 s.at_) ∧ W.cell? (a.add (i * 8 + 7)) = some (.int .u64 s.x) := by
      intro i hlt
      obtain ⟨cs', hc, ht'⟩ := hi i (by omega)
      obtain ⟨_, hcl, hat⟩ := World.cells?_some hc
      obtain ⟨s, hs, rfl⟩ := tn_of_cells hcl ht'
      refine ⟨s, hs, ?_, ?_, ?_, ?_, ?_, ?_, ?_, ?_⟩
      · have := hat 0 (by omega); rw [Go.Deep.add_add] at this; simpa using this
      · have := hat 1 (by omega); rw [Go.Deep.add_add] at this; simpa using this
      · have := hat 2 (by omega); rw [Go.Deep.add_add] at this; simpa using this
      · have := hat 3 (by omega); rw [Go.Deep.add_add] at this; simpa using this
      · have := hat 4 (by omega); rw [Go.Deep.add_add] at this; simpa using this
      · have := hat 5 (by omega); rw [Go.Deep.add_add] at this; simpa using this
      · have := hat 6 (by omega); rw [Go.Deep.add_add] at this; simpa using this
      · have := hat 7 (by omega); rw [Go.Deep.add_add] at this; simpa using this
    obtain ⟨l, hl'⟩ := choose_lt hall
    refine ⟨(len, l), ⟨some a, cap, rfl, by omega, fun hn => ?_⟩, fun i hlt => (hl' i hlt).1⟩
    obtain ⟨ab, ao, sp⟩ := a
    have c0 := (hl' 0 hn).2.1
    have hsp : sp = none := by
      cases sp with
      | none => rfl
      | some s =>
        simp only [World.cell?, Addr.add] at c0
        split at c0 <;> simp at c0
    subst hsp
    refine ⟨ab, ao, rfl, ?_, fun i hlt => ?_⟩
    · simpa [Addr.add] using lt_of_cell c0
    · obtain ⟨_, s0, s1, s2, s3, s4, s5, s6, s7⟩ := hl' i hlt
      have e : ∀ j, (⟨ab, ao, none⟩ : Addr).add (i * 8 + j) = ⟨ab, ao + i * 8 + j, none⟩ := fun j => by unfold Addr.add; split <;> simp_all <;> omega
      rw [e] at s0 s1 s2 s3 s4 s5 s6 s7
      exact ⟨s0, s1, s2, s3, s4, s5, s6, s7⟩

/-- a row of words of one's own -/
structure RowAt (w : World) (r : Nat) (v : Value) (xs : List Int) : Prop where
  row : w.ownsRow 0 25 1 v xs.length (xs.map (Value.int .u64))
  own : ∀ k, v.ownBlock = some k → k = r
  lt : r < w.heap.size
theorem RowAt.ex {T : Nat → Prop} {w w' : World} {r : Nat} {v : Value} {xs : List Int} (h : RowAt w r v xs) (p : Ex T w w') (hr : ¬ T r) : RowAt w' r v xs :=
  ⟨ownsRow_ex h.row p (fun k hk ht => hr (h.own k hk ▸ ht)), h.own, Nat.lt_of_lt_of_le h.lt p.size⟩
theorem RowAt.new (w : World) : RowAt (w.alloc (.cells #[] 25)) w.heap.size (.slice (some ⟨w.heap.size, 0, none⟩) 0 0) [] :=
  ⟨World.ownsRow_made w #[] 0 (Nat.zero_le _) (Nat.zero_le _) rfl, fun k hk => by simp [Value.ownBlock] at hk; exact hk.symm, by simp⟩
theorem RowAt.cell {w : World} {r : Nat} {A : Option Addr} {c n : Nat} {xs : List Int} (h : RowAt w r (.slice A n c) xs) {i : Nat} (hi : i < xs.length) : A = some ⟨r, 0, none⟩ ∧ w.cell? ⟨r, i, none⟩ = some (.int .u64 (nth xs i)) := by
  rcases h.row.2 with ⟨h1, h0⟩ | ⟨g, cap, cur, hv, hb, hg, hn, hcap, hcur, ht⟩
  · omega
  · simp only [Value.slice.injEq] at hv
    obtain ⟨rfl, rfl, rfl⟩ := hv
    have e := h.own g rfl
    subst e
    refine ⟨rfl, ?_⟩
    have h1 : (cur.toList.take (xs.length * 1))[i]? = (xs.map (Value.int .u64))[i]? := by rw [ht]
    rw [List.getElem?_take_of_lt (by omega)] at h1
    simp only [World.cell?, hg]
    simp only [Option.isSome_none, Bool.false_eq_true, if_false]
    rw [← Array.getElem?_toList, h1]
    simp [nth, List.getD_eq_getElem?_getD, List.getElem?_eq_getElem hi]
def rdDone (rd : List Int) (long : Int) : Int := if (rd.length : Int) = long then 1 else 0
end Go.Proofs.Ythhellgaafbokaa.Lg
