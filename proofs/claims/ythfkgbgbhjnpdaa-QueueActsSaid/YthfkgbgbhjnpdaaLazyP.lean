/-
  QueueLazy: the law's walk. No condition. By an AI agent.
-/
import Derived.Test.YthfkgbgbhjnpdaaQAwake
namespace Go.Proofs.Ythfkgbgbhjnpdaa.Queue
set_option linter.unusedVariables false
set_option linter.unusedSimpArgs false
open Go Go.RowKit Go.Proofs.Ythfkgbgbhjnpdaa.Base Go.ChangeShapes Go.Joins

theorem cur_of_trod {H : Type} {enc : TypeId × Value → H} {W : World} {r : Reach} {b : Nat} {v : Value} {d : DataW H} {p : List MemPlace}
    (hv : Value.okWide Try.prog W r b 27 v) (h : DataW.Trod enc Try.prog W 0 (fun _ => true) true 27 v d p) : ∃ c : Cur, c.Ok ∧ v = c.val := by
  obtain ⟨v0, v1, v2, v3, y0, y1, y2, y3, n, rfl, _, _, h0, h1, h2, h3⟩ := open_agg4 Try.underlying27 (by kernel_rfl) (by kernel_rfl) hv h
  obtain ⟨n0, e0, _, g0⟩ := DataW.trod_int Try.underlying22 h0
  obtain ⟨n1, e1, _, g1⟩ := DataW.trod_int Try.underlying3 h1
  obtain ⟨n2, e2, _, g2⟩ := DataW.trod_int Try.underlying22 h2
  obtain ⟨n3, e3, _, g3⟩ := DataW.trod_int Try.underlying22 h3
  simp only [List.cons.injEq, and_true] at e0 e1 e2 e3
  subst e0 e1 e2 e3
  exact ⟨⟨n0, n1, n2, n3⟩, ⟨u64_bounds g0, i64_bounds g1, u64_bounds g2, u64_bounds g3⟩, rfl⟩

theorem seen_seen {c : Cur} {a b : Int} (hr : c.Right) (ha : 0 ≤ a) (hab : a ≤ b) (hi : Is b) : seen (seen c a) b = seen c b := by
  obtain ⟨nx, cp, gt, ls⟩ := c
  obtain ⟨⟨r1, r2⟩, r3⟩ := hr
  unfold Is at hi
  simp only at r1 r2 r3
  unfold seen
  simp only
  by_cases h1 : a < nx
  · simp only [h1, if_true]
  · simp only [h1, if_false]
    have h2 : ¬ b < nx := by omega
    by_cases h3 : a - nx + 1 > cp
    · have h4 : b - nx + 1 > cp := by omega
      have h5 : ¬ b < a - cp + 1 := by omega
      simp only [h3, h4, h2, h5, if_true, if_false]
      by_cases h6 : b - (a - cp + 1) + 1 > cp
      · simp only [h6, if_true, Cur.mk.injEq, true_and]
        simp only [IntKind.wrap_u64]
        omega
      · simp only [h6, if_false, Cur.mk.injEq, true_and, and_true]
        have : a = b := by omega
        subst this
        exact ⟨rfl, rfl⟩
    · simp only [h3, if_false]
theorem mayE_seen {c : Cur} {a b : Int} (hr : c.Right) (ha : Is a) (hb : Is b) : mayE (seen c a) b = 0 := mayE_yes (seen_right hr ha) hb
theorem count_seen {c : Cur} {a b : Int} (hr : c.Right) (ha : 0 ≤ a) (hab : a ≤ b) (hi : Is b) : countC (seen c a) b = countC c b := by
  have hia : Is a := by unfold Is at *; omega
  unfold countC
  rw [mayE_seen hr hia hi, mayE_yes hr hi, seen_seen hr ha hab hi]
theorem takeE_seen {c : Cur} {a b : Int} (hr : c.Right) (ha : 0 ≤ a) (hab : a ≤ b) (hi : Is b) : takeE (seen c a) b = takeE c b := by
  have hia : Is a := by unfold Is at *; omega
  unfold takeE
  rw [mayE_seen hr hia hi, mayE_yes hr hi, seen_seen hr ha hab hi]
theorem takeX_seen {c : Cur} {a b : Int} (hr : c.Right) (ha : 0 ≤ a) (hab : a ≤ b) (hi : Is b) : takeX (seen c a) b = takeX c b := by
  unfold takeX
  rw [takeE_seen hr ha hab hi, seen_seen hr ha hab hi]
theorem takeC_seen {c : Cur} {a b : Int} (hr : c.Right) (ha : 0 ≤ a) (hab : a ≤ b) (hi : Is b) : takeC (seen c a) b = takeC c b := by
  unfold takeC
  rw [takeE_seen hr ha hab hi, seen_seen hr ha hab hi]
theorem seeC_yes {c : Cur} {a : Int} (hr : c.Right) (hi : Is a) : seeC c a = seen c a := by unfold seeC; rw [if_pos (mayE_yes hr hi)]
theorem seeC_no {c : Cur} {a : Int} (h : mayE c a ≠ 0) : seeC c a = Cur.zero := by unfold seeC; rw [if_neg h]

/-- the blocks of QueueLazy's variables in its one region that draws -/
structure Three (w : World) (b1 : Nat) (c1 : Array Value) (b2 : Nat) (c2 : Array Value) (b3 : Nat) (c3 : Array Value) (b4 : Nat) (c4 : Array Value) (W : World) : Prop where
  x : Blk W b1 27 c1
  y : Blk W b2 27 c2
  z : Blk W b3 27 c3
  u : Blk W b4 27 c4
  below : Below w.heap.size w W
theorem Three.bl {w W W' : World} {b1 b2 b3 b4 : Nat} {c1 c2 c3 c4 : Array Value} (h : Three w b1 c1 b2 c2 b3 c3 b4 c4 W) (hb : Below W.heap.size W W') : Three w b1 c1 b2 c2 b3 c3 b4 c4 W' :=
  ⟨h.x.bl hb, h.y.bl hb, h.z.bl hb, h.u.bl hb, Base.bl h.below hb⟩

end Go.Proofs.Ythfkgbgbhjnpdaa.Queue
