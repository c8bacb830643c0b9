/-
  PollMoments' topics, opened. No condition. By an AI agent.
-/
import Derived.Test.YthcaagkgddeabaaPmG
import Derived.Test.YthcaagkgddeabaaPoV
namespace Go.Proofs.Ythcaagkgddeabaa.Bank
set_option linter.unusedVariables false
set_option linter.unusedSimpArgs false
open Go Go.RowKit Go.Proofs.Ythcaagkgddeabaa.Base Go.ChangeShapes Go.WideShapes Go.Deep Go.Joins Go.Proofs.Ythcaagkgddeabaa.Queue
section
variable {H : Type} {enc : TypeId × Value → H} {W : World} {x : DataW H × List MemPlace} {fuel : Nat}
set_option maxRecDepth 100000 in
theorem two_of_cells {c0 c1 : Value} (h : DataW.trod enc Try.prog W 0 (fun _ => true) true fuel 51 [c0, c1] = some x) : ∃ a b : Int, c0 = .int .i64 a ∧ c1 = .int .i64 b := by
  obtain ⟨xs, m, _, _, _, hlen, hel⟩ := DataW.trod_array Try.underlying51 h
  have k0 : Try.prog.cellsOf 3 = 1 := by kernel_rfl
  have h0 := hel 0 (by decide)
  have h1 := hel 1 (by decide)
  rw [k0] at h0 h1
  rw [List.getElem?_eq_getElem (by omega)] at h0 h1
  obtain ⟨a, e0, _, _⟩ := DataW.trod_int Try.underlying3 h0
  obtain ⟨b, e1, _, _⟩ := DataW.trod_int Try.underlying3 h1
  simp at e0 e1
  exact ⟨a, b, e0, e1⟩
set_option maxRecDepth 100000 in
theorem topic_of_cells {cs : List Value} (hl : cs.length = 6) (h : DataW.trod enc Try.prog W 0 (fun _ => true) true fuel 53 cs = some x) : ∃ w d r0 r1 m0 m1 : Int, cs = [.int .i64 w, .int .i64 d, .int .i64 r0, .int .i64 r1, .int .i64 m0, .int .i64 m1] := by
  match cs, hl with
  | [c0, c1, c2, c3, c4, c5], _ =>
    obtain ⟨y0, y1, y2, y3, n, _, _, h0, h1, h2, h3⟩ := trod_struct4 Try.underlying53 h
    have k0 : Try.prog.cellsOf 3 = 1 := by kernel_rfl
    have k2 : Try.prog.cellsOf 51 = 2 := by kernel_rfl
    simp only [k0, k2, List.drop_zero, List.drop_succ_cons, List.take_succ_cons, List.take_zero] at h0 h1 h2 h3
    obtain ⟨a0, e0, _, _⟩ := DataW.trod_int Try.underlying3 h0
    obtain ⟨a1, e1, _, _⟩ := DataW.trod_int Try.underlying3 h1
    obtain ⟨a2, a3, e2, e3⟩ := two_of_cells h2
    obtain ⟨a4, a5, e4, e5⟩ := two_of_cells h3
    simp only [List.cons.injEq, and_true] at e0 e1
    subst e0 e1 e2 e3 e4 e5
    exact ⟨a0, a1, a2, a3, a4, a5, rfl⟩
end
def topM (c : List Value) : List Value := c
set_option maxRecDepth 100000 in
theorem tops_of_trod {H : Type} {enc : TypeId × Value → H} {W : World} {r : Reach} {b : Nat} {v : Value} {d : DataW H} {p : List MemPlace}
    (hv : Value.okWide Try.prog W r b 54 v) (h : DataW.Trod enc Try.prog W 0 (fun _ => true) true 54 v d p) : ∃ a : MT, v = .agg #[.int .i64 (a.W 0), .int .i64 (a.D 0), .int .i64 (a.rk 0), .int .i64 (a.rk 1), .int .i64 (a.rm 0), .int .i64 (a.rm 1), .int .i64 (a.W 1), .int .i64 (a.D 1), .int .i64 (a.rk 2), .int .i64 (a.rk 3), .int .i64 (a.rm 2), .int .i64 (a.rm 3)] := by
  have ht := Try.underlying54
  have hct : Try.prog.cellsOf 54 = 12 := by kernel_rfl
  have hce : Try.prog.cellsOf 53 = 6 := by kernel_rfl
  simp only [Value.okWide, ht] at hv
  obtain ⟨cs, rfl, hsz, _⟩ := hv
  rw [hct] at hsz
  obtain ⟨fuel, hf⟩ := h
  obtain ⟨xs, m, _, _, _, hlen, hel⟩ := DataW.trod_array ht hf
  have hcells : (Value.agg cs).cells.toList = cs.toList := by simp [Value.cells]
  rw [hcells] at hel
  have h0 := hel 0 (by decide)
  have h1 := hel 1 (by decide)
  rw [hce] at h0 h1
  rw [List.getElem?_eq_getElem (by omega)] at h0 h1
  obtain ⟨l⟩ := cs
  have hsz : l.length = 12 := hsz
  match l, hsz with
  | [c0, c1, c2, c3, c4, c5, c6, c7, c8, c9, c10, c11], _ =>
    simp only [Nat.zero_mul, Nat.one_mul, List.drop_zero, List.drop_succ_cons, List.take_succ_cons, List.take_zero] at h0 h1
    obtain ⟨w0, d0, r0, r1, m0, m1, e0⟩ := topic_of_cells rfl h0
    obtain ⟨w1, d1, r2, r3, m2, m3, e1⟩ := topic_of_cells rfl h1
    simp only [List.cons.injEq, and_true] at e0 e1
    obtain ⟨rfl, rfl, rfl, rfl, rfl, rfl⟩ := e0
    obtain ⟨rfl, rfl, rfl, rfl, rfl, rfl⟩ := e1
    exact ⟨⟨fun k => if k = 0 then w0 else w1, fun k => if k = 0 then d0 else d1, fun j => if j = 0 then r0 else if j = 1 then r1 else if j = 2 then r2 else r3, fun j => if j = 0 then m0 else if j = 1 then m1 else if j = 2 then m2 else m3⟩, rfl⟩
end Go.Proofs.Ythcaagkgddeabaa.Bank
