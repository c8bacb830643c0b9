/-
  Law 12: the branches of a poll's step, walked. Printed by wip/tools/mkpoe.py. Conditions stand at each. By an AI agent.
-/
import Derived.Test.YthcaagkgddeabaaPoD
import Derived.Test.YthcaagkgddeabaaGoto
import Derived.Maps.AppendAt
namespace Go.Proofs.Ythcaagkgddeabaa.Bank
set_option linter.unusedVariables false
set_option linter.unusedSimpArgs false
open Go Go.RowKit Go.Proofs.Ythcaagkgddeabaa.Base Go.Deep Go.ChangeShapes Go.WideShapes Go.Proofs.Ythcaagkgddeabaa.Queue
/-- what holds of a poll that is under way -/
structure PInv (c : PC) (x : PX) : Prop where
  ok : c.Ok
  fit : PFit c x
  left : 1 ≤ x.left ∧ x.left ≤ 16
  st : 0 ≤ x.steps ∧ x.steps ≤ 1099511627776
  nx : 0 ≤ x.next
  way : x.how = 0 → (x.round = 1 ∧ x.next < c.T) ∨ (x.round = 3 ∧ x.next < c.T) ∨ (x.round = 2 ∧ x.next < x.size ∧ x.size ≤ 64 ∧ 0 ≤ x.place ∧ x.place ≤ 1100000 ∧ (x.words.length : Int) = x.next)
theorem TopsIn.setGen {w : World} {r T : Nat} {l : Nat → Tp} {gl : List Int} (h : TopsIn w r T l gl) {i : Nat} (hi : i < T) (hl : gl.length = T) (v : Int) : TopsIn (w.setCell ⟨r, i * 7 + 6, none⟩ (.int .u64 v)) r T l (gl.set i v) := by
  have h6 := h.cells i hi 6 (by decide)
  refine ⟨by simpa [World.setCell] using h.lt, fun k hk j hj => ?_, fun a => by simp only [setCell_fro]; exact h.fro a⟩
  have hcj := h.cells k hk j hj
  rw [cell_set h6, nth_set _ _ _ _ (by rw [hl]; exact hi)]
  by_cases e : k = i
  · subst e
    rw [if_pos rfl]
    have hj7 : j = 0 ∨ j = 1 ∨ j = 2 ∨ j = 3 ∨ j = 4 ∨ j = 5 ∨ j = 6 := by omega
    rcases hj7 with rfl | rfl | rfl | rfl | rfl | rfl | rfl
    · rw [if_neg (by omega)]; exact hcj
    · rw [if_neg (by omega)]; exact hcj
    · rw [if_neg (by omega)]; exact hcj
    · rw [if_neg (by omega)]; exact hcj
    · rw [if_neg (by omega)]; exact hcj
    · rw [if_neg (by omega)]; exact hcj
    · rw [if_pos rfl]; rfl
  · rw [if_neg e, if_neg (by omega)]; exact hcj
theorem wordF_range {w : World} {g h : Nat} {ws : List Int} {t : Int} (b : BankAt w g h ws t) (i : Int) : 0 ≤ wordF ws i ∧ wordF ws i ≤ 18446744073709551615 := by
  unfold wordF
  split
  · exact b.range _
  · omega
theorem BankAt.ex {T : Nat → Prop} {w w' : World} {g h : Nat} {ws : List Int} {t : Int} (b : BankAt w g h ws t) (p : Ex T w w') (hg : ¬ T g) (hh : ¬ T h) : BankAt w' g h ws t := ⟨b.head.ex p hg, b.row.ex p hh, b.len, b.fit⟩
theorem one_new (w : World) (v : Int) : ∀ j u, [Value.int .u64 v][j]? = some u → (w.alloc (.cells #[.int .u64 v] 32)).cell? ((⟨w.heap.size, 0, none⟩ : Addr).add j) = some u := by
  have hbn := Blk.new w 32 #[.int .u64 v]
  intro j u hj
  match j, hj with
  | 0, hj => simp at hj; subst hj; exact hbn.cell 0
theorem one_oc (v : Int) : ∀ u ∈ [Value.int .u64 v], u.oneCell' = true := by
  intro u hu
  simp only [List.mem_cons, List.not_mem_nil, or_false] at hu
  subst hu; rfl
theorem len_ok {n : Nat} (h : n ≤ 64) : n + 1 ≤ maxLen ∧ (n + 1) * 8 ≤ 140737488355328 := by unfold maxLen; omega
theorem ex_grown {T : Nat → Prop} {a b : World} {r : Option Nat} (h : a.grownBy b r) (hT : ∀ k, r = some k → T k) : Ex T a b := ⟨h.os, h.tape, h.output, h.size, fun k hk hn => h.block k hk (fun e => hn (hT k e.symm))⟩
theorem OwnR.at_ {w : World} {A : Option Addr} {n c : Nat} {W : List Int} (h : OwnR w (.slice A n c) W) (hn : W.length = n) : w.ownsRow 0 32 1 (.slice A n c) n (W.map (Value.int .u64)) := by
  subst hn; exact h
theorem row_push {w w' : World} {A : Option Addr} {n c q : Nat} {N : Nat → Prop} {W : List Int} {v : Int} {v' : Value} {ob : Obj} (h : OwnR w (.slice A n c) W) (hn : W.length = n) (hq : q < w.heap.size)
    (hw : ∀ k, (Value.slice A n c).ownBlock = some k → k = q ∧ ¬ N k) (hN : ∀ k, N k → k < w.heap.size)
    (hown : w'.ownsRow 0 32 1 v' (n + 1) (W.map (Value.int .u64) ++ [.int .u64 v])) (hgrow : (w.alloc ob).grownBy w' (Value.slice A n c).ownBlock) (hat : v'.ownBlock = (Value.slice A n c).ownBlock ∨ v'.ownBlock = some (w.alloc ob).heap.size) :
    OwnR w' v' (W ++ [v]) ∧ Ex (fun k => (Value.slice A n c).ownBlock = some k) w w' ∧ ∃ q', q' < w'.heap.size ∧ (q' = q ∨ w.heap.size ≤ q') ∧ ∀ k, v'.ownBlock = some k → k = q' ∧ ¬ N k := by
  have ho : OwnR w' v' (W ++ [v]) := by
    unfold OwnR
    rw [List.map_append, List.length_append, hn]
    exact hown
  have hx : Ex (fun k => (Value.slice A n c).ownBlock = some k) w w' := ((Ex.refl _ w).alloc ob).trans (ex_grown hgrow (fun k hk => hk))
  refine ⟨ho, hx, ?_⟩
  rcases hat with e | e
  · exact ⟨q, Nat.lt_of_lt_of_le hq hx.size, .inl rfl, fun k hk => hw k (e ▸ hk)⟩
  · refine ⟨(w.alloc ob).heap.size, (World.ownsRow.lt ho _ e).2, .inr (by simp), fun k hk => ?_⟩
    rw [e] at hk
    injection hk with hk
    subst hk
    exact ⟨rfl, fun h => by have := hN _ h; simp at this; omega⟩
theorem PFit.set {c : PC} {x : PX} (h : PFit c x) {j : Nat} (hj : j < c.T) {v : Int} (hv : 0 ≤ v ∧ v < 9223372036854775808) {left round next pk gen place size how steps begun : Int} {words : List Int} :
    PFit c ⟨left, round, next, pk, gen, place, size, how, steps, begun, words, x.gl.set j v, x.cu⟩ :=
  ⟨h.cu, fun u hu => by
    rcases List.mem_or_eq_of_mem_set hu with h1 | h1
    · exact h.gl u h1
    · rw [h1]; exact hv, by simp only [List.length_set]; exact h.glen⟩
theorem PFit.same {c : PC} {x : PX} (h : PFit c x) {left round next pk gen place size how steps begun : Int} {words : List Int} :
    PFit c ⟨left, round, next, pk, gen, place, size, how, steps, begun, words, x.gl, x.cu⟩ := ⟨h.cu, h.gl, h.glen⟩
theorem chooseP_form (c : PC) (x : PX) : ∃ pk gen place size, chooseP c x = ⟨x.left, x.round, x.next, pk, gen, place, size, x.how, x.steps, x.steps, [], x.gl, x.cu⟩ := by
  unfold chooseP
  split
  · exact ⟨_, _, _, _, rfl⟩
  · exact ⟨_, _, _, _, rfl⟩
/-- behind the first round -/
def firstP (c : PC) (x : PX) : PX := { chooseP c x with round := if (chooseP c x).size = 0 then 3 else 2, next := 0 }
theorem pstep_nums {steps : Int} {j : Nat} (h : 0 ≤ steps ∧ steps ≤ 1099511627776) (hj : j ≤ 64) : wrap64 (steps + 1) = steps + 1 ∧ wrap64 ((j : Int) + 1) = (j : Int) + 1 := ⟨wrap64_in _ (by omega), wrap64_in _ (by omega)⟩
theorem left_nums {left : Int} (h : 1 ≤ left ∧ left ≤ 16) : wrap64 (left - 1) = left - 1 := wrap64_in _ (by omega)
theorem place_nums {place : Int} {j : Nat} (h : 0 ≤ place ∧ place ≤ 1100000) (hj : j ≤ 64) : wrap64 (place + (j : Int)) = place + (j : Int) := wrap64_in _ (by omega)
end Go.Proofs.Ythcaagkgddeabaa.Bank
