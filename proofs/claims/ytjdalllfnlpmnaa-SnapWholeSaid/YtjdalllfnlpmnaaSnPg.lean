/-
  Law 10: small lemmas for SnapWhole's walk. Conditions stand at each. By an AI agent.
-/
import Derived.Test.YtjdalllfnlpmnaaSnPf
import Derived.Test.YtjdalllfnlpmnaaSnI2
import Derived.Deep.Onto
namespace Go.Proofs.Ytjdalllfnlpmnaa.Bank
set_option linter.unusedVariables false
set_option linter.unusedSimpArgs false
open Go.ChangeShapes Go.WideShapes Go.ChangeAt Go Go.RowKit Go.Proofs.Ytjdalllfnlpmnaa.Base
set_option maxRecDepth 100000 in
theorem try_of_trod {H : Type} {enc : TypeId × Value → H} {W : World} {r : Reach} {b : Nat} {v : Value} {d : DataW H} {p : List MemPlace}
    (hv : Value.okWide Try.prog W r b 71 v) (h : DataW.Trod enc Try.prog W 0 (fun _ => true) true 71 v d p) :
    ∃ x : Int × Int, v = .agg #[.int .u64 x.1, .int .i64 x.2] := by
  obtain ⟨cs, rfl, hsz⟩ := okWide_struct Try.underlying71 hv
  rw [show Try.prog.cellsOf 71 = 2 by kernel_rfl] at hsz
  obtain ⟨c0, c1, rfl⟩ : ∃ c0 c1, cs = #[c0, c1] := by
    obtain ⟨l⟩ := cs
    match l, hsz with
    | [a, b], _ => exact ⟨a, b, rfl⟩
  obtain ⟨fuel, hf⟩ := h
  obtain ⟨ys, m, _, _, _, hyl, hg⟩ := DataW.trod_struct Try.underlying71 hf
  have hcells : (Value.agg #[c0, c1]).cells.toList = [c0, c1] := by simp [Value.cells]
  rw [hcells] at hg
  have hs : DataW.trod enc Try.prog W 0 (fun _ => true) true m 42 [c0] = ys[0]? := by
    have h9 := hg 0 _ rfl
    change DataW.trod enc Try.prog W 0 (fun _ => true) true m 42 (List.take (Try.prog.cellsOf 42) (List.drop 0 [c0, c1])) = _ at h9
    rw [show Try.prog.cellsOf 42 = 1 by kernel_rfl] at h9
    exact h9
  have ht : DataW.trod enc Try.prog W 0 (fun _ => true) true m 3 [c1] = ys[1]? := by
    have h9 := hg 1 _ rfl
    change DataW.trod enc Try.prog W 0 (fun _ => true) true m 3 (List.take (Try.prog.cellsOf 3) (List.drop 1 [c0, c1])) = _ at h9
    rw [show Try.prog.cellsOf 3 = 1 by kernel_rfl] at h9
    exact h9
  obtain ⟨y0, hy0⟩ : ∃ y0, ys[0]? = some y0 := ⟨_, List.getElem?_eq_getElem (by rw [hyl]; decide)⟩
  obtain ⟨y1, hy1⟩ : ∃ y1, ys[1]? = some y1 := ⟨_, List.getElem?_eq_getElem (by rw [hyl]; decide)⟩
  rw [hy0] at hs
  rw [hy1] at ht
  obtain ⟨z0, e0, _, _⟩ := DataW.trod_int Try.underlying42 hs
  obtain ⟨z1, e1, _, _⟩ := DataW.trod_int Try.underlying3 ht
  simp only [List.cons.injEq, and_true] at e0 e1
  subst e0
  subst e1
  exact ⟨(z0, z1), rfl⟩
/-- topic k's operation is over; what else was turned is none of the operations' -/
theorem OpsAt.end2 {T : Nat → Prop} {w w' : World} {ob n B : Nat} {l : Nat → Tp} {cnt : Nat → Nat} {st : Nat → Option W1} {lam : Nat → Nat} (h : OpsAt w ob n B l cnt st lam) (hB : ob < B) {k : Nat} (hk : k < n) (p : Ex T w w') (h1 : ¬ T ob) (h2 : ∀ b, T b → b < B ∨ lam b = k ∨ n ≤ lam b) (c : Nat) :
    OpsAt (w'.setCell ⟨ob, k, none⟩ (.pointer none)) ob n B l (upC cnt k c) (upS st k none) lam := by
  have hx := (Ex.refl (fun b => b = ob) w').setCell (q := ⟨ob, k, none⟩) (.inl rfl) (.pointer none)
  refine ⟨?_, fun j hj a ha => ?_⟩
  · have h1 : Blk w' ob 61 (ptrs n st) := h.row.ex p h1
    have := h1.set_ k (.pointer none)
    rw [show (Value.pointer none) = ptrV none from rfl, ptrs_set] at this
    exact this
  · by_cases e : j = k
    · subst e; rw [upS_self] at ha; cases ha
    · rw [upS_ne _ _ e] at ha
      obtain ⟨a1, b1, c1, d1, e1, f1⟩ := h.ops j hj a ha
      have ec : upC cnt k c j = cnt j := if_neg e
      rw [ec]
      exact ⟨(a1.ex p (fun ht => by have := h2 _ ht; omega) (fun ht => by have := h2 _ ht; omega)).ex hx (by omega) (by omega), b1, c1, d1, e1, f1⟩
theorem NbAt.low {w : World} {n B B' : Nat} {lam : Nat → Nat} {v : Value} {NB : List (Nat → Nat)} {vals : List Value} (h : NbAt w n B' lam v NB vals) (hb : B ≤ B') : NbAt w n B lam v NB vals :=
  ⟨h.1, h.2.1.mono hb, h.2.2.1, fun s f hf => by
    obtain ⟨r, c, e, h1, h2, h3⟩ := h.2.2.2 s f hf
    exact ⟨r, c, e, by omega, h2, h3⟩⟩
theorem set_nth_mine {M : List Int} {st : Nat → Option W1} {n k : Nat} (hl : M.length = n) (hM : ∀ j, j < n → ∀ s, st j = some s → nth M j = s.x) {x : Int} {s0 : W1} (hx : s0.x = x) (hk : k < n) : ∀ j, j < n → ∀ s, upS st k (some s0) j = some s → nth (M.set k x) j = s.x := by
  intro j hj s hs
  rw [nth_set _ _ _ _ (by omega)]
  by_cases e : j = k
  · subst e
    rw [upS_self] at hs
    injection hs with hs
    rw [if_pos rfl, ← hs, hx]
  · rw [upS_ne _ _ e] at hs
    rw [if_neg e]
    exact hM j hj s hs
theorem mine_step {M : List Int} {st : Nat → Option W1} {n k : Nat} (hM : ∀ j, j < n → ∀ s, st j = some s → nth M j = s.x) {s0 s1 : W1} (h0 : st k = some s0) (hx : s1.x = s0.x) : ∀ j, j < n → ∀ s, upS st k (some s1) j = some s → nth M j = s.x := by
  intro j hj s hs
  by_cases e : j = k
  · subst e
    rw [upS_self] at hs
    injection hs with hs
    rw [← hs, hx]
    exact hM j hj s0 h0
  · rw [upS_ne _ _ e] at hs
    exact hM j hj s hs
theorem mine_end {M : List Int} {st : Nat → Option W1} {n k : Nat} (hM : ∀ j, j < n → ∀ s, st j = some s → nth M j = s.x) : ∀ j, j < n → ∀ s, upS st k none j = some s → nth M j = s.x := by
  intro j hj s hs
  by_cases e : j = k
  · subst e
    rw [upS_self] at hs
    cases hs
  · rw [upS_ne _ _ e] at hs
    exact hM j hj s hs
theorem own_form3 {w : World} {base : Nat} {e : TypeId} {size : Nat} {v : Value} {n : Nat} {xs : List Value} (h : w.ownsRow base e size v n xs) : ∃ A c, v = .slice A n c := by
  rcases h.2 with ⟨rfl, rfl⟩ | ⟨g, cap, cur, rfl, _⟩
  · exact ⟨none, 0, rfl⟩
  · exact ⟨_, _, rfl⟩
theorem sumC_zero : ∀ n : Nat, sumC (fun _ => 0) n = 0
  | 0 => rfl
  | n + 1 => by unfold sumC; rw [sumC_zero n]
theorem Snp.most {n m : Nat} {l : Nat → Tp} {T : Int} {x : SX} {cnt base : Nat → Nat} {frm : Nat} {NB : List (Nat → Nat)} {dn : Nat → Nat → Int} (h : Snp n m l T x cnt base frm NB dn) : x.steps ≤ (2 * (n : Int) + (m : Int)) * T := by
  have h1 := h.steps.2
  have h2 := h.tr
  have h3 := h.k
  have hmul : (2 * (n : Int) + (m : Int)) * (T - x.tries + 1) = (2 * (n : Int) + (m : Int)) * (T - x.tries) + (2 * (n : Int) + (m : Int)) := by rw [Int.mul_add, Int.mul_one]
  have hT : (2 * (n : Int) + (m : Int)) * (T - x.tries + 1) ≤ (2 * (n : Int) + (m : Int)) * T := Int.mul_le_mul_of_nonneg_left (by omega) (by omega)
  omega
theorem most_laid {n m : Nat} {l : Nat → Tp} {T : Int} (h : TOk n l) (hT : 1 ≤ T ∧ T ≤ 16) (hm : widthF (laidS l) n = (m : Int)) : sMostF n (laidS l) T = (2 * (n : Int) + (m : Int)) * T := by
  unfold sMostF
  rw [if_neg (by rw [laid_wrong h hT]; simp), hm]
/-- of each way of a step: how many steps it did then -/
theorem step_cnt {n m : Nat} {l : Nat → Tp} {T : Int} {x6 : SX} {cnt : Nat → Nat} {frm : Nat} {NB : List (Nat → Nat)} {dn : Nat → Nat → Int}
    (h : (x6.how = 0 ∧ ∃ base', Snp n m l T x6 cnt base' frm (NB ++ [cnt]) dn) ∨ (x6.how = 1 ∧ SFin n m l x6 cnt (NB ++ [cnt]) dn ∧ x6.steps = ((NB ++ [cnt]).length : Int) ∧ x6.steps ≤ (2 * (n : Int) + (m : Int)) * T) ∨
      (x6.how = 2 ∧ (frm : Int) + T ≤ (sumC cnt n : Int) ∧ x6.steps = ((NB ++ [cnt]).length : Int) ∧ x6.steps ≤ (2 * (n : Int) + (m : Int)) * T)) (q : Nat) (hq : NB.length + 1 = q) :
    x6.steps = (q : Int) ∧ (q : Int) ≤ (2 * (n : Int) + (m : Int)) * T ∧ x6.how ≠ 3 := by
  have e : ((NB ++ [cnt]).length : Int) = (q : Int) := by rw [List.length_append]; simp; omega
  rcases h with ⟨h0, b, hs⟩ | ⟨h0, -, h1, h2⟩ | ⟨h0, -, h1, h2⟩
  · have h1 := hs.steps.1
    have h2 := hs.most
    exact ⟨h1.trans e, by rw [← e, ← h1]; exact h2, by omega⟩
  · exact ⟨h1.trans e, by rw [← e, ← h1]; exact h2, by omega⟩
  · exact ⟨h1.trans e, by rw [← e, ← h1]; exact h2, by omega⟩
end Go.Proofs.Ytjdalllfnlpmnaa.Bank
