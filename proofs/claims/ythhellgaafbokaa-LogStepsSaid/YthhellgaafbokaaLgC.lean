/-
  Log: the states that were read are sorted. Conditions stand at each. By an AI agent.
-/
import Derived.Test.YthhellgaafbokaaLgK
import Derived.Test.YthhellgaafbokaaLgA
namespace Go.Proofs.Ythhellgaafbokaa.Lg
set_option linter.unusedVariables false
set_option linter.unusedSimpArgs false
open Go Go.RowKit Go.Sort Go.Proofs Go.Proofs.Ythhellgaafbokaa.Base Go.Proofs.Ythhellgaafbokaa.Reg

def encS (s : St) : List Value := [.int .i64 s.mode, .int .i64 s.source, .bool s.hold, .int .i64 s.flags, .int .u64 s.epoch]
theorem encS_len (s : St) : (encS s).length = 5 := rfl
theorem encS_one (s : St) : ∀ v ∈ encS s, v.oneCell' = true := by
  intro v hv
  simp only [encS, List.mem_cons, List.not_mem_nil, or_false] at hv
  rcases hv with rfl | rfl | rfl | rfl | rfl <;> rfl
def flatS (l : List St) : List Value := l.flatMap encS
theorem flatS_len : ∀ l : List St, (flatS l).length = l.length * 5
  | [] => rfl
  | s :: l => by
    have := flatS_len l
    simp only [flatS, List.flatMap_cons, List.length_append, encS_len, List.length_cons] at *
    omega
theorem flatS_append (l r : List St) : flatS (l ++ r) = flatS l ++ flatS r := by simp [flatS]
theorem flatS_one (s : St) : flatS [s] = encS s := by simp [flatS]
theorem flatS_get : ∀ (l : List St) (i : Nat) (s : St), l[i]? = some s → ∀ j, j < 5 → (flatS l)[i * 5 + j]? = (encS s)[j]?
  | [], i, s, h => by simp at h
  | a :: l, 0, s, h => by
    intro j hj
    simp only [List.getElem?_cons_zero, Option.some.injEq] at h
    subst h
    simp only [flatS, List.flatMap_cons, Nat.zero_mul, Nat.zero_add]
    rw [List.getElem?_append_left (by rw [encS_len]; exact hj)]
  | a :: l, i + 1, s, h => by
    intro j hj
    simp only [List.getElem?_cons_succ] at h
    have := flatS_get l i s h j hj
    simp only [flatS, List.flatMap_cons] at *
    rw [List.getElem?_append_right (by rw [encS_len]; omega), encS_len, show (i + 1) * 5 + j - 5 = i * 5 + j by omega]
    exact this
theorem flatK_eq (l : List St) : flatK encS 5 l.toArray = (flatS l).toArray := by
  apply Array.ext'
  apply List.ext_getElem?
  intro t
  by_cases h : t < l.length * 5
  · have h1 : t / 5 < l.length := by omega
    have h2 := flatS_get l (t / 5) (l[t / 5]) (List.getElem?_eq_getElem h1) (t % 5) (by omega)
    rw [show t / 5 * 5 + t % 5 = t by omega] at h2
    simp only [List.toList_toArray]
    rw [h2]
    have h3 := get_flatK encS 5 l.toArray t (by simpa using h)
    have h4 : t < (flatK encS 5 l.toArray).size := by simpa using h
    rw [getElem!_pos (flatK encS 5 l.toArray) t h4] at h3
    rw [Array.getElem?_toList, Array.getElem?_eq_getElem h4, h3]
    have h5 : (l.toArray)[t / 5]! = l[t / 5] := by simp [h1]
    rw [h5]
    have h6 : t % 5 < (encS l[t / 5]).length := by rw [encS_len]; omega
    rw [getElem!_pos (encS l[t / 5]) (t % 5) h6, List.getElem?_eq_getElem h6]
  · rw [List.getElem?_eq_none (by rw [Array.length_toList, size_flatK]; simp; omega), List.getElem?_eq_none (by simp only [List.toList_toArray]; rw [flatS_len]; omega)]
theorem holds_own {w : World} {g : Nat} {cur : Array Value} {e : TypeId} {l : List St} (hb : w.heap[g]? = some (.cells cur e (0, 0))) (ht : cur.toList.take (l.length * 5) = flatS l) : HoldsK encS 5 w g 0 l.toArray := by
  unfold HoldsK
  rw [flatK_eq]
  intro j hj
  have hj' : j < l.length * 5 := by rw [← flatS_len]; simpa using hj
  refine ⟨?_, by simp [World.frozen?, hb]⟩
  have h1 : (cur.toList.take (l.length * 5))[j]? = (flatS l)[j]? := by rw [ht]
  rw [List.getElem?_take_of_lt hj'] at h1
  simp only [World.cell?, hb, Nat.zero_add]
  simp only [Option.isSome_none, Bool.false_eq_true, if_false]
  rw [← Array.getElem?_toList, h1]
  have h2 : j < (flatS l).length := by simpa using hj
  simp [h2]
theorem heap_put {w : World} {g n : Nat} {os : Array Obj} {cur : Array Value} {e : TypeId} {fr : Nat × Nat} (d : Array Value) (hb : w.heap[g]? = some (.cells cur e fr)) :
    (grow (putRow id (Sort.ahead w n) g 0 d) os).heap[g]? = some (.cells (putCells id 0 d cur) e fr) := by
  have hg : g < w.heap.size := (Array.getElem?_eq_some_iff.1 hb).1
  rw [heap_grow_old _ _ (by simpa using hg)]
  simp [putRow, mapBlock, Sort.ahead, Array.getElem?_modify, hb, onCells]
theorem grownBy_put {w : World} {g n : Nat} {os : Array Obj} (d : Array Value) : w.grownBy (grow (putRow id (Sort.ahead w n) g 0 d) os) (some g) := by
  refine ⟨rfl, rfl, rfl, by simp, fun k hk hne => ?_⟩
  rw [heap_grow_old _ _ (by simpa using hk)]
  have : g ≠ k := fun e => hne (by rw [e])
  simp [putRow, mapBlock, Sort.ahead, Array.getElem?_modify, this]
theorem take_put (cur : Array Value) (ts : List Value) (h : ts.length ≤ cur.size) : (putCells id 0 ts.toArray cur).toList.take ts.length = ts := by
  apply List.ext_getElem?
  intro j
  by_cases hj : j < ts.length
  · rw [List.getElem?_take_of_lt hj, Array.getElem?_toList]
    simp [putCells, hj, show j < cur.size by omega]
  · rw [List.getElem?_take_eq_none (by omega), List.getElem?_eq_none (by omega)]

/-- a state is laid where its epoch wants it, ahead of the first one that is not less -/
def insS (s : St) : List St → List St
  | [] => [s]
  | t :: l => if t.epoch < s.epoch then t :: insS s l else s :: t :: l
def sortS (l : List St) : List St := l.foldl (fun a s => insS s a) []
theorem sortS_push (l : List St) (s : St) : sortS (l ++ [s]) = insS s (sortS l) := by simp [sortS]
theorem insS_perm (s : St) : ∀ l : List St, (insS s l).Perm (s :: l)
  | [] => .refl _
  | t :: l => by
    unfold insS
    split
    · exact ((insS_perm s l).cons t).trans (.swap s t l)
    · exact .refl _
theorem sortS_perm (l : List St) : (sortS l).Perm l := by
  have h : ∀ (l a : List St), (l.foldl (fun a s => insS s a) a).Perm (a ++ l) := by
    intro l
    induction l with
    | nil => intro a; simp
    | cons s l ih =>
      intro a
      simp only [List.foldl_cons]
      refine (ih (insS s a)).trans ?_
      refine ((insS_perm s a).append_right l).trans ?_
      simpa using (List.perm_middle (a := s) (l₁ := a) (l₂ := l)).symm
  have := h l []
  rw [List.nil_append] at this
  exact this
def Rising (l : List St) : Prop := l.Pairwise (fun a b => a.epoch < b.epoch)
def Apart (l : List St) : Prop := l.Pairwise (fun a b => a.epoch ≠ b.epoch)
theorem insS_rising (s : St) : ∀ l : List St, Rising l → (∀ t ∈ l, t.epoch ≠ s.epoch) → Rising (insS s l)
  | [], _, _ => List.pairwise_singleton _ _
  | t :: l, h, hn => by
    have h1 := (List.pairwise_cons.1 h)
    unfold insS
    split
    · rename_i hlt
      refine List.pairwise_cons.2 ⟨fun x hx => ?_, insS_rising s l h1.2 (fun y hy => hn y (List.mem_cons_of_mem _ hy))⟩
      rcases List.mem_cons.1 ((insS_perm s l).mem_iff.1 hx) with e | e
      · rw [e]; exact hlt
      · exact h1.1 x e
    · rename_i hlt
      have hts : s.epoch < t.epoch := by have := hn t (List.mem_cons_self ..); omega
      refine List.pairwise_cons.2 ⟨fun x hx => ?_, h⟩
      rcases List.mem_cons.1 hx with e | e
      · rw [e]; exact hts
      · have := h1.1 x e; omega
theorem sortS_rising (l : List St) (h : Apart l) : Rising (sortS l) := by
  have k : ∀ (l a : List St), Rising a → Apart l → (∀ x ∈ a, ∀ y ∈ l, x.epoch ≠ y.epoch) → Rising (l.foldl (fun a s => insS s a) a) := by
    intro l
    induction l with
    | nil => intro a ha _ _; exact ha
    | cons s l ih =>
      intro a ha hl hx
      have h1 := List.pairwise_cons.1 hl
      simp only [List.foldl_cons]
      refine ih _ (insS_rising s a ha (fun t ht => hx t ht s (List.mem_cons_self ..))) h1.2 (fun x hxx y hy => ?_)
      rcases List.mem_cons.1 ((insS_perm s a).mem_iff.1 hxx) with e | e
      · rw [e]; exact h1.1 y hy
      · exact hx x e y (List.mem_cons_of_mem _ hy)
  exact k l [] .nil h (fun x hx => by simp at hx)
theorem rising_unique : ∀ (a b : List St), a.Perm b → Rising a → Rising b → a = b
  | [], b, h, _, _ => (List.nil_perm.1 h).symm
  | x :: a, [], h, _, _ => by have := h.length_eq; simp at this
  | x :: a, y :: b, h, ha, hb => by
    have h1 := List.pairwise_cons.1 ha
    have h2 := List.pairwise_cons.1 hb
    have e : x = y := by
      rcases List.mem_cons.1 (h.mem_iff.1 (List.mem_cons_self ..) : x ∈ y :: b) with e | e
      · exact e
      · rcases List.mem_cons.1 (h.mem_iff.2 (List.mem_cons_self ..) : y ∈ x :: a) with e2 | e2
        · exact e2.symm
        · have := h1.1 y e2; have := h2.1 x e; omega
    subst e
    rw [rising_unique a b (List.Perm.cons_inv h) h1.2 h2.2]
/-- a permutation in which no later one is less is the sorted list, if no two epochs are one -/
theorem sorted_is (l d : List St) (hp : d.Perm l) (ha : Apart l) (hs : ∀ i j, i < j → j < d.length → ¬ (d[j]!).epoch < (d[i]!).epoch) : d = sortS l := by
  have had : Apart d := hp.symm.pairwise ha (fun h => Ne.symm h)
  refine rising_unique d (sortS l) (hp.trans (sortS_perm l).symm) ?_ (sortS_rising l ha)
  refine List.pairwise_iff_getElem.2 (fun i j hi hj hij => ?_)
  have h1 := List.pairwise_iff_getElem.1 had i j hi hj hij
  have h2 := hs i j hij hj
  rw [getElem!_pos d i hi, getElem!_pos d j hj] at h2
  omega
end Go.Proofs.Ythhellgaafbokaa.Lg
