/-
  Law 12: slices.SortFunc by number, at topics that lie in a row of one's own. Printed by wip/tools/mkpok.py. Conditions stand at each. By an AI agent.
-/
import Derived.Test.YthcaagkgddeabaaPoK
import Derived.Test.YthcaagkgddeabaaPoA
namespace Go.Proofs.Ythcaagkgddeabaa.Bank
set_option linter.unusedVariables false
set_option linter.unusedSimpArgs false
open Go Go.RowKit Go.Sort Go.Proofs Go.Proofs.Ythcaagkgddeabaa.Base
instance : Inhabited Tp := ⟨⟨0, ⟨0, 0, 0, 0, 0⟩⟩⟩
def encT (s : Tp) : List Value := [.int .i64 s.n, .int .i64 s.spot.owners, .int .i64 s.spot.seq, .int .i64 s.spot.first, .int .i64 s.spot.words, .int .i64 s.spot.depth, .int .u64 0]
theorem encT_len (s : Tp) : (encT s).length = 7 := rfl
theorem encT_one (s : Tp) : ∀ v ∈ encT s, v.oneCell' = true := by
  intro v hv
  simp only [encT, List.mem_cons, List.not_mem_nil, or_false] at hv
  rcases hv with rfl | rfl | rfl | rfl | rfl | rfl | rfl <;> rfl
def flatT (l : List Tp) : List Value := l.flatMap encT
theorem flatT_len : ∀ l : List Tp, (flatT l).length = l.length * 7
  | [] => rfl
  | s :: l => by
    have := flatT_len l
    simp only [flatT, List.flatMap_cons, List.length_append, encT_len, List.length_cons] at *
    omega
theorem flatT_append (l r : List Tp) : flatT (l ++ r) = flatT l ++ flatT r := by simp [flatT]
theorem flatT_one (s : Tp) : flatT [s] = encT s := by simp [flatT]
theorem flatT_get : ∀ (l : List Tp) (i : Nat) (s : Tp), l[i]? = some s → ∀ j, j < 7 → (flatT l)[i * 7 + j]? = (encT s)[j]?
  | [], i, s, h => by simp at h
  | a :: l, 0, s, h => by
    intro j hj
    simp only [List.getElem?_cons_zero, Option.some.injEq] at h
    subst h
    simp only [flatT, List.flatMap_cons, Nat.zero_mul, Nat.zero_add]
    rw [List.getElem?_append_left (by rw [encT_len]; exact hj)]
  | a :: l, i + 1, s, h => by
    intro j hj
    simp only [List.getElem?_cons_succ] at h
    have := flatT_get l i s h j hj
    simp only [flatT, List.flatMap_cons] at *
    rw [List.getElem?_append_right (by rw [encT_len]; omega), encT_len, show (i + 1) * 7 + j - 7 = i * 7 + j by omega]
    exact this
theorem flatK_eq (l : List Tp) : flatK encT 7 l.toArray = (flatT l).toArray := by
  apply Array.ext'
  apply List.ext_getElem?
  intro t
  by_cases h : t < l.length * 7
  · have h1 : t / 7 < l.length := by omega
    have h2 := flatT_get l (t / 7) (l[t / 7]) (List.getElem?_eq_getElem h1) (t % 7) (by omega)
    rw [show t / 7 * 7 + t % 7 = t by omega] at h2
    simp only [List.toList_toArray]
    rw [h2]
    have h3 := get_flatK encT 7 l.toArray t (by simpa using h)
    have h4 : t < (flatK encT 7 l.toArray).size := by simpa using h
    rw [getElem!_pos (flatK encT 7 l.toArray) t h4] at h3
    rw [Array.getElem?_toList, Array.getElem?_eq_getElem h4, h3]
    have h5 : (l.toArray)[t / 7]! = l[t / 7] := by simp [h1]
    rw [h5]
    have h6 : t % 7 < (encT l[t / 7]).length := by rw [encT_len]; omega
    rw [getElem!_pos (encT l[t / 7]) (t % 7) h6, List.getElem?_eq_getElem h6]
  · rw [List.getElem?_eq_none (by rw [Array.length_toList, size_flatK]; simp; omega), List.getElem?_eq_none (by simp only [List.toList_toArray]; rw [flatT_len]; omega)]
theorem holds_own {w : World} {g : Nat} {cur : Array Value} {e : TypeId} {l : List Tp} (hb : w.heap[g]? = some (.cells cur e (0, 0))) (ht : cur.toList.take (l.length * 7) = flatT l) : HoldsK encT 7 w g 0 l.toArray := by
  unfold HoldsK
  rw [flatK_eq]
  intro j hj
  have hj' : j < l.length * 7 := by rw [← flatT_len]; simpa using hj
  refine ⟨?_, by simp [World.frozen?, hb]⟩
  have h1 : (cur.toList.take (l.length * 7))[j]? = (flatT l)[j]? := by rw [ht]
  rw [List.getElem?_take_of_lt hj'] at h1
  simp only [World.cell?, hb, Nat.zero_add]
  simp only [Option.isSome_none, Bool.false_eq_true, if_false]
  rw [← Array.getElem?_toList, h1]
  have h2 : j < (flatT l).length := by simpa using hj
  simp [h2]
theorem heap_put {w : World} {g n : Nat} {os : Array Obj} {cur : Array Value} {e : TypeId} {fr : Nat × Nat} (d : Array Value) (hb : w.heap[g]? = some (.cells cur e fr)) :
    (grow (putRow id (Sort.ahead w n) g 0 d) os).heap[g]? = some (.cells (putCells id 0 d cur) e fr) := by
  have hg : g < w.heap.size := (Array.getElem?_eq_some_iff.1 hb).1
  rw [heap_grow_old _ _ (by simpa using hg)]
  simp [putRow, mapBlock, Sort.ahead, Array.getElem?_modify, hb, onCells]
theorem grownBy_put {w : World} {g n : Nat} {os : Array Obj} (d : Array Value) : w.grownBy (grow (putRow id (Sort.ahead w n) g 0 d) os) (some g) := by
  refine ⟨rfl, rfl, rfl, by simp, fun k hk hne => ?_⟩
  rw [heap_grow_old _ _ (by simpa using hk)]
  have : g ≠ k := fun e => hne (by rw [e])
  simp [putRow, mapBlock, Sort.ahead, Array.getElem?_modify, this]
theorem take_put (cur : Array Value) (ts : List Value) (h : ts.length ≤ cur.size) : (putCells id 0 ts.toArray cur).toList.take ts.length = ts := by
  apply List.ext_getElem?
  intro j
  by_cases hj : j < ts.length
  · rw [List.getElem?_take_of_lt hj, Array.getElem?_toList]
    simp [putCells, hj, show j < cur.size by omega]
  · rw [List.getElem?_take_eq_none (by omega), List.getElem?_eq_none (by omega)]

set_option maxRecDepth 100000 in
theorem Nan_any (x : Int) (w : World) : Calls Try.prog 71 #[.int .i64 x] w fun e w' => e = .returned (.bool false) ∧ w' = w := by
  have k : (x != x) = false := by simp
  go_enter Try.func71, Try.ntmps71
  go_wp2_with fail
  go_ret
  exact ⟨by simp, rfl⟩
set_option maxRecDepth 100000 in
theorem Cmp_any (x y : Int) (w : World) : Calls Try.prog 49 #[.int .i64 x, .int .i64 y] w fun e w' => e = .returned (.int .i64 (Lib.compareInt x y)) ∧ w' = w := by
  have hn := fun z W => Nan_any z W
  go_enter Try.func49, Try.ntmps49
  go_wp2_with (go_at_call 71; refine (hn _ _).mono ?_; rintro e w' ⟨rfl, hw⟩; rw [hw])
  all_goals (go_ret; refine ⟨?_, rfl⟩; unfold Lib.compareInt; (repeat' split) <;> first | rfl | (exfalso; omega))
set_option maxRecDepth 100000 in
theorem Step1_any (x y : Tp) (w : World) : Calls Try.prog 48 #[.agg (encT x).toArray, .agg (encT y).toArray] w fun e w' => e = .returned (.int .i64 (Lib.compareInt x.n y.n)) ∧ ∃ q os, w' = grow (w.drewN q) os := by
  have hc := fun W => Cmp_any x.n y.n W
  generalize Lib.compareInt x.n y.n = r at hc ⊢
  unfold encT
  go_enter Try.func48, Try.ntmps48
  go_wp2_with (go_at_call 49; refine (hc _).mono ?_; rintro e w' ⟨rfl, rfl⟩)
  go_ret
  exact ⟨rfl, 0, _, by rw [alloc_eq_grow, alloc_eq_grow, grow_grow]; rfl⟩
theorem cmpLays (blk off size : Nat) (w : World) : CmpLays Try.prog 48 #[] encT 7 (fun x y : Tp => Lib.compareInt x.n y.n) blk off size w :=
  fun _ _ _ _ x y => Step1_any x y _
theorem ltE (x y : Tp) : ltOf (fun x y : Tp => Lib.compareInt x.n y.n) x y = decide (x.n < y.n) := by
  unfold ltOf Lib.compareInt
  by_cases h1 : x.n < y.n
  · simp [h1]
  · by_cases h2 : y.n < x.n <;> simp [h1, h2]
theorem swoE : SWO (ltOf fun x y : Tp => Lib.compareInt x.n y.n) where
  irrefl x := by rw [ltE]; simp
  trans x y z h1 h2 := by rw [ltE] at *; simp at *; omega
  ntrans x y z h1 h2 := by rw [ltE] at *; simp at *; omega
set_option maxRecDepth 100000 in
theorem SortT_any (base : Nat) (v : Value) (l : List Tp) (w : World) (h : w.ownsRow base 106 7 v l.length (flatT l)) (ha : l.Pairwise (fun a b => a.n ≠ b.n)) (hlen : l.length < 4611686018427387904) :
    Calls Try.prog 47 #[v, .func (.func 48) #[] #[]] w fun e w' => e = .returned (.tuple #[]) ∧ ∃ l' : List Tp, l'.Perm l ∧ l'.Pairwise (fun a b => a.n < b.n) ∧ w'.ownsRow base 106 7 v l.length (flatT l') ∧ w.grownBy w' v.ownBlock := by
  rcases h.2 with ⟨rfl, h0⟩ | ⟨g, cap, cur, rfl, hb, hg, hn, hcap, hcur, htake⟩
  · have e : l = [] := List.length_eq_zero_iff.1 h0
    subst e
    refine (AnyF.slices_SortFunc_none Try.sortTp none 0 _ w).mono ?_
    rintro e w' ⟨rfl, rfl⟩
    exact ⟨rfl, [], .refl _, List.Pairwise.nil, World.ownsRow_nil _ _ _ _, ⟨rfl, rfl, rfl, Nat.le_refl _, fun _ _ _ => rfl⟩⟩
  · have hH := holds_own hg htake
    have hblk : g < w.heap.size := (Array.getElem?_eq_some_iff.1 hg).1
    have hcon := AnyQ.slices_SortFunc Try.sortTp 7 Try.isAgg106 Try.sizeOf106 encT encT_len encT_one (fun x y : Tp => Lib.compareInt x.n y.n) swoE 48 #[] g 0 cap l.toArray w (enters_of Try.func48 (by kernel_rfl) rfl) (cmpLays g 0 _ w) hH hblk (by simpa using hlen)
    change Calls Try.prog 47 _ _ _ at hcon
    rw [show l.toArray.size = l.length from rfl] at hcon
    refine hcon.mono ?_
    rintro e w' ⟨rfl, d', n, os, ⟨hp1, hp2, hp3⟩, hs, rfl⟩
    have hds : d'.size = l.length := by simpa using hp1
    have hpp : d'.toList.Perm l := by
      have e1 : d'.extract 0 l.length = d' := by rw [← hds]; simp
      have e2 : l.toArray.extract 0 l.length = l.toArray := by simp
      rw [e1, e2] at hp3
      simpa using hp3
    have hap : d'.toList.Pairwise (fun a b => a.n ≠ b.n) := (hpp.pairwise_iff (fun h => fun e => h e.symm)).2 ha
    have hri : d'.toList.Pairwise (fun a b => a.n < b.n) := by
      rw [List.pairwise_iff_getElem] at hap ⊢
      intro i j hi hj hij
      have h1 := hap i j hi hj hij
      have hj' : j < l.length := by rw [← hds]; simpa using hj
      have h9 := hs i j (Nat.zero_le _) hij hj'
      rw [ltE] at h9
      have h10 := of_decide_eq_false h9
      have e3 : ∀ (k : Nat) (hk : k < d'.toList.length), d'[k]! = d'.toList[k] := fun k hk => by
        rw [getElem!_pos d' k (by simpa using hk)]
        simp
      rw [e3 i hi, e3 j hj] at h10
      omega
    have hf : flatK encT 7 d' = (flatT d'.toList).toArray := by
      rw [← flatK_eq]
    have hsl : d'.toList.length = l.length := hpp.length_eq
    have hfl : (flatT d'.toList).length = l.length * 7 := by rw [flatT_len, hsl]
    refine ⟨rfl, d'.toList, hpp, hri, ⟨hfl, .inr ⟨g, cap, putCells id 0 (flatT d'.toList).toArray cur, rfl, hb, ?_, hn, hcap, by simp [putCells, hcur], ?_⟩⟩, ?_⟩
    · unfold sortWorldK putRowK
      rw [hf]
      exact heap_put _ hg
    · rw [← hfl]
      exact take_put cur _ (by rw [hfl, hcur]; exact Nat.mul_le_mul_right 7 hn)
    · unfold sortWorldK putRowK
      exact grownBy_put _
end Go.Proofs.Ythcaagkgddeabaa.Bank
