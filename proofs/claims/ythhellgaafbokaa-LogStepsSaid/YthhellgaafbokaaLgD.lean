/-
  Log: slices.SortFunc by epoch, slices.Clone, at states that lie in a row of one's own. Conditions stand at each. By an AI agent.
-/
import Derived.Test.YthhellgaafbokaaLgC
namespace Go.Proofs.Ythhellgaafbokaa.Lg
set_option linter.unusedVariables false
set_option linter.unusedSimpArgs false
open Go Go.RowKit Go.Sort Go.Proofs Go.Proofs.Ythhellgaafbokaa.Base Go.Proofs.Ythhellgaafbokaa.Reg

set_option maxRecDepth 100000 in
theorem Nan_any (x : Int) (w : World) : Calls Try.prog 51 #[.int .u64 x] w fun e w' => e = .returned (.bool false) ∧ w' = w := by
  have k : (x != x) = false := by simp
  go_enter Try.func51, Try.ntmps51
  go_wp2_with fail
  go_ret
  exact ⟨by simp, rfl⟩
set_option maxRecDepth 100000 in
theorem Cmp_any (x y : Int) (w : World) : Calls Try.prog 39 #[.int .u64 x, .int .u64 y] w fun e w' => e = .returned (.int .i64 (Lib.compareInt x y)) ∧ w' = w := by
  have hn := fun z W => Nan_any z W
  go_enter Try.func39, Try.ntmps39
  go_wp2_with (go_at_call 51; refine (hn _ _).mono ?_; rintro e w' ⟨rfl, hw⟩; rw [hw])
  all_goals (go_ret; refine ⟨?_, rfl⟩; unfold Lib.compareInt; (repeat' split) <;> first | rfl | (exfalso; omega))
set_option maxRecDepth 100000 in
theorem Step1_any (x y : St) (w : World) : Calls Try.prog 38 #[.agg (encS x).toArray, .agg (encS y).toArray] w fun e w' => e = .returned (.int .i64 (Lib.compareInt x.epoch y.epoch)) ∧ ∃ q os, w' = grow (w.drewN q) os := by
  have hc := fun W => Cmp_any x.epoch y.epoch W
  generalize Lib.compareInt x.epoch y.epoch = r at hc ⊢
  unfold encS
  go_enter Try.func38, Try.ntmps38
  go_wp2_with (go_at_call 39; refine (hc _).mono ?_; rintro e w' ⟨rfl, rfl⟩)
  go_ret
  exact ⟨rfl, 0, _, by rw [alloc_eq_grow, alloc_eq_grow, grow_grow]; rfl⟩
theorem cmpLays (blk off size : Nat) (w : World) : CmpLays Try.prog 38 #[] encS 5 (fun x y : St => Lib.compareInt x.epoch y.epoch) blk off size w :=
  fun _ _ _ _ x y => Step1_any x y _
theorem ltE (x y : St) : ltOf (fun x y : St => Lib.compareInt x.epoch y.epoch) x y = decide (x.epoch < y.epoch) := by
  unfold ltOf Lib.compareInt
  by_cases h1 : x.epoch < y.epoch
  · simp [h1]
  · by_cases h2 : y.epoch < x.epoch <;> simp [h1, h2]
theorem swoE : SWO (ltOf fun x y : St => Lib.compareInt x.epoch y.epoch) where
  irrefl x := by rw [ltE]; simp
  trans x y z h1 h2 := by rw [ltE] at *; simp at *; omega
  ntrans x y z h1 h2 := by rw [ltE] at *; simp at *; omega
set_option maxRecDepth 100000 in
theorem Sort_any (base : Nat) (v : Value) (l : List St) (w : World) (h : w.ownsRow base 28 5 v l.length (flatS l)) (ha : Apart l) (hlen : l.length < 4611686018427387904) :
    Calls Try.prog 37 #[v, .func (.func 38) #[] #[]] w fun e w' => e = .returned (.tuple #[]) ∧ w'.ownsRow base 28 5 v l.length (flatS (sortS l)) ∧ w.grownBy w' v.ownBlock := by
  rcases h.2 with ⟨rfl, h0⟩ | ⟨g, cap, cur, rfl, hb, hg, hn, hcap, hcur, htake⟩
  · have e : l = [] := List.length_eq_zero_iff.1 h0
    subst e
    refine (AnyF.slices_SortFunc_none Try.sortSt none 0 _ w).mono ?_
    rintro e w' ⟨rfl, rfl⟩
    exact ⟨rfl, World.ownsRow_nil _ _ _ _, ⟨rfl, rfl, rfl, Nat.le_refl _, fun _ _ _ => rfl⟩⟩
  · have hH := holds_own hg htake
    have hblk : g < w.heap.size := (Array.getElem?_eq_some_iff.1 hg).1
    have hcon := AnyQ.slices_SortFunc Try.sortSt 5 Try.isAgg28 Try.sizeOf28 encS encS_len encS_one (fun x y : St => Lib.compareInt x.epoch y.epoch) swoE 38 #[] g 0 cap l.toArray w (enters_of Try.func38 (by kernel_rfl) rfl) (cmpLays g 0 _ w) hH hblk (by simpa using hlen)
    change Calls Try.prog 37 _ _ _ at hcon
    rw [show l.toArray.size = l.length from rfl] at hcon
    refine hcon.mono ?_
    rintro e w' ⟨rfl, d', n, os, ⟨hp1, hp2, hp3⟩, hs, rfl⟩
    have hds : d'.size = l.length := by simpa using hp1
    have hpp : d'.toList.Perm l := by
      have e1 : d'.extract 0 l.length = d' := by rw [← hds]; simp
      have e2 : l.toArray.extract 0 l.length = l.toArray := by simp
      rw [e1, e2] at hp3
      simpa using hp3
    have hd : d'.toList = sortS l := by
      refine sorted_is l d'.toList hpp ha (fun i j hij hj => ?_)
      have hj' : j < l.length := by rw [← hds]; simpa using hj
      have h9 := hs i j (Nat.zero_le _) hij hj'
      rw [ltE] at h9
      have h10 := of_decide_eq_false h9
      have e3 : ∀ k : Nat, d'.toList[k]! = d'[k]! := fun k => by
        by_cases hk : k < d'.size
        · have hk2 : k < d'.toList.length := by simpa using hk
          rw [getElem!_pos d' k hk, getElem!_pos d'.toList k hk2]
          simp
        · have hk2 : ¬ k < d'.toList.length := by simpa using hk
          rw [getElem!_neg d' k hk, getElem!_neg d'.toList k hk2]
      rw [e3, e3]
      exact h10
    have hf : flatK encS 5 d' = (flatS (sortS l)).toArray := by
      rw [← hd, ← flatK_eq]
    have hsl : (sortS l).length = l.length := (sortS_perm l).length_eq
    have hfl : (flatS (sortS l)).length = l.length * 5 := by rw [flatS_len, hsl]
    refine ⟨rfl, ⟨hfl, .inr ⟨g, cap, putCells id 0 (flatS (sortS l)).toArray cur, rfl, hb, ?_, hn, hcap, by simp [putCells, hcur], ?_⟩⟩, ?_⟩
    · unfold sortWorldK putRowK
      rw [hf]
      exact heap_put _ hg
    · rw [← hfl]
      exact take_put cur _ (by rw [hfl, hcur]; exact Nat.mul_le_mul_right 5 hn)
    · unfold sortWorldK putRowK
      exact grownBy_put _
/-- the empty state -/
theorem st_info : (Try.prog.info? 28).map (fun i => (i.zero, i.size, i.bytes)) = some (some (.agg #[.int .i64 0, .int .i64 0, .bool false, .int .i64 0, .int .u64 0]), 5, 40) := by kernel_rfl
theorem own_cells {w : World} {base : Nat} {g c n : Nat} {l : List Value} (h : w.ownsRow base 28 5 (.slice (some ⟨g, 0, none⟩) n c) n l) : ∀ j u, l[j]? = some u → w.cell? ⟨g, 0 + j, none⟩ = some u := by
  intro j u hu
  have hj := (List.getElem?_eq_some_iff.1 hu).1
  rcases h.2 with ⟨h0, _⟩ | ⟨g', cap', cur, hv, hb, hg, hn, hcap, hcur, ht⟩
  · cases h0
  cases hv
  rw [h.1] at hj
  have h1 : (cur.toList.take (n * 5))[j]? = l[j]? := by rw [ht]
  rw [List.getElem?_take_of_lt hj] at h1
  simp only [World.cell?, hg, Nat.zero_add]
  simp only [Option.isSome_none, Bool.false_eq_true, if_false]
  rw [← Array.getElem?_toList, h1, hu]
/-- what is told is a row of the caller's own, of the same states -/
theorem CloneS_any (base : Nat) (v : Value) (l : List St) (w : World) (h : w.ownsRow base 28 5 v l.length (flatS l)) (hlen : l.length ≤ 1048576) :
    Calls Try.prog 42 #[v] w fun e w' => ∃ v', e = .returned v' ∧ w'.ownsRow w.heap.size 28 5 v' l.length (flatS l) ∧ Below w.heap.size w w' := by
  rcases h.2 with ⟨rfl, h0⟩ | ⟨g, cap, cur, rfl, hb, hg, hn, hcap, hcur, htake⟩
  · have e : l = [] := List.length_eq_zero_iff.1 h0
    subst e
    refine (AnyE.slices_Clone_nil Try.cloneSt 0 0 w).mono ?_
    rintro e w' ⟨rfl, rfl⟩
    exact ⟨_, rfl, World.ownsRow_nil _ _ _ _, Below.refl _ _⟩
  · obtain ⟨i0, hi, hz0, hz1, hz2⟩ := info_parts st_info
    have hcon := AnyE.slices_Clone Try.cloneSt i0 (.agg #[.int .i64 0, .int .i64 0, .bool false, .int .i64 0, .int .u64 0]) 5 40 hi hz0 hz1 hz2 rfl (by decide) Try.sizeOf28 g 0 l.length cap (flatS l) w h.1 (by unfold maxLen; omega) (by omega) (own_cells h) (fun u hu => by
      obtain ⟨s, _, hs⟩ := List.mem_flatMap.1 hu
      exact encS_one s u hs)
    change Calls Try.prog 42 _ _ _ at hcon
    refine hcon.mono ?_
    rintro e w' ⟨v', rfl, ho, _, hbl⟩
    exact ⟨v', rfl, ho, hbl⟩
end Go.Proofs.Ythhellgaafbokaa.Lg
