/-
  Law 10: 'append(s, make([]uint64, k)...)' at a row that is owned; and the words that told puts together. Conditions stand at each. By an AI agent.
-/
import Derived.Test.YtjdalllfnlpmnaaSnPb
import Derived.Lib.AppendZerosOnto
import Derived.Maps.AppendAt
namespace Go.Proofs.Ytjdalllfnlpmnaa.Bank
set_option linter.unusedVariables false
set_option linter.unusedSimpArgs false
open Go Go.RowKit Go.Proofs.Ytjdalllfnlpmnaa.Base
theorem zeroCells_u64 (k : Nat) : (Builtin.zeroCells (Value.int .u64 0).cells k).toList = List.replicate k (.int .u64 0) := by
  unfold Builtin.zeroCells
  rw [show (Value.int IntKind.u64 0).cells = #[.int .u64 0] from rfl]
  refine List.ext_getElem? fun i => ?_
  by_cases hi : i < k
  · simp [hi, List.getElem?_replicate, Nat.mod_one]
  · rw [List.getElem?_eq_none (by simpa using hi), List.getElem?_eq_none (by simpa using hi)]
theorem run_app_zeros {w : World} {base : Nat} (ty : TypeId) {v : Value} {n : Nat} {xs : List Value} (hown : w.ownsRow base 42 1 v n xs) (k : Nat) (h0 : 0 < k) (hk : k ≤ 64) (hn : n ≤ 4096) (hb : base ≤ w.heap.size) :
    ∃ v' w', (Builtin.append_ #[41, 3] ty #[v, .int .i64 (k : Int)]).run Try.prog w = .ok v' w' ∧ w'.ownsRow base 42 1 v' (n + k) (xs ++ List.replicate k (.int .u64 0)) ∧ w.grownBy w' v.ownBlock := by
  obtain ⟨i0, hi, hz0, hz1, hz2⟩ := info_parts word_info
  have hxl : xs.length = n := by have := hown.1; omega
  have hlen : (xs ++ List.replicate k (Value.int .u64 0)).length = (n + k) * 1 := by simp [hxl]
  have hzs : ∀ k, (Builtin.zeroCells (Value.int .u64 0).cells k).size = k := fun k => by rw [size_zeroCells]; exact Nat.mul_one k
  have grown : ∀ (bs : Option Addr) (cap : Nat), cap < n + k → (Builtin.firstCells i0.size n (.slice bs n cap)).run Try.prog w.drew = .ok xs.toArray w.drew → ∀ (row : Option Nat),
      ∃ v' w', (Builtin.append_ #[41, 3] ty #[.slice bs n cap, .int .i64 (k : Int)]).run Try.prog w = .ok v' w' ∧ w'.ownsRow base 42 1 v' (n + k) (xs ++ List.replicate k (.int .u64 0)) ∧ w.grownBy w' row := by
    intro bs cap hc hf row
    have hr := Lib.run_append_grow_zeros w 41 3 ty 42 i0 (.int .u64 0) .i64 .i64 Try.underlying41 Try.underlying3 hi hz0 bs n cap xs hf k h0 (by rw [hz1]; omega) hc (by omega) (by rw [hz2]; omega) (growslice_fits hc (by rw [hz2]; omega))
    have hge := grownCap_ge w (n + k) cap 42
    have hcm := grownCap_le_maxLen w (n + k) cap 42 (by unfold maxLen; omega)
    refine ⟨_, _, hr, ⟨hlen, .inr ⟨w.heap.size, _, _, rfl, hb, heap_alloc_new w.drew _, hge, hcm, ?_, ?_⟩⟩, ⟨rfl, rfl, rfl, by simp, fun b hb9 _ => heap_alloc_old w.drew _ hb9⟩⟩
    · rw [Array.size_append, Array.size_append, hzs, hzs]
      simp only [List.size_toArray, hxl]
      omega
    · simp only [Array.toList_append, zeroCells_u64]
      rw [← hlen]
      exact List.take_left
  rcases hown.2 with ⟨rfl, rfl⟩ | ⟨g, cap, cur, rfl, hbg, hg, hnc, hcm, hcs, htake⟩
  · have hx : xs = [] := List.eq_nil_of_length_eq_zero hxl
    subst hx
    exact grown none 0 (by omega) (run_firstCells_none w.drew i0.size 0 0 0) _
  · by_cases hroom : n + k ≤ cap
    · have hst := run_storeCells_at (P := Try.prog) g n 42 (List.replicate k (.int .u64 0)) 0 cur w hg (by simp; omega) (by intro v hv; rw [List.eq_of_mem_replicate hv]; rfl)
      simp only [Nat.add_zero] at hst
      have hw : IntKind.i64.wrap (k : Int) = k := by rw [IntKind.wrap_i64]; omega
      have hneg : ¬ ((k : Int) < 0) := by omega
      have h48i : ¬ (281474976710656 < (k : Int) * (8 : Int)) := by omega
      have hk0 : k ≠ 0 := by omega
      have hadd : (⟨g, 0, none⟩ : Addr).add n = ⟨g, n, none⟩ := by unfold Addr.add; split <;> simp_all
      refine ⟨.slice (some ⟨g, 0, none⟩) (n + k) cap, w.setRow g (cur.toList.take n ++ List.replicate k (Value.int .u64 0) ++ cur.toList.drop (n + (List.replicate k (Value.int .u64 0)).length)).toArray, ?_, ⟨hlen, .inr ⟨g, cap, _, rfl, hbg, setRow_heap w g cur _ 42 _ hg, hroom, hcm, ?_, ?_⟩⟩, ⟨rfl, rfl, rfl, by simp [World.setRow], fun k _ hk => setRow_other w g k _ (fun e => hk (by simp [Value.ownBlock, e]))⟩⟩
      · simp [Builtin.append_, run_underlying Try.underlying41, run_underlying Try.underlying3, sizeOf, typeInfo, zeroValue, hi, hz0, hz1, hz2, asInt, asIntOf, hw, hroom, hneg, h48i, hk0, hadd, zeroCells_u64, hst]
      · simp only [List.size_toArray, List.length_append, List.length_take, List.length_drop, Array.length_toList, List.length_replicate]
        omega
      · rw [Nat.mul_one] at htake
        rw [htake, ← hlen]
        exact List.take_left
    · exact grown (some ⟨g, 0, none⟩) cap (by omega) (run_firstCells_some (P := Try.prog) w.drew i0.size n ⟨g, 0, none⟩ n cap xs (by rw [hz1]; omega) (by simpa using hown.cells (g := g) rfl)) _
/-- the first so many words that told puts together -/
theorem take_next {n m : Nat} {l : Nat → Tp} (h : TOk n l) (hm : widthF (laidS l) n = (m : Int)) {V : List Int} (hV : V.length = m) {f : Nat → Nat} {dn : Nat → Nat → Int} (hw : ∀ q, q < m → nth V q = RW dn (ofT l n q) (f (ofT l n q)) (wiT l n q)) {k : Nat} (hk : k < n) :
    V.take (widthF (laidS l) (k + 1)).toNat = V.take (widthF (laidS l) k).toNat ++ ofF (mT l k) (fun j => RW dn k (f k) j) := by
  have hr := (wrongE_zero (laid_wrong h (tries := 1) (by omega))).2.1
  have hb := widthF_bounds hr k (by omega)
  have hmn := widthF_mono hr (show k + 1 ≤ n by omega) (Nat.le_refl _)
  have hs : widthF (laidS l) (k + 1) = widthF (laidS l) k + (l k).words := rfl
  have hg := (h.2 k hk).1
  have e1 : (mT l k : Int) = (l k).words := by unfold mT; omega
  refine eq_of_nth ?_ fun i hi => ?_
  · rw [List.length_append, List.length_take, List.length_take, ofF_len]
    omega
  · rw [List.length_take] at hi
    have ht : ∀ a, i < a → nth (V.take a) i = nth V i := fun a ha => by
      unfold nth
      rw [List.getD_eq_getElem?_getD, List.getD_eq_getElem?_getD, List.getElem?_take_of_lt ha]
    rw [ht _ (by omega)]
    by_cases hlt : i < (widthF (laidS l) k).toNat
    · unfold nth
      rw [List.getD_eq_getElem?_getD, List.getD_eq_getElem?_getD, List.getElem?_append_left (by rw [List.length_take]; omega), List.getElem?_take_of_lt hlt]
    · have hq : ofT l n i = k := findT_eq hr hk (by omega) (by omega)
      have hwi : wiT l n i = i - (widthF (laidS l) k).toNat := by unfold wiT; rw [hq]; omega
      have e2 : nth (V.take (widthF (laidS l) k).toNat ++ ofF (mT l k) (fun j => RW dn k (f k) j)) i = nth (ofF (mT l k) (fun j => RW dn k (f k) j)) (i - (widthF (laidS l) k).toNat) := by
        unfold nth
        rw [List.getD_eq_getElem?_getD, List.getD_eq_getElem?_getD, List.getElem?_append_right (by rw [List.length_take]; omega), List.length_take, show min (widthF (laidS l) k).toNat V.length = (widthF (laidS l) k).toNat by omega]
      rw [e2, ofF_nth _ _ (by omega), hw i (by omega), hq, hwi]
theorem RW_zero {dn : Nat → Nat → Int} {k m c : Nat} (h : c = 0) : (ofF m (fun j => RW dn k c j)).map (Value.int .u64) = List.replicate m (.int .u64 0) := by
  refine List.ext_getElem? fun i => ?_
  by_cases hi : i < m
  · simp [ofF, RW, h, hi, List.getElem?_replicate]
  · rw [List.getElem?_eq_none (by simpa [ofF] using hi), List.getElem?_eq_none (by simpa using hi)]
theorem RW_rec {dn : Nat → Nat → Int} {k m c : Nat} (h : c ≠ 0) : ofF m (fun j => RW dn k c j) = recL m (dn k c) := by
  unfold ofF recL
  refine List.map_congr_left fun j _ => ?_
  unfold RW
  rw [if_neg h]
end Go.Proofs.Ytjdalllfnlpmnaa.Bank
