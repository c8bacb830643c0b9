/-
  The document's answer for the log: Has, Entry; a row of states that grows by many. Conditions stand at each. By an AI agent.
-/
import Derived.Test.YthhellgaafbokaaLgKr
import Derived.Test.YthhellgaafbokaaRefG
namespace Go.Proofs.Ythhellgaafbokaa.Lg
set_option linter.unusedVariables false
set_option linter.unusedSimpArgs false
open Go Go.RowKit Go.Proofs.Ythhellgaafbokaa.Base Go.Proofs.Ythhellgaafbokaa.Reg
set_option maxRecDepth 100000 in
theorem RHas_any (log long : Int) (w : World) : Calls Try.prog 25 #[.agg #[.int .i64 log, .int .i64 long]] w fun e w' => e = .returned (.bool (decide (HasP log long))) ∧ Below w.heap.size w w' := by
  by_cases h1 : (1 : Int) ≤ long
  · have k1 : decide (long ≥ 1) = true := decide_eq_true h1
    have m1 : decide ((1 : Int) ≤ long) = true := k1
    by_cases h2 : long ≤ 64
    · have k2 : decide (long ≤ 64) = true := decide_eq_true h2
      by_cases h3 : (0 : Int) ≤ log
      · have k3 : decide (log ≥ 0) = true := decide_eq_true h3
        have m3 : decide ((0 : Int) ≤ log) = true := k3
        by_cases h4 : log ≤ 1048576
        · have k4 : decide (log ≤ 1048576) = true := decide_eq_true h4
          rw [decide_eq_true (show HasP log long from ⟨⟨h1, h2⟩, h3, h4⟩)]
          clear h1 h2 h3 h4
          go_enter Try.func25, Try.ntmps25
          go_wp2_with fail
          go_ret
          exact ⟨rfl, (Below.refl _ _).alloc (Nat.le_refl _) _⟩
        · have k4 : decide (log ≤ 1048576) = false := decide_eq_false h4
          rw [decide_eq_false (show ¬ HasP log long from fun h => h4 h.2.2)]
          clear h1 h2 h3 h4
          go_enter Try.func25, Try.ntmps25
          go_wp2_with fail
          go_ret
          exact ⟨rfl, (Below.refl _ _).alloc (Nat.le_refl _) _⟩
      · have k3 : decide (log ≥ 0) = false := decide_eq_false h3
        have m3 : decide ((0 : Int) ≤ log) = false := k3
        rw [decide_eq_false (show ¬ HasP log long from fun h => h3 h.2.1)]
        clear h1 h2 h3
        go_enter Try.func25, Try.ntmps25
        go_wp2_with fail
        go_ret
        exact ⟨rfl, (Below.refl _ _).alloc (Nat.le_refl _) _⟩
    · have k2 : decide (long ≤ 64) = false := decide_eq_false h2
      rw [decide_eq_false (show ¬ HasP log long from fun h => h2 h.1.2)]
      clear h1 h2
      go_enter Try.func25, Try.ntmps25
      go_wp2_with fail
      go_ret
      exact ⟨rfl, (Below.refl _ _).alloc (Nat.le_refl _) _⟩
  · have k1 : decide (long ≥ 1) = false := decide_eq_false h1
    have m1 : decide ((1 : Int) ≤ long) = false := k1
    rw [decide_eq_false (show ¬ HasP log long from fun h => h1 h.1.1)]
    clear h1
    go_enter Try.func25, Try.ntmps25
    go_wp2_with fail
    go_ret
    exact ⟨rfl, (Below.refl _ _).alloc (Nat.le_refl _) _⟩
set_option maxRecDepth 100000 in
theorem REntry_any (log long x : Int) (w : World) (hx : 0 ≤ x ∧ x ≤ 18446744073709551615) (hp : HasP log long) :
    Calls Try.prog 27 #[.agg #[.int .i64 log, .int .i64 long], .int .u64 x] w fun e w' => e = .returned (.int .i64 (entF log long x)) ∧ Below w.heap.size w w' := by
  rw [entF_ok hp]
  have he : wrap64 (log + wrap64 (x.tmod long)) = log + x % long := by
    obtain ⟨⟨h1, h2⟩, h3, h4⟩ := hp
    have := Int.emod_nonneg x (show long ≠ 0 by omega)
    have := Int.emod_lt_of_pos x (show 0 < long by omega)
    rw [Int.tmod_eq_emod_of_nonneg hx.1, wrap64_in (x % long) (by omega), wrap64_in _ (by omega)]
  have HE := Lib.hid he
  have hw1 : IntKind.u64.wrap long = long := u64_wrap_in (by have := hp.1; omega)
  have hde : ¬ long = 0 := by have := hp.1; omega
  clear he hp hx
  go_enter Try.func27, Try.ntmps27
  go_wp2_with fail
  go_quiet (fail)
  go_wp2_with fail
  go_ret
  refine ⟨?_, below_drewN ((Below.refl _ _).alloc (Nat.le_refl _) _) _⟩
  rw [← HE.out]
  rfl
/-- where a state is laid -/
theorem insS_at {s : St} : ∀ (l : List St) (k : Nat), k ≤ l.length → (∀ j, j < k → (l.getD j St.zero).epoch < s.epoch) → (k < l.length → ¬ (l.getD k St.zero).epoch < s.epoch) → insS s l = l.take k ++ s :: l.drop k
  | [], k, _, _, _ => by simp [insS]
  | t :: l, 0, _, _, h => by
    have := h (by simp)
    simp only [List.getD_cons_zero] at this
    simp [insS, this]
  | t :: l, k + 1, hk, h1, h2 => by
    have e : t.epoch < s.epoch := by have := h1 0 (by omega); simpa using this
    have ih := insS_at l k (by simpa using hk) (fun j hj => by have := h1 (j + 1) (by omega); simpa using this) (fun h => by have := h2 (by simpa using h); simpa using this)
    simp only [insS, if_pos e, List.take_succ_cons, List.drop_succ_cons, List.cons_append]
    rw [ih]
theorem strow_app {w4 w5 : World} {r n c t : Nat} {a : Addr} {xs ys : List St} {v' : Value} (R : StRow w4 r (.slice (some a) n c) xs) (hn : n = xs.length) (ht : t = n + ys.length)
    (hown : w5.ownsRow 0 28 5 v' t (flatS xs ++ flatS ys)) (hgrow : w4.grownBy w5 (Value.slice (some a) n c).ownBlock)
    (hnil : ¬ v' = .slice none 0 0)
    (hat : v'.ownBlock = (Value.slice (some a) n c).ownBlock ∨ v'.ownBlock = some w4.heap.size) : ∃ c' r', v' = .slice (some ⟨r', 0, none⟩) t c' ∧ StRow w5 r' (.slice (some ⟨r', 0, none⟩) t c') (xs ++ ys) ∧ (r' = r ∨ w4.heap.size ≤ r') ∧ Ex (fun k => k = r) w4 w5 := by
  have hex : Ex (fun k => k = r) w4 w5 := Ex.of_grown hgrow (fun k hk => R.own k hk)
  subst hn
  rcases hown.2 with ⟨h1, h0⟩ | ⟨g, cap, cur, rfl, hb, hg, hle, hcap, hcur, htk⟩
  · exact absurd h1 hnil
  · refine ⟨_, g, rfl, ⟨?_, fun k hk => by simp [Value.ownBlock] at hk; exact hk.symm, (Array.getElem?_eq_some_iff.1 hg).1⟩, ?_, hex⟩
    · rw [flatS_append, List.length_append, ← ht]
      exact hown
    · rcases hat with h | h
      · exact .inl (R.own g (h ▸ rfl))
      · simp [Value.ownBlock] at h
        exact .inr (by omega)
theorem flatS_sub {l : List St} {k : Nat} {j : Nat} {u : Value} (h : (flatS (l.take k))[j]? = some u) : (flatS l)[j]? = some u := by
  have e : flatS l = flatS (l.take k) ++ flatS (l.drop k) := by rw [← flatS_append, List.take_append_drop]
  rw [e, List.getElem?_append_left (List.getElem?_eq_some_iff.1 h).1]
  exact h
theorem flatS_off {l : List St} {k : Nat} (hk : k ≤ l.length) {j : Nat} {u : Value} (h : (flatS (l.drop k))[j]? = some u) : (flatS l)[k * 5 + j]? = some u := by
  have e : flatS l = flatS (l.take k) ++ flatS (l.drop k) := by rw [← flatS_append, List.take_append_drop]
  rw [e, List.getElem?_append_right (by rw [flatS_len, List.length_take, Nat.min_eq_left hk]; omega), flatS_len, List.length_take, Nat.min_eq_left hk, show k * 5 + j - k * 5 = j by omega]
  exact h
theorem StRow.flat {w : World} {r n c : Nat} {a : Addr} {l : List St} (h : StRow w r (.slice (some a) n c) l) {j : Nat} {u : Value} (hu : (flatS l)[j]? = some u) : w.cell? ⟨r, j, none⟩ = some u := by
  rcases h.row.2 with ⟨h1, h0⟩ | ⟨g, cap, cur, hv, hb, hg, hn, hcap, hcur, ht⟩
  · simp at h1
  · have e := h.own g (by rw [hv]; rfl)
    subst e
    have hj := (List.getElem?_eq_some_iff.1 hu).1
    rw [flatS_len] at hj
    rw [← ht, List.getElem?_take_of_lt hj] at hu
    simp only [World.cell?, hg]
    simp only [Option.isSome_none, Bool.false_eq_true, if_false]
    rw [← Array.getElem?_toList, hu]
theorem StRow.len {w : World} {r n c : Nat} {a : Addr} {l : List St} (h : StRow w r (.slice (some a) n c) l) : l.length = n := by
  rcases h.row.2 with ⟨h1, h0⟩ | ⟨g, cap, cur, hv, hb, hg, hn, hcap, hcur, ht⟩
  · simp at h1
  · simp only [Value.slice.injEq] at hv
    exact hv.2.1.symm
theorem flatS_one_cells {l : List St} : ∀ u ∈ flatS l, u.oneCell' = true := by
  intro u hu
  obtain ⟨s, _, hs⟩ := List.mem_flatMap.1 hu
  exact encS_one s u hs
end Go.Proofs.Ythhellgaafbokaa.Lg
