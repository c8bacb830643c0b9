/-
  Law 16: the log of states of epochs 0, 1, 2 .. that were written one behind the other; no program in sight. No condition. By an AI agent.
-/
import Derived.Test.YthhellgaafbokaaLgI
namespace Go.Proofs.Ythhellgaafbokaa.Lg
set_option linter.unusedVariables false
set_option linter.unusedSimpArgs false
open Go Go.RowKit Go.Proofs.Ythhellgaafbokaa.Base Go.Proofs.Ythhellgaafbokaa.Reg
open Go.Proofs.Ythhellgaafbokaa.Bank (BankAt inW wordF setF tickF wordF_in wordF_out setF_in setF_out zeros zeros_len)
/-- the state of epoch k in a list: its flags, else noughts -/
def AtK (s : St) (k : Nat) : Prop := s.mode = 0 ∧ s.source = 0 ∧ s.hold = false ∧ (0 ≤ s.flags ∧ s.flags ≤ 63) ∧ s.epoch = (k : Int)
/-- all states, from epoch 0 on -/
structure AllS (al : List St) : Prop where
  at_ : ∀ k s, al[k]? = some s → AtK s k
  zero : al[0]? = some St.zero
  few : al.length ≤ 1000
theorem AtK.may {s : St} {k : Nat} (h : AtK s k) (hk : k ≤ 1000) : mayE s = 0 ∧ s.Ok := by
  obtain ⟨h1, h2, h3, h4, h5⟩ := h
  refine ⟨mayE_zero.2 ⟨⟨by omega, by omega, h4, by omega⟩, fun h9 => by unfold St.Held at h9; rw [h3] at h9; exact absurd h9.1 (by decide)⟩, ⟨by omega, by omega, by omega, by omega⟩⟩
theorem AllS.start : AllS [St.zero] := ⟨fun k s h => by
  cases k with
  | zero => simp only [List.getElem?_cons_zero, Option.some.injEq] at h; subst h; exact ⟨rfl, rfl, rfl, by decide, rfl⟩
  | succ k => simp at h, rfl, by simp⟩
theorem AllS.push {al : List St} (h : AllS al) {s : St} (hs : AtK s al.length) (hl : al.length + 1 ≤ 1000) : AllS (al ++ [s]) := by
  have h0 : 0 < al.length := (List.getElem?_eq_some_iff.1 h.zero).1
  refine ⟨fun k x hx => ?_, by rw [List.getElem?_append_left h0]; exact h.zero, by simpa using hl⟩
  by_cases hk : k < al.length
  · rw [List.getElem?_append_left hk] at hx
    exact h.at_ k x hx
  · rw [List.getElem?_append_right (by omega)] at hx
    have : k - al.length = 0 := by
      have := (List.getElem?_eq_some_iff.1 hx).1
      simp at this
      omega
    rw [this] at hx
    simp only [List.getElem?_cons_zero, Option.some.injEq] at hx
    subst hx
    rw [show k = al.length by omega]
    exact hs
theorem AllS.getD {al : List St} (h : AllS al) {k : Nat} (hk : k < al.length) : AtK (al.getD k St.zero) k := by
  refine h.at_ k _ ?_
  rw [List.getD_eq_getElem?_getD, List.getElem?_eq_getElem hk]; rfl
theorem AllS.ok {al : List St} (h : AllS al) : ∀ s ∈ al, s.Ok := by
  intro s hs
  obtain ⟨k, hk, rfl⟩ := List.mem_iff_getElem.1 hs
  exact ((h.at_ k _ (List.getElem?_eq_getElem hk)).may (by have := h.few; omega)).2
theorem AllS.sound {al : List St} (h : AllS al) (m : Nat) : SoundF (al.length - m) (fun i => al.getD (m + i) St.zero) := fun i hi => by
  have h1 := h.getD (k := m + i) (by omega)
  refine ⟨(h1.may (by have := h.few; omega)).1, fun h0 => ?_⟩
  have h2 := h.getD (k := m + (i - 1)) (by omega)
  rw [h1.2.2.2.2, h2.2.2.2.2]
  omega
theorem AllS.gaps {al : List St} (h : AllS al) (m : Nat) (hm : m < al.length) : gapsF (al.length - m) (fun i => al.getD (m + i) St.zero) = 0 := by
  rw [(gapsF_ok (by omega) (h.sound m)).1]
  have h1 := h.getD (k := m + (al.length - m - 1)) (by omega)
  have h2 := h.getD (k := m + 0) (by omega)
  rw [h1.2.2.2.2, h2.2.2.2.2]
  omega
theorem AllS.rising {al : List St} (h : AllS al) (m : Nat) : Rising (al.drop m) := by
  refine List.pairwise_iff_getElem.2 (fun i j hi hj hij => ?_)
  rw [List.length_drop] at hi hj
  have h1 := h.at_ (m + i) _ (List.getElem?_eq_getElem (by omega))
  have h2 := h.at_ (m + j) _ (List.getElem?_eq_getElem (by omega))
  rw [List.getElem_drop, List.getElem_drop, h1.2.2.2.2, h2.2.2.2.2]
  omega
/-- two rising lists of the same members are one -/
theorem rising_ext : ∀ (a b : List St), Rising a → Rising b → (∀ x, x ∈ a ↔ x ∈ b) → a = b
  | [], [], _, _, _ => rfl
  | [], y :: b, _, _, h => absurd ((h y).2 (List.mem_cons_self ..)) (by simp)
  | x :: a, [], _, _, h => absurd ((h x).1 (List.mem_cons_self ..)) (by simp)
  | x :: a, y :: b, ha, hb, h => by
    have h1 := List.pairwise_cons.1 ha
    have h2 := List.pairwise_cons.1 hb
    have e : x = y := by
      rcases List.mem_cons.1 ((h x).1 (List.mem_cons_self ..)) with e | e
      · exact e
      · rcases List.mem_cons.1 ((h y).2 (List.mem_cons_self ..)) with e2 | e2
        · exact e2.symm
        · have := h1.1 y e2; have := h2.1 x e; omega
    subst e
    rw [rising_ext a b h1.2 h2.2 (fun z => ?_)]
    constructor
    · intro hz
      rcases List.mem_cons.1 ((h z).1 (List.mem_cons_of_mem _ hz)) with e | e
      · subst e; have := h1.1 z hz; omega
      · exact e
    · intro hz
      rcases List.mem_cons.1 ((h z).2 (List.mem_cons_of_mem _ hz)) with e | e
      · subst e; have := h2.1 z hz; omega
      · exact e
/-- what lies at entry j, behind the writing of epochs 1 .. i, of N entries -/
def LieAt (al : List St) (N i j : Nat) (v : Int) : Prop :=
  (∃ k s, 1 ≤ k ∧ k ≤ i ∧ k % N = j ∧ i < k + N ∧ al[k]? = some s ∧ v = wordI s) ∨ ((∀ k, 1 ≤ k → k ≤ i → k % N ≠ j) ∧ v = 0)
structure LieB (al : List St) (N i : Nat) (ws : List Int) : Prop where
  len : ws.length = 70
  at_ : ∀ j, j < N → LieAt al N i j (nth ws (2 + j))
theorem LieB.start {N : Nat} (al : List St) (hN : N ≤ 64) : LieB al N 0 (zeros 70) := by
  refine ⟨zeros_len 70, fun j hj => .inr ⟨fun k h1 h2 => by omega, ?_⟩⟩
  unfold nth zeros
  rw [List.getD_eq_getElem?_getD, List.getElem?_replicate, if_pos (by omega)]; rfl
theorem mod_gap {a b N : Nat} (hN : 0 < N) (h : a % N = b % N) (hab : a < b) : a + N ≤ b := by
  have h1 := Nat.div_add_mod a N
  have h2 := Nat.div_add_mod b N
  rw [h] at h1
  have : a / N < b / N := by
    apply Nat.lt_of_not_le
    intro h9
    have := Nat.mul_le_mul_left N h9
    omega
  have := Nat.mul_le_mul_left N (show a / N + 1 ≤ b / N from this)
  rw [Nat.mul_add, Nat.mul_one] at this
  omega
theorem LieB.push {al : List St} {N i : Nat} {ws : List Int} (h : LieB al N i ws) (hN : 1 ≤ N ∧ N ≤ 64) {s : St} (hl : al.length = i + 1) : LieB (al ++ [s]) N (i + 1) (ws.set (2 + (i + 1) % N) (wordI s)) := by
  refine ⟨by rw [List.length_set]; exact h.len, fun j hj => ?_⟩
  have hm : (i + 1) % N < N := Nat.mod_lt _ (by omega)
  have hw : nth (ws.set (2 + (i + 1) % N) (wordI s)) (2 + j) = if j = (i + 1) % N then wordI s else nth ws (2 + j) := by
    unfold nth
    rw [List.getD_eq_getElem?_getD, List.getElem?_set]
    by_cases e : j = (i + 1) % N
    · rw [if_pos e, if_pos (by omega), if_pos (by rw [h.len]; omega)]; rfl
    · rw [if_neg e, if_neg (by omega), ← List.getD_eq_getElem?_getD]
  rw [hw]
  split
  · rename_i e
    exact .inl ⟨i + 1, s, by omega, by omega, e.symm, by omega, by rw [List.getElem?_append_right (by omega)]; simp [hl], rfl⟩
  · rename_i e
    rcases h.at_ j hj with ⟨k, x, h1, h2, h3, h4, h5, h6⟩ | ⟨h1, h2⟩
    · refine .inl ⟨k, x, h1, by omega, h3, ?_, by rw [List.getElem?_append_left (by omega)]; exact h5, h6⟩
      by_cases e9 : i + 1 = k + N
      · exact absurd (by rw [e9, Nat.add_mod_right]; exact h3.symm) e
      · omega
    · refine .inr ⟨fun k h3 h4 => ?_, h2⟩
      by_cases e9 : k = i + 1
      · subst e9; exact fun h9 => e h9.symm
      · exact h1 k h3 (by omega)
theorem unS_AtK {s : St} {k : Nat} (h : AtK s k) (hk : k ≤ 1000) : unS (wordI s) = s ∧ unE (wordI s) = 0 := un_word (h.may hk).2 (h.may hk).1
/-- a reading tells the last ones -/
theorem keeps_list {al : List St} (hal : AllS al) {N m : Nat} (hN : 1 ≤ N ∧ N ≤ 64) (hm : al.length = m + 1) {ws : List Int} (h : LieB al N m ws) : sortS (keepL 2 (N : Int) 0 (rdN 2 ws N)) = al.drop (m + 1 - N) := by
  have hp : HasP 2 (N : Int) := ⟨by omega, by omega⟩
  have hent : ∀ k : Nat, entF 2 (N : Int) (k : Int) = 2 + ((k % N : Nat) : Int) := fun k => by rw [entF_ok hp]; omega
  refine rising_ext _ _ (sortS_rising _ (keepL_apart ..)) (hal.rising _) (fun x => ?_)
  rw [(sortS_perm _).mem_iff, mem_keepL]
  have hw : ∀ j, j < N → wordF ws (2 + (j : Int)) = nth ws (2 + j) := fun j hj => by
    rw [wordF_in ⟨by omega, by rw [h.len]; omega⟩]
    congr 1
  constructor
  · rintro ⟨j, v, h1, h2, h3, rfl⟩
    have hj : j < N := by have := (List.getElem?_eq_some_iff.1 h1).1; rwa [rdN_len] at this
    rw [rdN_get hj, hw j hj] at h1
    simp only [Option.some.injEq] at h1
    subst h1
    rcases h.at_ j hj with ⟨k, s, k1, k2, k3, k4, k5, k6⟩ | ⟨k1, k2⟩
    · have hs := hal.at_ k s k5
      rw [k6, (unS_AtK hs (by have := hal.few; omega)).1]
      refine List.mem_iff_getElem?.2 ⟨k - (m + 1 - N), ?_⟩
      rw [List.getElem?_drop, show m + 1 - N + (k - (m + 1 - N)) = k by omega]
      exact k5
    · rw [k2] at h3 ⊢
      rw [unS_zero] at h3 ⊢
      have e0 := hent 0
      rw [Nat.zero_mod] at e0
      rw [show (St.zero).epoch = ((0 : Nat) : Int) from rfl, e0] at h3
      have hj0 : j = 0 := by omega
      subst hj0
      have hmN : m < N := by
        by_cases e : m < N
        · exact e
        · exact absurd (by simp) (k1 N (by omega) (by omega))
      refine List.mem_iff_getElem?.2 ⟨0, ?_⟩
      rw [List.getElem?_drop, show m + 1 - N + 0 = 0 by omega]
      exact hal.zero
  · intro hx
    obtain ⟨i, hi⟩ := List.mem_iff_getElem?.1 hx
    rw [List.getElem?_drop] at hi
    obtain ⟨k, hk⟩ : ∃ k, m + 1 - N + i = k := ⟨_, rfl⟩
    rw [hk] at hi
    have hkl : k < al.length := (List.getElem?_eq_some_iff.1 hi).1
    have hs := hal.at_ k x hi
    have hjN : k % N < N := Nat.mod_lt _ (by omega)
    refine ⟨k % N, nth ws (2 + k % N), by rw [rdN_get hjN, hw _ hjN], ?_⟩
    have hcase : nth ws (2 + k % N) = wordI x ∨ (x = St.zero ∧ k = 0 ∧ nth ws (2 + k % N) = 0) := by
      rcases h.at_ (k % N) hjN with ⟨k', s, k1, k2, k3, k4, k5, k6⟩ | ⟨k1, k2⟩
      · have e : k' = k := by
          rcases Nat.lt_trichotomy k' k with h9 | h9 | h9
          · have := mod_gap (by omega) k3 h9; omega
          · exact h9
          · have := mod_gap (by omega) k3.symm h9; omega
        subst e
        rw [hi] at k5
        simp only [Option.some.injEq] at k5
        rw [k6, ← k5]
        exact .inl rfl
      · have h0 : k = 0 := by
          by_cases e : k = 0
          · exact e
          · exact absurd rfl (k1 k (by omega) (by omega))
        subst h0
        rw [hal.zero] at hi
        simp only [Option.some.injEq] at hi
        exact .inr ⟨hi.symm, rfl, k2⟩
    rcases hcase with e | ⟨e1, e2, e3⟩
    · obtain ⟨u1, u2⟩ := unS_AtK hs (by have := hal.few; omega)
      rw [e, u1, u2]
      refine ⟨rfl, ?_, rfl⟩
      rw [hs.2.2.2.2, hent, Nat.zero_add]
    · rw [e3, unS_zero, unE_zero]
      refine ⟨rfl, ?_, e1⟩
      have e0 := hent 0
      rw [show (St.zero).epoch = ((0 : Nat) : Int) from rfl, e0, e2, Nat.zero_add]
theorem health_AtK {s : St} {k : Nat} (h : AtK s k) (hk : k < 1000) {f : Int} (hf : 0 ≤ f ∧ f ≤ 63) : healthE s f = 0 ∧ AtK (healthS s f) (k + 1) := by
  have e : healthE s f = 0 := by
    unfold healthE lastE
    rw [if_neg (by rw [(h.may (by omega)).1]; decide), if_neg (by omega), if_neg (by rw [h.2.2.2.2]; omega)]
  refine ⟨e, ?_⟩
  unfold healthS
  rw [if_pos e]
  exact ⟨h.1, h.2.1, h.2.2.1, hf, by simp only [h.2.2.2.2]; omega⟩
end Go.Proofs.Ythhellgaafbokaa.Lg
