/-
  Law 16: what is read of one state that was written into noughts; no program in sight. No condition. By an AI agent.
-/
import Derived.Test.YthhellgaafbokaaLgM
import Derived.Test.YthhellgaafbokaaLgT
namespace Go.Proofs.Ythhellgaafbokaa.Lg
set_option linter.unusedVariables false
set_option linter.unusedSimpArgs false
open Go Go.RowKit Go.Proofs.Ythhellgaafbokaa.Base Go.Proofs.Ythhellgaafbokaa.Reg
open Go.Proofs.Ythhellgaafbokaa.Bank (BankAt inW wordF setF tickF wordF_in wordF_out setF_in setF_out zeros zeros_len)
theorem un_word {s : St} (h : s.Ok) (h0 : mayE s = 0) : unS (wordI s) = s ∧ unE (wordI s) = 0 := by
  have hp := partsOf_word (mayE_zero.1 h0).1 h
  unfold unS unE
  rw [hp, if_pos h0, if_pos h0]
  exact ⟨rfl, rfl⟩
theorem unS_zero : unS 0 = St.zero := by decide
theorem unE_zero : unE 0 = 0 := by decide
/-- the first i words behind log - 1 -/
def rdN (log : Int) (ws : List Int) (i : Nat) : List Int := (List.range i).map (fun k : Nat => wordF ws (log + k))
theorem rdN_len (log : Int) (ws : List Int) (i : Nat) : (rdN log ws i).length = i := by simp [rdN]
theorem rdN_get {log : Int} {ws : List Int} {i k : Nat} (h : k < i) : (rdN log ws i)[k]? = some (wordF ws (log + k)) := by
  simp [rdN, List.getElem?_map, List.getElem?_range h]
theorem rdN_next {log : Int} {ws : List Int} {i : Nat} (h : inW ws (log + i)) : rdNext ws log (rdN log ws i) = rdN log ws (i + 1) := by
  unfold rdNext
  rw [rdN_len, if_pos h]
  simp [rdN, List.range_succ]
theorem rdN_how {log long : Int} {ws : List Int} {i : Nat} (h : inW ws (log + i)) : rdHow ws log long (rdN log ws i) = if (i : Int) + 1 < long then 0 else 1 := by
  unfold rdHow
  rw [rdN_len, if_pos h]
theorem getLast_rising {l : List St} {s : St} (hr : Rising l) (hs : s ∈ l) (hm : ∀ x ∈ l, x.epoch ≤ s.epoch) : l.getD (l.length - 1) St.zero = s := by
  obtain ⟨i, hi, rfl⟩ := List.mem_iff_getElem.1 hs
  by_cases e : i = l.length - 1
  · subst e
    rw [List.getD_eq_getElem?_getD, List.getElem?_eq_getElem hi]; rfl
  · have h1 := List.pairwise_iff_getElem.1 hr i (l.length - 1) hi (by omega) (by omega)
    have h2 := hm _ (List.getElem_mem (show l.length - 1 < l.length by omega))
    omega
theorem nil_list {s : St} (hs : s.Ok) (hm : mayE s = 0) {long : Int} {N : Nat} (hN : long = N) (h1 : 1 ≤ N ∧ N ≤ 64) {L : List St} (hL : sortS (keepL 1 long 0 (rdN 1 (setF (zeros 70) (entF 1 long s.epoch) (wordI s)) N)) = L) :
    0 < L.length ∧ L.length ≤ 64 ∧ L.getD (L.length - 1) St.zero = s ∧ (L.getD 0 St.zero).mode ≠ 99 ∧ ∀ x ∈ L, x.Ok := by
  have hp : HasP 1 long := ⟨by omega, by omega⟩
  have hr := entF_range (e := s.epoch) hp
  obtain ⟨en, hen⟩ : ∃ en, entF 1 long s.epoch = en := ⟨_, rfl⟩
  rw [hen] at hr hL
  have hin : inW (zeros 70) en := ⟨by omega, by rw [zeros_len]; omega⟩
  have hw : ∀ k : Nat, k < N → wordF (setF (zeros 70) en (wordI s)) (1 + k) = if (1 + k : Int) = en then wordI s else 0 := by
    intro k hk
    have h2 : inW ((zeros 70).set en.toNat (wordI s)) (1 + k) := ⟨by omega, by rw [List.length_set, zeros_len]; omega⟩
    rw [setF_in hin, wordF_in h2]
    unfold nth
    rw [List.getD_eq_getElem?_getD, List.getElem?_set]
    by_cases e : (1 + k : Int) = en
    · rw [if_pos e, if_pos (by omega), if_pos (by rw [zeros_len]; omega)]; rfl
    · rw [if_neg e, if_neg (by omega)]
      unfold zeros
      rw [List.getElem?_replicate, if_pos (by omega)]; rfl
  have hmem : ∀ x ∈ L, x = s ∨ x = St.zero := by
    intro x hx
    rw [← hL] at hx
    obtain ⟨k, v, hv, _, _, rfl⟩ := mem_keepL.1 ((sortS_perm _).mem_iff.1 hx)
    have hk : k < N := by have := (List.getElem?_eq_some_iff.1 hv).1; rwa [rdN_len] at this
    rw [rdN_get hk, hw k hk] at hv
    split at hv
    · simp only [Option.some.injEq] at hv
      rw [← hv]
      exact .inl (un_word hs hm).1
    · simp only [Option.some.injEq] at hv
      rw [← hv]
      exact .inr unS_zero
  have hsm : s ∈ L := by
    rw [← hL]
    refine (sortS_perm _).mem_iff.2 (mem_keepL.2 ⟨(en - 1).toNat, wordI s, ?_, (un_word hs hm).2, ?_, (un_word hs hm).1.symm⟩)
    · rw [rdN_get (by omega), hw _ (by omega), if_pos (by omega)]
    · rw [(un_word hs hm).1, hen]; omega
  have hrise : Rising L := by rw [← hL]; exact sortS_rising _ (keepL_apart ..)
  have hlen : L.length ≤ 64 := by
    rw [← hL, (sortS_perm _).length_eq]
    have := keepL_len 1 long (rdN 1 (setF (zeros 70) en (wordI s)) N) 0
    rw [rdN_len] at this
    omega
  have h0 : 0 < L.length := List.length_pos_of_mem hsm
  refine ⟨h0, hlen, getLast_rising hrise hsm ?_, ?_, ?_⟩
  · intro x hx
    rcases hmem x hx with rfl | rfl
    · exact Int.le_refl _
    · exact hs.epoch.1
  · have hx : L.getD 0 St.zero ∈ L := by rw [List.getD_eq_getElem?_getD, List.getElem?_eq_getElem h0]; exact List.getElem_mem h0
    rcases hmem _ hx with e | e
    · rw [e]; have := (mayE_zero.1 hm).1.1; omega
    · rw [e]; decide
  · intro x hx
    rcases hmem x hx with rfl | rfl
    · exact hs
    · exact ⟨by decide, by decide, by decide, by decide⟩
end Go.Proofs.Ythhellgaafbokaa.Lg
