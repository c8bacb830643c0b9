/-
  Law 16: what a reading that is done holds; no program in sight. No condition. By an AI agent.
-/
import Derived.Test.YthhellgaafbokaaLgZ
namespace Go.Proofs.Ythhellgaafbokaa.Lg
set_option linter.unusedVariables false
set_option linter.unusedSimpArgs false
open Go Go.RowKit Go.Proofs.Ythhellgaafbokaa.Base Go.Proofs.Ythhellgaafbokaa.Reg
theorem unS_may {v : Int} (h : 0 ≤ v ∧ v ≤ 18446744073709551615) (hE : unE v = 0) : mayE (unS v) = 0 ∧ wordI (unS v) = v := by
  unfold unE at hE
  split at hE
  · rename_i h0
    have e : unS v = partsOf v := by unfold unS; rw [if_pos h0]
    rw [e]
    exact ⟨h0, word_partsOf h⟩
  · omega
theorem held_facts {at_ long : Int} {rd : List Int} {L : List St} (hL : sortS (keepL at_ long 0 rd) = L) (hr : ∀ v ∈ rd, 0 ≤ v ∧ v ≤ 18446744073709551615) :
    SoundF L.length (fun i => L.getD i St.zero) ∧ L.length ≤ rd.length ∧ (∀ s ∈ L, s.Ok) ∧ (keepL at_ long 0 rd).length = L.length ∧
    ∀ i, i < L.length → ∃ k, k < rd.length ∧ mayE (L.getD i St.zero) = 0 ∧ entF at_ long (L.getD i St.zero).epoch = at_ + (k : Int) ∧ wordI (L.getD i St.zero) = nth rd k := by
  have hlen : (keepL at_ long 0 rd).length = L.length := by rw [← hL, (sortS_perm _).length_eq]
  have hmem : ∀ i, i < L.length → ∃ k, k < rd.length ∧ mayE (L.getD i St.zero) = 0 ∧ entF at_ long (L.getD i St.zero).epoch = at_ + (k : Int) ∧ wordI (L.getD i St.zero) = nth rd k := by
    intro i hi
    have hx : L.getD i St.zero ∈ L := by rw [List.getD_eq_getElem?_getD, List.getElem?_eq_getElem hi]; exact List.getElem_mem hi
    rw [← hL] at hx
    obtain ⟨k, v, h1, h2, h3, h4⟩ := mem_keepL.1 ((sortS_perm _).mem_iff.1 hx)
    rw [hL] at h4
    have hk := (List.getElem?_eq_some_iff.1 h1).1
    obtain ⟨m1, m2⟩ := unS_may (hr v (List.mem_of_getElem? h1)) h2
    refine ⟨k, hk, by rw [h4]; exact m1, by rw [h4, h3, Nat.zero_add], ?_⟩
    rw [h4, m2]
    unfold nth
    rw [List.getD_eq_getElem?_getD, h1]; rfl
  have hrise : Rising L := by rw [← hL]; exact sortS_rising _ (keepL_apart ..)
  refine ⟨fun i hi => ⟨?_, fun h0 => ?_⟩, by rw [← hlen]; exact keepL_len .., fun s hs => ?_, hlen, hmem⟩
  · obtain ⟨_, _, h, _⟩ := hmem i hi
    exact h
  · have h1 := List.pairwise_iff_getElem.1 hrise (i - 1) i (by omega) hi (by omega)
    simp only [List.getD_eq_getElem?_getD, List.getElem?_eq_getElem hi, List.getElem?_eq_getElem (show i - 1 < L.length by omega), Option.getD_some]
    exact h1
  · rw [← hL] at hs
    exact keepL_ok hr s ((sortS_perm _).mem_iff.1 hs)
theorem keepL_take {at_ long : Int} {rd : List Int} {k : Nat} (hk : k < rd.length) : keepL at_ long 0 (rd.take (k + 1)) = keepL at_ long 0 (rd.take k) ++ keep1 at_ long (at_ + (k : Int)) (nth rd k) := by
  have e : rd.take (k + 1) = rd.take k ++ [nth rd k] := by
    rw [List.take_add_one, List.getElem?_eq_getElem hk]
    simp [nth, List.getD_eq_getElem?_getD, List.getElem?_eq_getElem hk]
  rw [e, keepL_push, List.length_take, Nat.min_eq_left (Nat.le_of_lt hk), Nat.zero_add]
theorem nth_mem {rd : List Int} {k : Nat} (hk : k < rd.length) : nth rd k ∈ rd := by
  unfold nth
  rw [List.getD_eq_getElem?_getD, List.getElem?_eq_getElem hk]
  exact List.getElem_mem hk
def cntF (at_ long : Int) (rd : List Int) (k : Nat) : Int := ((keepL at_ long 0 (rd.take k)).length : Int)
theorem cntF_zero (at_ long : Int) (rd : List Int) : cntF at_ long rd 0 = 0 := by simp [cntF, keepL]
theorem cntF_hit {at_ long : Int} {rd : List Int} {k : Nat} (hk : k < rd.length) (h64 : rd.length ≤ 64) (h1 : unE (nth rd k) = 0) (h2 : entF at_ long (unS (nth rd k)).epoch = at_ + (k : Int)) : wrap64 (cntF at_ long rd k + 1) = cntF at_ long rd (k + 1) := by
  have e : cntF at_ long rd (k + 1) = cntF at_ long rd k + 1 := by
    unfold cntF
    rw [keepL_take hk, show keep1 at_ long (at_ + (k : Int)) (nth rd k) = [unS (nth rd k)] from if_pos ⟨h1, h2⟩, List.length_append]
    simp
  have h3 : (keepL at_ long 0 (rd.take k)).length ≤ 64 := by have := keepL_len at_ long (rd.take k) 0; rw [List.length_take] at this; omega
  rw [e]
  unfold cntF at *
  exact wrap64_in _ (by omega)
theorem cntF_miss {at_ long : Int} {rd : List Int} {k : Nat} (hk : k < rd.length) (h : ¬ (unE (nth rd k) = 0 ∧ entF at_ long (unS (nth rd k)).epoch = at_ + (k : Int))) : cntF at_ long rd k = cntF at_ long rd (k + 1) := by
  unfold cntF
  rw [keepL_take hk, show keep1 at_ long (at_ + (k : Int)) (nth rd k) = [] from if_neg h, List.append_nil]
end Go.Proofs.Ythhellgaafbokaa.Lg
