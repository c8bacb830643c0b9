/-
  Log: what a reading keeps of the words that it loaded; its steps told by them. Conditions stand at each. By an AI agent.
-/
import Derived.Test.YthhellgaafbokaaLgV
namespace Go.Proofs.Ythhellgaafbokaa.Lg
set_option linter.unusedVariables false
set_option linter.unusedSimpArgs false
open Go Go.RowKit Go.Proofs.Ythhellgaafbokaa.Base Go.Proofs.Ythhellgaafbokaa.Reg
open Go.Proofs.Ythhellgaafbokaa.Bank (BankAt inW wordF setF tickF errF errF_in errF_out wordF_in wordF_out tickF_in tickF_out setF_in setF_out wordF_range)

/-- the states that are kept of the words that lay at the entries i, i + 1 .. -/
def keepL (log long : Int) : Nat → List Int → List St
  | _, [] => []
  | i, v :: r => keep1 log long (log + (i : Int)) v ++ keepL log long (i + 1) r
theorem keepL_push (log long : Int) (v : Int) : ∀ (r : List Int) (i : Nat), keepL log long i (r ++ [v]) = keepL log long i r ++ keep1 log long (log + ((i + r.length : Nat) : Int)) v
  | [], i => by simp [keepL]
  | u :: r, i => by
    have := keepL_push log long v r (i + 1)
    simp only [List.cons_append, keepL, List.append_assoc, List.length_cons]
    rw [this, show i + 1 + r.length = i + (r.length + 1) by omega]
theorem mem_keep1 {log long at_ v : Int} {x : St} : x ∈ keep1 log long at_ v ↔ unE v = 0 ∧ entF log long (unS v).epoch = at_ ∧ x = unS v := by
  unfold keep1
  split
  · rename_i h
    simp [h.1, h.2]
  · rename_i h
    simp only [List.not_mem_nil, false_iff]
    exact fun h9 => h ⟨h9.1, h9.2.1⟩
theorem mem_keepL {log long : Int} {x : St} : ∀ {r : List Int} {i : Nat}, x ∈ keepL log long i r ↔ ∃ k v, r[k]? = some v ∧ unE v = 0 ∧ entF log long (unS v).epoch = log + ((i + k : Nat) : Int) ∧ x = unS v
  | [], i => by simp [keepL]
  | u :: r, i => by
    simp only [keepL, List.mem_append, mem_keep1, mem_keepL (r := r) (i := i + 1)]
    constructor
    · rintro (⟨h1, h2, h3⟩ | ⟨k, v, h1, h2, h3, h4⟩)
      · exact ⟨0, u, rfl, h1, h2, h3⟩
      · exact ⟨k + 1, v, h1, h2, by rw [h3]; congr 2; omega, h4⟩
    · rintro ⟨k, v, h1, h2, h3, h4⟩
      cases k with
      | zero =>
        simp only [List.getElem?_cons_zero, Option.some.injEq] at h1
        subst h1
        exact .inl ⟨h2, h3, h4⟩
      | succ k => exact .inr ⟨k, v, h1, h2, by rw [h3]; congr 2; omega, h4⟩
theorem keepL_len (log long : Int) : ∀ (r : List Int) (i : Nat), (keepL log long i r).length ≤ r.length
  | [], _ => by simp [keepL]
  | u :: r, i => by
    have h1 := keepL_len log long r (i + 1)
    have h2 : (keep1 log long (log + (i : Int)) u).length ≤ 1 := keep1_len
    simp only [keepL, List.length_append, List.length_cons]
    omega
theorem keepL_apart (log long : Int) : ∀ (r : List Int) (i : Nat), Apart (keepL log long i r)
  | [], _ => .nil
  | u :: r, i => by
    unfold keepL Apart
    refine List.pairwise_append.2 ⟨?_, keepL_apart log long r (i + 1), fun x hx y hy he => ?_⟩
    · unfold keep1
      split
      · exact List.pairwise_singleton _ _
      · exact .nil
    · obtain ⟨_, h2, rfl⟩ := mem_keep1.1 hx
      obtain ⟨k, v, _, _, h3, rfl⟩ := mem_keepL.1 hy
      rw [he] at h2
      rw [h3] at h2
      have : ((i + 1 + k : Nat) : Int) = (i : Int) := by omega
      omega
theorem keepL_ok {log long : Int} {r : List Int} {i : Nat} (hr : ∀ v ∈ r, 0 ≤ v ∧ v ≤ 18446744073709551615) : ∀ s ∈ keepL log long i r, s.Ok := by
  intro s hs
  obtain ⟨k, v, h1, _, _, rfl⟩ := mem_keepL.1 hs
  exact unS_ok (hr v (List.mem_of_getElem? h1))
/-- what a reading holds -/
def heldL (log long how : Int) (rd : List Int) : List St := if how = 1 then sortS (keepL log long 0 rd) else keepL log long 0 rd
theorem heldL_len {log long how : Int} {rd : List Int} : (heldL log long how rd).length ≤ rd.length := by
  unfold heldL
  split
  · rw [(sortS_perm _).length_eq]; exact keepL_len ..
  · exact keepL_len ..
theorem heldL_ok {log long how : Int} {r : List Int} (hr : ∀ v ∈ r, 0 ≤ v ∧ v ≤ 18446744073709551615) : ∀ s ∈ heldL log long how r, s.Ok := by
  intro s hs
  unfold heldL at hs
  split at hs
  · exact keepL_ok hr s ((sortS_perm _).mem_iff.1 hs)
  · exact keepL_ok hr s hs
/-- a reading that loaded the words rd -/
def RdAt (w : World) (o q : Nat) (log long : Int) (rd : List Int) (how : Int) : Prop := LgAt w o q log long ⟨false, St.zero, 0, rd.length, how⟩ (heldL log long how rd)
theorem RdAt.lt {w : World} {o q : Nat} {log long how : Int} {rd : List Int} (h : RdAt w o q log long rd how) : o < w.heap.size := LgAt.lt h
theorem RdAt.qlt {w : World} {o q : Nat} {log long how : Int} {rd : List Int} (h : RdAt w o q log long rd how) : q < w.heap.size := LgAt.qlt h
theorem RdAt.ex {T : Nat → Prop} {w w' : World} {o q : Nat} {log long how : Int} {rd : List Int} (h : RdAt w o q log long rd how) (p : Ex T w w') (ho : ¬ (T o ∨ T q)) : RdAt w' o q log long rd how := LgAt.ex h p ho
theorem RdAt.start {w : World} {o : Nat} {log long : Int} (h : LgAt w o o log long ⟨false, St.zero, 0, 0, 0⟩ []) : RdAt w o o log long [] 0 := h
def rdNext (ws : List Int) (log : Int) (rd : List Int) : List Int := if inW ws (log + rd.length) then rd ++ [wordF ws (log + rd.length)] else rd
def rdHow (ws : List Int) (log long : Int) (rd : List Int) : Int := if inW ws (log + rd.length) then (if (rd.length : Int) + 1 < long then 0 else 1) else 3
/-- a reading's step -/
theorem RStep_busy (g h_ o q : Nat) (ws : List Int) (t log long : Int) (rd : List Int) (w : World) (h : RdAt w o q log long rd 0) (hb : BankAt w g h_ ws t) (ne : o ≠ g ∧ o ≠ h_ ∧ q ≠ g ∧ q ≠ h_) (hp : HasP log long) (hn : (rd.length : Int) < long) :
    Calls Try.prog 17 #[.pointer (some ⟨o, 0, none⟩), .pointer (some ⟨g, 0, none⟩)] w fun e w' => e = .returned (.int .i64 (rdHow ws log long rd)) ∧ BankAt w' g h_ ws (tickF ws (log + rd.length) t) ∧ (∃ q', RdAt w' o q' log long (rdNext ws log rd) (rdHow ws log long rd) ∧ (q' = q ∨ w.heap.size ≤ q')) ∧ Ex (fun k => k = g ∨ k = h_ ∨ k = o ∨ k = q) w w' := by
  have h' : LgAt w o q log long ⟨false, St.zero, 0, rd.length, 0⟩ (keepL log long 0 rd) := h
  have hl : (keepL log long 0 rd).length ≤ 64 := by have := keepL_len log long rd 0; have := hp.1; omega
  have hpush := keepL_push log long (wordF ws (log + rd.length)) rd 0
  rw [Nat.zero_add] at hpush
  by_cases hin : inW ws (log + rd.length)
  · have hnx : rdNext ws log rd = rd ++ [wordF ws (log + rd.length)] := if_pos hin
    have hlen : (((rd ++ [wordF ws (log + rd.length)]).length : Nat) : Int) = (rd.length : Int) + 1 := by simp
    by_cases hm : (rd.length : Int) + 1 < long
    · have hh : rdHow ws log long rd = 0 := by unfold rdHow; rw [if_pos hin, if_pos hm]
      rw [hh, hnx]
      refine (S_rmore g h_ o q ws t log long rd.length _ w h' hb ne hp ⟨by omega, hn⟩ hin hl hm).mono ?_
      rintro e w' ⟨rfl, h1, ⟨q', h2, h3⟩, h4⟩
      refine ⟨rfl, h1, ⟨q', ?_, h3⟩, h4⟩
      unfold RdAt
      rw [hlen, show heldL log long 0 (rd ++ [wordF ws (log + rd.length)]) = keepL log long 0 rd ++ keep1 log long (log + rd.length) (wordF ws (log + rd.length)) from hpush]
      exact h2
    · have hh : rdHow ws log long rd = 1 := by unfold rdHow; rw [if_pos hin, if_neg hm]
      rw [hh, hnx]
      refine (S_rlast g h_ o q ws t log long rd.length _ w h' hb ne hp ⟨by omega, hn⟩ hin hl (by omega) (by rw [← hpush]; exact keepL_apart ..)).mono ?_
      rintro e w' ⟨rfl, h1, ⟨q', h2, h3⟩, h4⟩
      refine ⟨rfl, h1, ⟨q', ?_, h3⟩, h4⟩
      unfold RdAt
      rw [hlen, show heldL log long 1 (rd ++ [wordF ws (log + rd.length)]) = sortS (keepL log long 0 rd ++ keep1 log long (log + rd.length) (wordF ws (log + rd.length))) from by rw [← hpush]; rfl]
      exact h2
  · have hh : rdHow ws log long rd = 3 := if_neg hin
    have hnx : rdNext ws log rd = rd := if_neg hin
    rw [hh, hnx]
    refine (S_rout g h_ o q ws t log long rd.length _ w h' hb ne hp ⟨by omega, hn⟩ hin).mono ?_
    rintro e w' ⟨rfl, h1, h2, h4⟩
    exact ⟨rfl, h1, ⟨q, h2, .inl rfl⟩, h4⟩
theorem RStep_done (o q : Nat) (log long : Int) (rd : List Int) (how : Int) (w : World) (h : RdAt w o q log long rd how) (hq : how ≠ 0) (bv : Option Addr) :
    Calls Try.prog 17 #[.pointer (some ⟨o, 0, none⟩), .pointer bv] w fun e w' => e = .returned (.int .i64 how) ∧ w = w' := S_done o q log long _ _ w h hq bv
/-- any step of a reading -/
theorem RStep_any (g h_ o q : Nat) (ws : List Int) (t log long : Int) (rd : List Int) (how : Int) (w : World) (h : RdAt w o q log long rd how) (hb : BankAt w g h_ ws t) (ne : o ≠ g ∧ o ≠ h_ ∧ q ≠ g ∧ q ≠ h_) (hp : HasP log long) (hn : how = 0 → (rd.length : Int) < long) :
    Calls Try.prog 17 #[.pointer (some ⟨o, 0, none⟩), .pointer (some ⟨g, 0, none⟩)] w fun e w' => e = .returned (.int .i64 (if how = 0 then rdHow ws log long rd else how)) ∧ BankAt w' g h_ ws (if how = 0 then tickF ws (log + rd.length) t else t) ∧ (∃ q', RdAt w' o q' log long (if how = 0 then rdNext ws log rd else rd) (if how = 0 then rdHow ws log long rd else how) ∧ (q' = q ∨ w.heap.size ≤ q')) ∧ Ex (fun k => k = g ∨ k = h_ ∨ k = o ∨ k = q) w w' := by
  by_cases h0 : how = 0
  · subst h0
    simp only [if_true]
    exact RStep_busy g h_ o q ws t log long rd w h hb ne hp (hn rfl)
  · simp only [if_neg h0]
    refine (RStep_done o q log long rd how w h h0 _).mono ?_
    rintro e w' ⟨rfl, rfl⟩
    exact ⟨rfl, hb, ⟨q, h, .inl rfl⟩, Ex.refl _ _⟩
theorem RGot_done (o q : Nat) (log long : Int) (rd : List Int) (w : World) (h : RdAt w o q log long rd 1) (hl : rd.length ≤ 64) :
    Calls Try.prog 20 #[.pointer (some ⟨o, 0, none⟩)] w fun e w' => ∃ A c, e = .returned (.slice A (sortS (keepL log long 0 rd)).length c) ∧ w'.ownsRow w.heap.size 28 5 (.slice A (sortS (keepL log long 0 rd)).length c) (sortS (keepL log long 0 rd)).length (flatS (sortS (keepL log long 0 rd))) ∧ Below w.heap.size w w' := by
  have e : heldL log long 1 rd = sortS (keepL log long 0 rd) := rfl
  have h' : LgAt w o q log long ⟨false, St.zero, 0, rd.length, 1⟩ (sortS (keepL log long 0 rd)) := h
  refine (G_done o q log long _ _ w h' rfl (by have := heldL_len (log := log) (long := long) (how := 1) (rd := rd); rw [e] at this; omega)).mono ?_
  rintro e w' ⟨v, rfl, h1, h2⟩
  obtain ⟨A, c, rfl⟩ := own_form h1
  exact ⟨A, c, rfl, h1, h2⟩
theorem RGot_busy (o q : Nat) (log long : Int) (rd : List Int) (how : Int) (w : World) (h : RdAt w o q log long rd how) (hq : how ≠ 1) :
    Calls Try.prog 20 #[.pointer (some ⟨o, 0, none⟩)] w fun e w' => e = .returned (.slice none 0 0) ∧ w = w' := G_busy o q log long _ _ w h hq
end Go.Proofs.Ythhellgaafbokaa.Lg
