/-
  Law 12: a poll's step, one contract. Conditions stand at each. By an AI agent.
-/
import Derived.Test.YthcaagkgddeabaaPoEo
import Derived.Test.YthcaagkgddeabaaPoEa
import Derived.Test.YthcaagkgddeabaaPoEb
import Derived.Test.YthcaagkgddeabaaPoEc
namespace Go.Proofs.Ythcaagkgddeabaa.Bank
set_option linter.unusedVariables false
set_option linter.unusedSimpArgs false
open Go Go.RowKit Go.Proofs.Ythcaagkgddeabaa.Base Go.Deep Go.ChangeShapes Go.WideShapes Go.Proofs.Ythcaagkgddeabaa.Queue
/-- which word a step loads -/
def pAtF (c : PC) (x : PX) : Int := if x.round = 2 then x.place + x.next else (c.tp x.next.toNat).spot.seq
def pFirst (c : PC) (x : PX) (v : Int) : PX :=
  if x.next + 1 = c.T then firstP c { x with steps := x.steps + 1, gl := x.gl.set x.next.toNat (v / 2), next := x.next + 1 }
  else { x with steps := x.steps + 1, gl := x.gl.set x.next.toNat (v / 2), next := x.next + 1 }
def pRecord (x : PX) (v : Int) : PX :=
  if x.next + 1 = x.size then { x with steps := x.steps + 1, words := x.words ++ [v], round := 3, next := 0 }
  else { x with steps := x.steps + 1, words := x.words ++ [v], next := x.next + 1 }
def pSecond (c : PC) (x : PX) (v : Int) : PX :=
  if v / 2 = nth x.gl x.next.toNat then
    if x.next + 1 = c.T then finishP c { x with steps := x.steps + 1, next := x.next + 1 } else { x with steps := x.steps + 1, next := x.next + 1 }
  else if x.left - 1 = 0 then { x with steps := x.steps + 1, round := 1, next := 0, left := x.left - 1, how := 2 } else { x with steps := x.steps + 1, round := 1, next := 0, left := x.left - 1 }
def pStepF (c : PC) (ws : List Int) (x : PX) : PX :=
  if x.how ≠ 0 then x
  else if ¬ inW ws (pAtF c x) then { x with how := 3 }
  else if x.round = 2 then pRecord x (wordF ws (pAtF c x))
  else if x.round = 3 then pSecond c x (wordF ws (pAtF c x))
  else pFirst c x (wordF ws (pAtF c x))
def pTickF (c : PC) (ws : List Int) (x : PX) (t : Int) : Int := if x.how ≠ 0 then t else tickF ws (pAtF c x) t
set_option maxRecDepth 100000 in
theorem PS_done (o rs cs rt ct q : Nat) (vw : Value) (c : PC) (x : PX) (v : Value) (w : World) (ho : PAt w o rs cs rt ct q vw c x) (hh : x.how ≠ 0) :
    Calls Try.prog 9 #[.pointer (some ⟨o, 0, none⟩), v] w fun e w' => e = .returned (.int .i64 x.how) ∧ w = w' := by
  have q0 := ho.box.cell 0
  have q10 := ho.box.cell 10
  simp only [pcs, List.getElem?_toArray, List.getElem?_cons_succ, List.getElem?_cons_zero] at q0 q10
  have kh : (x.how != 0) = true := by simpa using hh
  generalize x.how = how at *
  clear ho hh
  go_enter Try.func9, Try.ntmps9
  go_wp2_with fail
  refine wp_scope_ahead 2 (fun c0 HC => ?_)
  go_wp2_with fail
  first | rw [goOn_ret] | skip
  go_ret
  exact ⟨rfl, rfl⟩
theorem PStep_any (g h o rs cs rt ct q : Nat) (vw : Value) (ws : List Int) (t : Int) (c : PC) (x : PX) (w : World) (hb : BankAt w g h ws t) (ho : PAt w o rs cs rt ct q vw c x) (hi' : x.how = 0 → PInv c x)
    (ne : o ≠ g ∧ o ≠ h ∧ rs ≠ g ∧ rs ≠ h ∧ rt ≠ g ∧ rt ≠ h ∧ q ≠ g ∧ q ≠ h) :
    Calls Try.prog 9 #[.pointer (some ⟨o, 0, none⟩), .pointer (some ⟨g, 0, none⟩)] w fun e w' => e = .returned (.int .i64 (pStepF c ws x).how) ∧ BankAt w' g h ws (pTickF c ws x t) ∧ (∃ q' vw', PAt w' o rs cs rt ct q' vw' c (pStepF c ws x) ∧ (q' = q ∨ w.heap.size ≤ q')) ∧ Ex (fun k => k = g ∨ k = h ∨ k = o ∨ k = rs ∨ k = rt ∨ k = q) w w' := by
  obtain ⟨left, round, next, pk, gen, place, size, how, steps, begun, words, gl, cu⟩ := x
  by_cases hh : how = 0
  · subst hh
    have hi := hi' rfl
    have hw := hi.way rfl
    obtain ⟨j, hj⟩ : ∃ j : Nat, next = (j : Int) := ⟨next.toNat, by have := hi.nx; simp only at this; omega⟩
    subst hj
    simp only at hw
    have e1 : pStepF c ws ⟨left, round, (j : Int), pk, gen, place, size, 0, steps, begun, words, gl, cu⟩ = if ¬ inW ws (pAtF c ⟨left, round, (j : Int), pk, gen, place, size, 0, steps, begun, words, gl, cu⟩) then ⟨left, round, (j : Int), pk, gen, place, size, 3, steps, begun, words, gl, cu⟩ else if round = 2 then pRecord ⟨left, round, (j : Int), pk, gen, place, size, 0, steps, begun, words, gl, cu⟩ (wordF ws (pAtF c ⟨left, round, (j : Int), pk, gen, place, size, 0, steps, begun, words, gl, cu⟩)) else if round = 3 then pSecond c ⟨left, round, (j : Int), pk, gen, place, size, 0, steps, begun, words, gl, cu⟩ (wordF ws (pAtF c ⟨left, round, (j : Int), pk, gen, place, size, 0, steps, begun, words, gl, cu⟩)) else pFirst c ⟨left, round, (j : Int), pk, gen, place, size, 0, steps, begun, words, gl, cu⟩ (wordF ws (pAtF c ⟨left, round, (j : Int), pk, gen, place, size, 0, steps, begun, words, gl, cu⟩)) := rfl
    have e2 : pTickF c ws ⟨left, round, (j : Int), pk, gen, place, size, 0, steps, begun, words, gl, cu⟩ t = tickF ws (pAtF c ⟨left, round, (j : Int), pk, gen, place, size, 0, steps, begun, words, gl, cu⟩) t := rfl
    rw [e1, e2]
    clear e1 e2
    rcases hw with ⟨rfl, hj⟩ | ⟨rfl, hj⟩ | ⟨rfl, hj, _⟩
    · have ea : pAtF c ⟨left, 1, (j : Int), pk, gen, place, size, 0, steps, begun, words, gl, cu⟩ = (c.tp j).spot.seq := by unfold pAtF; simp
      rw [ea]
      by_cases hin : inW ws (c.tp j).spot.seq
      · rw [if_neg (fun h => h hin), if_neg (by decide), if_neg (by decide)]
        unfold pFirst
        simp only [Int.toNat_natCast]
        by_cases hv : j + 1 = c.T
        · rw [if_pos (by omega)]
          have hf : (firstP c ⟨left, 1, (j : Int) + 1, pk, gen, place, size, 0, steps + 1, begun, words, gl.set j (wordF ws (c.tp j).spot.seq / 2), cu⟩).how = 0 := by
            unfold firstP
            obtain ⟨_, _, _, _, e⟩ := chooseP_form c ⟨left, 1, (j : Int) + 1, pk, gen, place, size, 0, steps + 1, begun, words, gl.set j (wordF ws (c.tp j).spot.seq / 2), cu⟩
            rw [e]
          rw [hf]
          exact PS_Al g h o rs cs rt ct q vw ws t c left pk gen place size steps begun words gl cu j w hb ho hi ne (by omega) hin hv
        · rw [if_neg (by omega)]
          exact PS_A g h o rs cs rt ct q vw ws t c left pk gen place size steps begun words gl cu j w hb ho hi ne (by omega) hin hv
      · rw [if_pos hin]
        exact PS_outA g h o rs cs rt ct q vw ws t c left pk gen place size steps begun words gl cu j w hb ho hi ne (by omega) hin
    · have ea : pAtF c ⟨left, 3, (j : Int), pk, gen, place, size, 0, steps, begun, words, gl, cu⟩ = (c.tp j).spot.seq := by unfold pAtF; simp
      rw [ea]
      by_cases hin : inW ws (c.tp j).spot.seq
      · rw [if_neg (fun h => h hin), if_neg (by decide), if_pos rfl]
        unfold pSecond
        simp only [Int.toNat_natCast]
        by_cases hk : wordF ws (c.tp j).spot.seq / 2 = nth gl j
        · rw [if_pos hk]
          by_cases hv : j + 1 = c.T
          · rw [if_pos (by omega)]
            exact PS_Cl g h o rs cs rt ct q vw ws t c left pk gen place size steps begun words gl cu j w hb ho hi ne (by omega) hin hv hk
          · rw [if_neg (by omega)]
            exact PS_Cm g h o rs cs rt ct q vw ws t c left pk gen place size steps begun words gl cu j w hb ho hi ne (by omega) hin hv hk
        · rw [if_neg hk]
          by_cases hv : left - 1 = 0
          · rw [if_pos hv]
            exact PS_Cs g h o rs cs rt ct q vw ws t c left pk gen place size steps begun words gl cu j w hb ho hi ne (by omega) hin hv hk
          · rw [if_neg hv]
            exact PS_Ca g h o rs cs rt ct q vw ws t c left pk gen place size steps begun words gl cu j w hb ho hi ne (by omega) hin hv hk
      · rw [if_pos hin]
        exact PS_outC g h o rs cs rt ct q vw ws t c left pk gen place size steps begun words gl cu j w hb ho hi ne (by omega) hin
    · have ea : pAtF c ⟨left, 2, (j : Int), pk, gen, place, size, 0, steps, begun, words, gl, cu⟩ = place + (j : Int) := rfl
      rw [ea]
      by_cases hin : inW ws (place + (j : Int))
      · rw [if_neg (fun h => h hin), if_pos rfl]
        unfold pRecord
        simp only
        by_cases hv : (j : Int) + 1 = size
        · rw [if_pos hv]
          exact PS_Bl g h o rs cs rt ct q vw ws t c left pk gen place size steps begun words gl cu j w hb ho hi ne (by omega) hin hv
        · rw [if_neg hv]
          exact PS_B g h o rs cs rt ct q vw ws t c left pk gen place size steps begun words gl cu j w hb ho hi ne (by omega) hin hv
      · rw [if_pos hin]
        exact PS_outB g h o rs cs rt ct q vw ws t c left pk gen place size steps begun words gl cu j w hb ho hi ne (by omega) hin
  · have es : pStepF c ws ⟨left, round, next, pk, gen, place, size, how, steps, begun, words, gl, cu⟩ = ⟨left, round, next, pk, gen, place, size, how, steps, begun, words, gl, cu⟩ := if_pos hh
    have et : pTickF c ws ⟨left, round, next, pk, gen, place, size, how, steps, begun, words, gl, cu⟩ t = t := if_pos hh
    rw [es, et]
    refine (PS_done o rs cs rt ct q vw c _ _ w ho hh).mono ?_
    rintro e w' ⟨rfl, rfl⟩
    exact ⟨rfl, hb, ⟨q, vw, ho, .inl rfl⟩, Ex.refl _ _⟩
/-- what holds of a poll under way holds behind its step -/
theorem atF_range {s : Spot} {gen : Int} (h : s.AtOk) : 0 ≤ atF s gen ∧ atF s gen ≤ 1100000 := by
  have := atF_bounds (gen := gen) h
  rw [atF_ok h]
  have h3 := h.2.2
  omega
theorem best_range (l : Nat → Queue.Sub) (gs : List Int) (n : Nat) (h : ¬ best l gs n < 0) : (best l gs n).toNat < n := by
  have := best_lt l gs n
  omega
theorem chooseP_ok {c : PC} {x : PX} (hc : c.Ok) : 0 ≤ (chooseP c x).size ∧ (chooseP c x).size ≤ 64 ∧ ((chooseP c x).size ≠ 0 → 0 ≤ (chooseP c x).place ∧ (chooseP c x).place ≤ 1100000) := by
  unfold chooseP
  split
  · exact ⟨Int.le_refl _, by show (0 : Int) ≤ 64; decide, fun h => absurd rfl h⟩
  · rename_i hz
    have hk := best_range _ _ _ hz
    have ha := hc.atOk _ (hc.ix _ hk).1
    exact ⟨by have := ha.1; simp only [pickF]; omega, by have := ha.1; simp only [pickF]; omega, fun _ => atF_range ha⟩
theorem takeC_fine {c : Cur} {g : Int} (hr : c.Right) (hc : c.Ok) (hg : 0 ≤ g ∧ Is g) (ht : takeE c g = 0) : (takeC c g).Right ∧ (takeC c g).Ok := by
  have hm : mayE c g = 0 := mayE_yes hr hg.2
  have h1 := seen_ok hr hc hg.1 hg.2
  have h2 := seen_right hr hg.2
  have ht' := ht
  unfold takeE at ht'
  rw [if_pos hm] at ht'
  have h3 : (Queue.seen c g).next ≤ g := by
    by_cases h : g < (Queue.seen c g).next
    · rw [if_pos h] at ht'; cases ht'
    · omega
  unfold takeC
  rw [if_pos ht]
  have := hg.2
  unfold Is at this
  exact ⟨⟨h2.1, by simp only; omega⟩, ⟨by have := h1.next; simp only; omega, h1.cap, by simp only; exact u64_wrap_range _, h1.lost⟩⟩
theorem seeC_fine {c : Cur} {g : Int} (hr : c.Right) (hc : c.Ok) (hg : 0 ≤ g ∧ Is g) : (seeC c g).Right ∧ (seeC c g).Ok := by
  unfold seeC
  rw [if_pos (mayE_yes hr hg.2)]
  exact ⟨seen_right hr hg.2, seen_ok hr hc hg.1 hg.2⟩
/-- what is picked has something queued -/
theorem best_has (l : Nat → Queue.Sub) (gs : List Int) : ∀ k : Nat, 0 ≤ best l gs k → ¬ nth gs (best l gs k).toNat < (Queue.seen (l (best l gs k).toNat).cur (nth gs (best l gs k).toNat)).next := by
  intro k
  induction k with
  | zero => intro h; simp [best] at h
  | succ k ih =>
    intro h
    rw [best_succ] at h ⊢
    by_cases h1 : nth gs k < (Queue.seen (l k).cur (nth gs k)).next
    · rw [if_pos h1] at h ⊢; exact ih h
    · rw [if_neg h1] at h ⊢
      by_cases h2 : 0 ≤ best l gs k ∧ (l k).rank ≤ (l (best l gs k).toNat).rank
      · rw [if_pos h2] at h ⊢; exact ih h
      · rw [if_neg h2, Int.toNat_natCast]; exact h1
end Go.Proofs.Ythcaagkgddeabaa.Bank
