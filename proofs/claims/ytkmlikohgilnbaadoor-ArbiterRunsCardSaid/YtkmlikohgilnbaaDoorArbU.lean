/-
  An operation of the arbiter, and the document's own beside it: what a step makes of both. Conditions stand at each. By an AI agent.
-/
import Derived.Test.YtkmlikohgilnbaaDoorArbQ
namespace Go.Proofs.YtkmlikohgilnbaaDoor.Arb
set_option linter.unusedVariables false
set_option linter.unusedSimpArgs false
open Go Go.RowKit Go.Proofs.YtkmlikohgilnbaaDoor.Base Go.Proofs.YtkmlikohgilnbaaDoor.Reg
open Go.Proofs.YtkmlikohgilnbaaDoor.Bank (BankAt inW wordF setF tickF errF casB errF_in errF_out wordF_in wordF_out tickF_in tickF_out setF_in setF_out casB_out casB_in wordF_range)
open Go.Proofs.YtkmlikohgilnbaaDoor.Modes (Tab)

structure Link (k : Kd) (n : Int) (x : AX) (y : RX) : Prop where
  how : y.how = x.how
  st : y.st = x.st
  err : y.err = x.err
  steps : y.steps = x.steps
  at_ : y.at_ = if x.how = 1 then x.steps else 0
  next : x.how = 0 → (x.swaps = true → y.next = 2 ∧ y.w = x.word) ∧ (x.swaps = false → y.next ≠ 2)
  sw : x.how = 0 → k.isRead = false → y.swaps = n - x.left
  rd : k.isRead = true → y.swaps = 0
  sr : 0 ≤ y.swaps ∧ y.swaps ≤ 16
  z : x.how = 0 → y.st = St.zero
theorem Link.zero (k : Kd) (n : Int) : Link k n (AX.zero n) RX.zero :=
  ⟨rfl, rfl, rfl, rfl, rfl, fun _ => ⟨fun h => by simp [AX.zero] at h, fun _ => by simp [RX.zero]⟩, fun _ _ => by simp [RX.zero, AX.zero], fun _ => rfl, by decide, fun _ => rfl⟩
theorem rk_read {p : Pl} (h : p.kd.isRead = true) : p.rk = 2 := by
  unfold Pl.rk
  by_cases h0 : p.kind = 0
  · unfold Pl.kd at h; rw [if_pos h0] at h; simp [Kd.isRead] at h
  · by_cases h1 : p.kind = 1
    · unfold Pl.kd at h; rw [if_neg h0, if_pos h1] at h; simp [Kd.isRead] at h
    · rw [if_neg (fun h => h.elim h0 h1)]
theorem rk_own {p : Pl} (h : p.kd.isRead = false) (n : Int) : p.rk ≠ 2 ∧ p.n n = n := by
  unfold Pl.rk Pl.n
  by_cases h0 : p.kind = 0
  · rw [if_pos (.inl h0), if_pos (.inl h0)]; exact ⟨by omega, rfl⟩
  · by_cases h1 : p.kind = 1
    · rw [if_pos (.inr h1), if_pos (.inr h1)]; exact ⟨by omega, rfl⟩
    · unfold Pl.kd at h; rw [if_neg h0, if_neg h1] at h; simp [Kd.isRead] at h
theorem wordF_set {ws : List Int} {at_ u : Int} (h : inW ws at_) : wordF (setF ws at_ u) at_ = u := by
  have hl : at_.toNat < ws.length := by have := h.1; have := h.2; omega
  rw [setF_in h]
  have h2 : inW (ws.set at_.toNat u) at_ := ⟨h.1, by rw [List.length_set]; exact h.2⟩
  rw [wordF_in h2]
  simp [nth, List.getD_eq_getElem?_getD, hl]
set_option maxHeartbeats 2000000 in
theorem RStep_any (r : Nat) (p : Pl) (hp : p.Ok) (n : Int) (x : AX) (y : RX) (hi : AInv p.kd (p.n n) x) (hl : Link p.kd (p.n n) x y) (ws : List Int) (at_ : Int) (hin : inW ws at_) (hv : 0 ≤ wordF ws at_ ∧ wordF ws at_ ≤ 18446744073709551615) (w : World) (h : Blk w r 46 (RX.cells p n y)) :
    Calls Tryd.prog 22 #[.pointer (some ⟨r, 0, none⟩), .int .u64 (wordF ws at_)] w fun e w' => ∃ y', e = .returned (.int .u64 (wordF (aWs at_ ws x) at_)) ∧ Blk w' r 46 (RX.cells p n y') ∧ Link p.kd (p.n n) (aStep p.kd at_ ws x) y' ∧ Ex (fun q => q = r) w w' := by
  obtain ⟨nx, sw, wd, how, s0, er, st, at0⟩ := y
  obtain ⟨xhow, xsw, xw, xn, xs, xe, xl, xst⟩ := x
  obtain ⟨l1, l2, l3, l4, l5, l6, l7, l8, l9, l10⟩ := hl
  simp only at l1 l2 l3 l4 l5 l6 l7 l8 l9 l10
  subst l1 l2 l3 l4
  have hst := hi.st
  simp only at hst
  by_cases hh : how ≠ 0
  · have e := still_step (k := p.kd) (at_ := at_) (ws := ws) (t := 0) (x := ⟨how, xsw, xw, xn, s0, er, xl, st⟩) hh
    rw [e.1, e.2.1]
    exact (RS_how r p n (wordF ws at_) nx sw wd how s0 er st at0 w h (by omega) (by omega) hh).mono fun e w' q => ⟨_, q.1, q.2.1, ⟨rfl, rfl, rfl, rfl, l5, l6, l7, l8, l9, l10⟩, q.2.2⟩
  have hh0 : how = 0 := by omega
  subst hh0
  have hsw : 0 ≤ sw ∧ sw < 1000 := by omega
  obtain ⟨v, hvv⟩ : ∃ v, wordF ws at_ = v := ⟨_, rfl⟩
  rw [hvv] at hv ⊢
  cases xsw with
  | false =>
    have hnx := (l6 rfl).2 rfl
    have e2 : aWs at_ ws ⟨0, false, xw, xn, s0, er, xl, st⟩ = ws := by unfold aWs; simp
    rw [e2, hvv]
    unfold aStep
    simp only [ne_eq, not_true_eq_false, if_false, if_true]
    rw [if_pos hin, hvv]
    unfold aFound
    by_cases hm : mayE (partsOf v) = 0
    · have hu : unE v = 0 := if_pos hm
      have hs : unS v = partsOf v := if_pos hm
      have hr : rightB (partsOf v) = true := decide_eq_true hm
      rw [if_neg (by simpa using hu), hs]
      cases hrd : p.kd.isRead with
      | true =>
        simp only [if_true]
        exact (RS_read r p n v hv nx sw wd 0 s0 er st at0 w h (by omega) hsw hnx hr (rk_read hrd)).mono fun e w' q => ⟨_, q.1, q.2.1, ⟨rfl, rfl, rfl, rfl, rfl, fun h => by simp at h, fun h => by simp at h, fun _ => l8 hrd, l9, fun h => by simp at h⟩, q.2.2⟩
      | false =>
        simp only [Bool.false_eq_true, if_false]
        by_cases hE : p.kd.E (partsOf v) = 0
        · rw [if_neg (by simpa using hE)]
          exact (RS_take r p n v p.kd rfl hp hrd hv nx sw wd 0 s0 er st at0 w h (by omega) hsw hnx hr (rk_own hrd n).1 hE).mono fun e w' q => ⟨_, q.1, q.2.1, ⟨rfl, rfl, rfl, rfl, by rw [if_neg (by simp)] at l5 ⊢; exact l5, fun _ => ⟨fun _ => ⟨rfl, rfl⟩, fun h => by simp at h⟩, fun _ _ => l7 rfl hrd, fun h => by rw [hrd] at h; simp at h, l9, fun h => l10 rfl⟩, q.2.2⟩
        · rw [if_pos (by simpa using hE)]
          exact (RS_refuse r p n v p.kd rfl hp hrd hv nx sw wd 0 s0 er st at0 w h (by omega) hsw hnx hr (rk_own hrd n).1 hE).mono fun e w' q => ⟨_, q.1, q.2.1, ⟨rfl, rfl, rfl, rfl, rfl, fun h => by simp at h, fun h => by simp at h, fun h => by rw [hrd] at h; simp at h, l9, fun h => by simp at h⟩, q.2.2⟩
    · have hu : unE v = 11 := if_neg hm
      have hs : unS v = St.zero := if_neg hm
      have hr : rightB (partsOf v) = false := decide_eq_false hm
      rw [if_pos (by rw [hu]; decide), hs, hu]
      exact (RS_form r p n v hv nx sw wd 0 s0 er st at0 w h (by omega) hsw hnx hr).mono fun e w' q => ⟨_, q.1, q.2.1, ⟨rfl, rfl, rfl, rfl, rfl, fun h => by simp at h, fun h => by simp at h, fun h => l8 h, l9, fun h => by simp at h⟩, q.2.2⟩
  | true =>
    obtain ⟨n2, nw⟩ := (l6 rfl).1 rfl
    subst n2 nw
    obtain ⟨t1, t2, t3⟩ := hi.next (Pl.kd_ok hp) rfl rfl
    obtain ⟨u1, u2, u3, u4⟩ := hi.sw rfl rfl
    simp only at t1 t2 u1 u2 u3 u4
    obtain ⟨u5, u6⟩ := unS_may u1 u2
    rw [u6] at u3 u4
    have ho := rk_own t3 n
    rw [ho.2] at l7 hi ⊢
    have lv := hi.lv rfl t3
    have lw := l7 rfl t3
    simp only at lv lw
    by_cases hc : casB ws at_ wd = true
    · have e : v = wd := by rw [casB_in hin, ← wordF_in hin, hvv] at hc; simpa using hc
      subst e
      have e2 : aWs at_ ws ⟨0, true, v, xn, s0, er, xl, st⟩ = setF ws at_ (wordI xn) := by unfold aWs; rw [if_pos ⟨rfl, rfl, hc⟩]
      rw [e2, wordF_set hin]
      unfold aStep
      simp only [ne_eq, not_true_eq_false, if_false, Bool.true_eq_false]
      rw [if_neg (show ¬ ¬ inW ws at_ from fun h => h hin), if_pos hc]
      exact (RS_hit r p n v p.kd rfl hp t3 hv xn 2 sw v 0 s0 er st at0 w h (by omega) hsw u4.symm u3 ⟨t1, (mayE_zero.1 t2).1⟩).mono fun e w' q => ⟨_, q.1, q.2.1, ⟨rfl, rfl, rfl, rfl, rfl, fun h => by simp at h, fun h => by simp at h, fun h => by rw [t3] at h; simp at h, by have := hi.nn; simp only; omega, fun h => by simp at h⟩, q.2.2⟩
    · have hne : v ≠ wd := by intro e; apply hc; rw [casB_in hin, ← wordF_in hin, hvv, e]; simp
      have e2 : aWs at_ ws ⟨0, true, wd, xn, s0, er, xl, st⟩ = ws := by unfold aWs; rw [if_neg (fun q => hc q.2.2)]
      rw [e2, hvv]
      unfold aStep
      simp only [ne_eq, not_true_eq_false, if_false, Bool.true_eq_false]
      rw [if_neg (show ¬ ¬ inW ws at_ from fun h => h hin), if_neg hc]
      by_cases hx : xl = 1
      · rw [if_pos hx]
        exact (RS_spent r p n v 2 sw wd 0 s0 er st at0 w h (by omega) hsw hne (by omega)).mono fun e w' q => ⟨_, q.1, q.2.1, ⟨rfl, l10 rfl, rfl, rfl, by rw [if_neg (by simp)] at l5 ⊢; exact l5, fun h => by simp at h, fun h => by simp at h, fun h => by rw [t3] at h; simp at h, by have := hi.nn; simp only; omega, fun h => by simp at h⟩, q.2.2⟩
      · rw [if_neg hx]
        exact (RS_busy r p n v 2 sw wd 0 s0 er st at0 w h (by omega) hsw hne (by omega)).mono fun e w' q => ⟨_, q.1, q.2.1, ⟨rfl, rfl, rfl, rfl, by rw [if_neg (by simp)] at l5 ⊢; exact l5, fun _ => ⟨fun h => by simp at h, fun _ => by simp⟩, fun _ _ => by simp only; omega, fun h => by rw [t3] at h; simp at h, by have := hi.nn; simp only; omega, fun h => l10 rfl⟩, q.2.2⟩
end Go.Proofs.YtkmlikohgilnbaaDoor.Arb
