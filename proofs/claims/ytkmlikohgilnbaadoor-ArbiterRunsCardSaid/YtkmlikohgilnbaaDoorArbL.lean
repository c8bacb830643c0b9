/-
  Law 15: an operation's beginning, and its run. Printed by wip/tools/mkal.py. Conditions stand at each. By an AI agent.
-/
import Derived.Test.YtkmlikohgilnbaaDoorArbG
namespace Go.Proofs.YtkmlikohgilnbaaDoor.Arb
set_option linter.unusedVariables false
set_option linter.unusedSimpArgs false
open Go Go.RowKit Go.Proofs.YtkmlikohgilnbaaDoor.Base Go.Proofs.YtkmlikohgilnbaaDoor.Reg
open Go.Proofs.YtkmlikohgilnbaaDoor.Bank (BankAt inW wordF setF tickF errF casB errF_in errF_out wordF_in wordF_out tickF_in tickF_out setF_in setF_out casB_out casB_in wordF_range Load_any CAS_any Load_nil New_in Store_any Peek_any Touches_any zeros)
open Go.Proofs.YtkmlikohgilnbaaDoor.Modes (Tab)

structure Pl where
  kind : Int
  source : Int
  mode : Int
  free : Bool
  flags : Int
def Pl.val (p : Pl) : Value := .agg #[.int .i64 p.kind, .int .i64 p.source, .int .i64 p.mode, .bool p.free, .int .i64 p.flags]
structure Pl.Ok (p : Pl) : Prop where
  source : -9223372036854775808 ≤ p.source ∧ p.source ≤ 9223372036854775807
  mode : -9223372036854775808 ≤ p.mode ∧ p.mode ≤ 9223372036854775807
  flags : -9223372036854775808 ≤ p.flags ∧ p.flags ≤ 9223372036854775807
def Pl.kd (p : Pl) : Kd := if p.kind = 0 then .req ⟨p.source, p.mode, p.free⟩ else if p.kind = 1 then .tell p.flags else .read
def Pl.n (p : Pl) (tries : Int) : Int := if p.kind = 0 ∨ p.kind = 1 then tries else 0
def Pl.May (p : Pl) (tries : Int) : Prop := if p.kind = 0 then 1 ≤ tries ∧ tries ≤ 16 ∧ (⟨p.source, p.mode, p.free⟩ : Reg.Ask).In else if p.kind = 1 then 1 ≤ tries ∧ tries ≤ 16 ∧ 0 ≤ p.flags ∧ p.flags ≤ 63 else True
instance (p : Pl) (n : Int) : Decidable (p.May n) := by unfold Pl.May; infer_instance
theorem Pl.kd_ok {p : Pl} (h : p.Ok) : p.kd.Ok := by
  unfold Pl.kd
  split
  · exact ⟨h.source, h.mode⟩
  · split
    · exact h.flags
    · trivial
theorem Pl.inv {p : Pl} {n : Int} (h : p.May n) : AInv p.kd (p.n n) (AX.zero (p.n n)) := by
  unfold Pl.May at h
  unfold Pl.n Pl.kd
  by_cases h0 : p.kind = 0
  · rw [if_pos h0] at h ⊢
    rw [if_pos (.inl h0)]
    exact AInv.zero (.inr ⟨h.1, h.2.1⟩) (fun _ => h.1)
  · rw [if_neg h0] at h ⊢
    by_cases h1 : p.kind = 1
    · rw [if_pos h1] at h ⊢
      rw [if_pos (.inr h1)]
      exact AInv.zero (.inr ⟨h.1, h.2.1⟩) (fun _ => h.1)
    · rw [if_neg h1]
      rw [if_neg (by simp [h0, h1])]
      exact AInv.zero (.inl ⟨rfl, rfl⟩) (fun h9 => by simp [Kd.isRead] at h9)
set_option maxRecDepth 100000 in
theorem begin_in (at_ n : Int) (p : Pl) (w : World) (hz : 0 < w.heap.size) (hm : p.May n) : Calls Tryd.prog 17 #[.int .i64 at_, p.val, .int .i64 n] w fun e w' => ∃ o b, e = .returned (.tuple #[.pointer (some ⟨o, 0, none⟩), .int .i64 0]) ∧ ArbAt w' o b p.kd at_ (AX.zero (p.n n)) ∧ w.heap.size ≤ o ∧ (w.heap.size ≤ b ∨ b = 0) ∧ o < w'.heap.size ∧ b < w'.heap.size ∧ Below w.heap.size w w' := by
  obtain ⟨kd, so, mo, fr, fl⟩ := p
  unfold Pl.May at hm
  unfold Pl.val Pl.n Pl.kd
  simp only at hm ⊢
  by_cases h0 : kd = 0
  · rw [if_pos h0] at hm
    simp only [if_pos h0, if_pos (show kd = 0 ∨ kd = 1 from .inl h0)]
    have L0 := Lib.hid ((Below.refl w.heap.size w).alloc (Nat.le_refl _) (.cells #[.int .i64 kd, .int .i64 so, .int .i64 mo, .bool fr, .int .i64 fl] 41))
    have HM := Lib.hid (ARequest_in at_ n ⟨so, mo, fr⟩ (w.alloc (.cells #[.int .i64 kd, .int .i64 so, .int .i64 mo, .bool fr, .int .i64 fl] 41)) hm)
    unfold Reg.Ask.val at HM
    simp only at HM
    clear hm hz
    have k0 : (kd == 0) = true := by simpa using h0
    have d0 : (kd != 0) = false := by simpa using h0
    clear h0
    go_enter Tryd.func17, Tryd.ntmps17
    go_wp2_with fail
    refine HM.out.mono ?_; rintro e w2 ⟨o, b, rfl, ha, hs1, hs2, hs3, hs4, hb⟩
    go_wp2_with fail
    go_ret2
    simp only [World.size_alloc] at hs1 hs2
    exact ⟨o, b, rfl, ha, by omega, by omega, hs3, hs4, bl L0.out hb⟩
  · rw [if_neg h0] at hm
    by_cases h1 : kd = 1
    · rw [if_pos h1] at hm
      simp only [if_neg h0, if_pos h1, if_pos (show kd = 0 ∨ kd = 1 from .inr h1)]
      have L0 := Lib.hid ((Below.refl w.heap.size w).alloc (Nat.le_refl _) (.cells #[.int .i64 kd, .int .i64 so, .int .i64 mo, .bool fr, .int .i64 fl] 41))
      have HM := Lib.hid (AHealth_in at_ n fl (w.alloc (.cells #[.int .i64 kd, .int .i64 so, .int .i64 mo, .bool fr, .int .i64 fl] 41)) hm)
      clear hm hz
      have k0 : (kd == 0) = false := by simpa using h0
      have k1 : (kd == 1) = true := by simpa using h1
      clear h0 h1
      go_enter Tryd.func17, Tryd.ntmps17
      go_wp2_with fail
      refine HM.out.mono ?_; rintro e w2 ⟨o, b, rfl, ha, hs1, hs2, hs3, hs4, hb⟩
      go_wp2_with fail
      go_ret2
      simp only [World.size_alloc] at hs1 hs2
      exact ⟨o, b, rfl, ha, by omega, by omega, hs3, hs4, bl L0.out hb⟩
    · simp only [if_neg h0, if_neg h1, if_neg (show ¬ (kd = 0 ∨ kd = 1) from fun h => h.elim h0 h1)]
      clear hm
      have L0 := Lib.hid ((Below.refl w.heap.size w).alloc (Nat.le_refl _) (.cells #[.int .i64 kd, .int .i64 so, .int .i64 mo, .bool fr, .int .i64 fl] 41))
      have HM := Lib.hid (AMode_any at_ (w.alloc (.cells #[.int .i64 kd, .int .i64 so, .int .i64 mo, .bool fr, .int .i64 fl] 41)) (by simp))
      clear hz
      have k0 : (kd == 0) = false := by simpa using h0
      have k1 : (kd == 1) = false := by simpa using h1
      clear h0 h1
      go_enter Tryd.func17, Tryd.ntmps17
      go_wp2_with fail
      refine HM.out.mono ?_; rintro e w2 ⟨o, b, rfl, ha, hs1, hs2, hs3, hs4, hb⟩
      go_wp2_with fail
      go_ret2
      simp only [World.size_alloc] at hs1 hs2
      exact ⟨o, b, rfl, ha, by omega, by omega, hs3, hs4, bl L0.out hb⟩
set_option maxRecDepth 100000 in
theorem begin_bad (at_ n : Int) (p : Pl) (w : World) (hm : ¬ p.May n) : Calls Tryd.prog 17 #[.int .i64 at_, p.val, .int .i64 n] w fun e w' => e = .returned (.tuple #[.pointer none, .int .i64 10]) ∧ Below w.heap.size w w' := by
  obtain ⟨kd, so, mo, fr, fl⟩ := p
  unfold Pl.May at hm
  unfold Pl.val
  simp only at hm ⊢
  by_cases h0 : kd = 0
  · rw [if_pos h0] at hm
    have L0 := Lib.hid ((Below.refl w.heap.size w).alloc (Nat.le_refl _) (.cells #[.int .i64 kd, .int .i64 so, .int .i64 mo, .bool fr, .int .i64 fl] 41))
    have HM := Lib.hid (ARequest_bad at_ n ⟨so, mo, fr⟩ (w.alloc (.cells #[.int .i64 kd, .int .i64 so, .int .i64 mo, .bool fr, .int .i64 fl] 41)) hm)
    unfold Reg.Ask.val at HM
    simp only at HM
    clear hm
    have k0 : (kd == 0) = true := by simpa using h0
    have d0 : (kd != 0) = false := by simpa using h0
    clear h0
    go_enter Tryd.func17, Tryd.ntmps17
    go_wp2_with fail
    refine HM.out.mono ?_; rintro e w2 ⟨rfl, hb⟩
    go_wp2_with fail
    go_ret2
    exact ⟨rfl, bl L0.out hb⟩
  · rw [if_neg h0] at hm
    by_cases h1 : kd = 1
    · rw [if_pos h1] at hm
      have L0 := Lib.hid ((Below.refl w.heap.size w).alloc (Nat.le_refl _) (.cells #[.int .i64 kd, .int .i64 so, .int .i64 mo, .bool fr, .int .i64 fl] 41))
      have HM := Lib.hid (AHealth_bad at_ n fl (w.alloc (.cells #[.int .i64 kd, .int .i64 so, .int .i64 mo, .bool fr, .int .i64 fl] 41)) hm)
      clear hm
      have k0 : (kd == 0) = false := by simpa using h0
      have k1 : (kd == 1) = true := by simpa using h1
      clear h0 h1
      go_enter Tryd.func17, Tryd.ntmps17
      go_wp2_with fail
      refine HM.out.mono ?_; rintro e w2 ⟨rfl, hb⟩
      go_wp2_with fail
      go_ret2
      exact ⟨rfl, bl L0.out hb⟩
    · rw [if_neg h1] at hm
      exact absurd trivial hm

def aSt (k : Kd) (at_ : Int) (s : AX × List Int × Int) : AX × List Int × Int := (aStep k at_ s.2.1 s.1, aWs at_ s.2.1 s.1, aT at_ s.2.1 s.1 s.2.2)
def aRun (k : Kd) (at_ : Int) : Nat → AX × List Int × Int → AX × List Int × Int
  | 0, s => s
  | n + 1, s => aSt k at_ (aRun k at_ n s)
theorem aSt_still {k : Kd} {at_ : Int} {s : AX × List Int × Int} (h : s.1.how ≠ 0) : aSt k at_ s = s := by
  unfold aSt aStep aWs aT
  rw [if_pos h, if_neg (fun q => h q.1), if_neg h]
theorem aRun_still {k : Kd} {at_ : Int} {s : AX × List Int × Int} {i : Nat} (h : (aRun k at_ i s).1.how ≠ 0) : ∀ j, i ≤ j → aRun k at_ j s = aRun k at_ i s := by
  intro j
  induction j with
  | zero => intro hj; have : i = 0 := by omega
            rw [this]
  | succ j ih =>
    intro hj
    by_cases e : i = j + 1
    · rw [e]
    · have e1 := ih (by omega)
      show aSt k at_ (aRun k at_ j s) = _
      rw [e1, aSt_still h]
set_option maxRecDepth 100000 in
set_option maxHeartbeats 1000000 in
theorem run_any (g h_ o b : Nat) (ws : List Int) (t : Int) (k : Kd) (hk : k.Ok) (n at_ : Int) (x : AX) (hi : AInv k n x) (w : World) (hh : x.how = 0) (h : ArbAt w o b k at_ x) (hb : BankAt w g h_ ws t) (ht : Tab w) (ne : o ≠ g ∧ o ≠ h_ ∧ b ≠ g ∧ b ≠ h_ ∧ 0 < o ∧ 0 < g ∧ 0 < h_) :
    Calls Tryd.prog 12 #[.pointer (some ⟨o, 0, none⟩), .pointer (some ⟨g, 0, none⟩)] w fun e w' => e = .returned (.int .i64 (aRun k at_ 40 (x, ws, t)).1.how) ∧ BankAt w' g h_ (aRun k at_ 40 (x, ws, t)).2.1 (aRun k at_ 40 (x, ws, t)).2.2 ∧ ArbAt w' o b k at_ (aRun k at_ 40 (x, ws, t)).1 ∧ Tab w' ∧ Ex (fun q => q = g ∨ q = h_ ∨ q = o) w w' := by
  have HH := Lib.hid hh
  clear hh
  have HI := Lib.hid hi
  have NE := Lib.hid ne
  have HK := Lib.hid hk
  have B0 := Lib.hid hb
  have A0 := Lib.hid h
  have T0 := Lib.hid ht
  clear hi ne hk hb h ht
  go_enter Tryd.func12, Tryd.ntmps12
  go_wp2_with fail
  go_loopw [5, 6] (fun hv iv wr => ∃ i : Nat, i ≤ 40 ∧ hv = .int .i64 (aRun k at_ i (x, ws, t)).1.how ∧ iv = .int .i64 i ∧ AInv k n (aRun k at_ i (x, ws, t)).1 ∧ BankAt wr g h_ (aRun k at_ i (x, ws, t)).2.1 (aRun k at_ i (x, ws, t)).2.2 ∧ ArbAt wr o b k at_ (aRun k at_ i (x, ws, t)).1 ∧ Tab wr ∧ Ex (fun q => q = g ∨ q = h_ ∨ q = o) w wr) (fun _ iv _ => 40 - (intOf iv).toNat)
  case atStart => exact ⟨0, by omega, by rw [show (aRun k at_ 0 (x, ws, t)).1.how = 0 from HH.out], rfl, HI.out, B0.out, A0.out, T0.out, Ex.refl _ _⟩
  case round =>
    obtain ⟨i, hi, rfl, rfl, hi2, hb, ha, ht, hx⟩ := hrel
    obtain ⟨s, hs⟩ : ∃ s, aRun k at_ i (x, ws, t) = s := ⟨_, rfl⟩
    have HS := Lib.hid hs
    rw [hs] at hi2 hb ha
    simp only [hs]
    have I1 := Lib.hid hi2
    have B1 := Lib.hid hb
    have A1 := Lib.hid ha
    have T1 := Lib.hid ht
    have X1 := Lib.hid hx
    clear hi2 hb ha ht hx hs
    obtain ⟨xx, wz, tz⟩ := s
    simp only at I1 B1 A1
    by_cases h0 : xx.how = 0
    · have kh : (xx.how == 0) = true := by simpa using h0
      by_cases hl : i < 40
      · have kd : decide ((i : Int) < (40 : Int)) = true := decide_eq_true (by omega)
        have HC := Lib.hid (Step_any g h_ o b wz tz k HK.out n at_ xx I1.out _ A1.out B1.out T1.out NE.out)
        clear h0
        go_wp2_with fail
        refine HC.out.mono ?_; rintro e w2 ⟨rfl, hb2, ha2, hx2⟩
        clear HC
        have hi0 : (0 : Int) ≤ (i : Int) := by omega
        have hi1 : (i : Int) ≤ 40 := by omega
        go_wp2_with fail
        go_roundw
        case rel =>
          have e : aRun k at_ (i + 1) (x, ws, t) = (aStep k at_ wz xx, aWs at_ wz xx, aT at_ wz xx tz) := by show aSt k at_ (aRun k at_ i (x, ws, t)) = _; rw [HS.out]; rfl
          refine ⟨i + 1, by omega, by rw [e], by go_num, ?_⟩
          rw [e]
          exact ⟨I1.out.step (wordF_range B1.out _), hb2, ha2, T1.out.ex hx2 (by have := NE.out; omega), X1.out.trans hx2⟩
        case measure => simp [intOf]; omega
      · have kd : decide ((i : Int) < (40 : Int)) = false := decide_eq_false (by omega)
        have e40 : i = 40 := by omega
        clear h0 kh
        go_wp2_with fail
        go_ret
        subst e40
        rw [HS.out]
        exact ⟨rfl, B1.out, A1.out, T1.out, X1.out⟩
    · have kh : (xx.how == 0) = false := by simpa using h0
      have e40 : aRun k at_ 40 (x, ws, t) = (xx, wz, tz) := by rw [aRun_still (i := i) (by rw [HS.out]; exact h0) 40 hi, HS.out]
      have E40 := Lib.hid e40
      clear h0 e40
      by_cases hl : i < 40
      · have kd : decide ((i : Int) < (40 : Int)) = true := decide_eq_true (by omega)
        go_wp2_with fail
        go_ret
        rw [E40.out]
        exact ⟨rfl, B1.out, A1.out, T1.out, X1.out⟩
      · have kd : decide ((i : Int) < (40 : Int)) = false := decide_eq_false (by omega)
        go_wp2_with fail
        go_ret
        rw [E40.out]
        exact ⟨rfl, B1.out, A1.out, T1.out, X1.out⟩
end Go.Proofs.YtkmlikohgilnbaaDoor.Arb
