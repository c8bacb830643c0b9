/-
  The reference's bank: what Do does. Conditions stand at each. By an AI agent.
-/
import Derived.Test.YtabhkplcigdafaaRefB
namespace Go.Proofs.Ytabhkplcigdafaa.Bank
set_option linter.unusedVariables false
set_option linter.unusedSimpArgs false
open Go Go.RowKit Go.Proofs.Ytabhkplcigdafaa.Base

set_option maxHeartbeats 1000000 in
theorem refDo_in (g h : Nat) (ws : List Int) (t : Int) (a : Act) (w : World) (hb : RefAt w g h ws t) (ha : a.Ok) (hin : inW ws a.at_) :
    Calls Try.prog 22 #[.pointer (some ⟨g, 0, none⟩), .int .i64 a.kind, .int .i64 a.at_, .int .u64 a.x, .int .u64 a.y] w fun e w' => e = .returned (.tuple #[.int .u64 (doWord ws a), .int .i64 0]) ∧ RefAt w' g h (doWs ws a) (IntKind.i64.wrap (t + 1)) ∧ Ex2 g h w w' := by
  obtain ⟨kind, at_, x, y⟩ := a
  obtain ⟨_, _, hx, hy⟩ := ha
  simp only at hin hx hy
  have hlen := hb.len
  obtain ⟨i, rfl⟩ : ∃ i : Nat, at_ = (i : Int) := ⟨at_.toNat, by have := hin.1; omega⟩
  have hi : i < ws.length := by have := hin.2; omega
  have eW : wordF ws (i : Int) = nth ws i := wordF_in hin
  have eS : ∀ z, setF ws (i : Int) z = ws.set i z := fun z => setF_in hin
  have eC : ∀ o, casB ws (i : Int) o = (nth ws i == o) := fun o => casB_in hin
  have EW := Lib.hid eW
  have ES := Lib.hid eS
  have EC := Lib.hid eC
  have HX := Lib.hid hx
  rw [show IntKind.i64.wrap (t + 1) = wrap64 (t + 1) from IntWalk.i64_left _]
  have HT := Lib.hid (hb.touched (wrap64 (t + 1)))
  have EX := Lib.hid (show Ex2 g h w (w.setCell ⟨g, 1, none⟩ (.int .i64 (wrap64 (t + 1)))) from Ex2.setCell (q := ⟨g, 1, none⟩) (show Ex2 g h w w from Ex2.of_below (Below.refl _ _)) (.inl rfl) _)
  have c0 := hb.head.cell 0
  simp only [List.getElem?_toArray, List.getElem?_cons_zero] at c0
  have c1 := hb.head.cell 1
  simp only [List.getElem?_toArray, List.getElem?_cons_succ, List.getElem?_cons_zero] at c1
  have f1 := hb.head.frozen 1
  have c0' : ∀ z : Int, (w.setCell ⟨g, 1, none⟩ (.int .i64 z)).cell? ⟨g, 0, none⟩ = some (.slice (some ⟨h, 0, none⟩) ws.length ws.length) := fun z => by have := (hb.touched z).head.cell 0; simpa using this
  have cw : ∀ z : Int, (w.setCell ⟨g, 1, none⟩ (.int .i64 z)).cell? ⟨h, i, none⟩ = some (.int .u64 (nth ws i)) := fun z => (hb.touched z).word hi
  have fw : ∀ z : Int, (w.setCell ⟨g, 1, none⟩ (.int .i64 z)).frozen? ⟨h, i, none⟩ = false := fun z => (hb.touched z).row.frozen i
  have WR := Lib.hid (show 0 ≤ IntKind.u64.wrap (nth ws i + x) ∧ IntKind.u64.wrap (nth ws i + x) ≤ 18446744073709551615 from by simp [IntKind.wrap, IntKind.signed, IntKind.bits]; omega)
  have t1 : ¬ (i : Int) < 0 := by omega
  have t2 : ¬ (i : Int) ≥ (ws.length : Int) := by omega
  clear hb hin hx hy eW eS eC
  generalize hu : nth ws i = u at *
  clear hu
  by_cases k0 : kind = 0
  · subst k0
    rw [show doWord ws ⟨0, i, x, y⟩ = u from by simp [doWord, EW.out], show doWs ws ⟨0, i, x, y⟩ = ws from by simp [doWs]]
    go_enter Try.func22, Try.ntmps22
    go_wp2_with fail
    go_ret2
    exact ⟨rfl, HT.out, EX.out⟩
  by_cases k1 : kind = 1
  · subst k1
    rw [show doWord ws ⟨1, i, x, y⟩ = 0 from by simp [doWord], show doWs ws ⟨1, i, x, y⟩ = ws.set i x from by simp [doWs, ES.out]]
    go_enter Try.func22, Try.ntmps22
    go_wp2_with fail
    go_ret2
    exact ⟨rfl, HT.out.stored _ _ HX.out, EX.out.setCell (q := ⟨h, i, none⟩) (.inr rfl) _⟩
  by_cases k2 : kind = 2
  · subst k2
    cases hq : (u == y) with
    | true =>
      have hn : (u != y) = false := by simp only [bne, hq]; rfl
      rw [show doWord ws ⟨2, i, x, y⟩ = 1 from by simp [doWord, EC.out, hq], show doWs ws ⟨2, i, x, y⟩ = ws.set i x from by simp only [doWs, EC.out, hq, ES.out]; rfl]
      clear hq
      go_enter Try.func22, Try.ntmps22
      go_wp2_with fail
      go_ret2
      exact ⟨rfl, HT.out.stored _ _ HX.out, EX.out.setCell (q := ⟨h, i, none⟩) (.inr rfl) _⟩
    | false =>
      have hn : (u != y) = true := by simp only [bne, hq]; rfl
      rw [show doWord ws ⟨2, i, x, y⟩ = 0 from by simp only [doWord, EC.out, hq]; rfl, show doWs ws ⟨2, i, x, y⟩ = ws from by simp only [doWs, EC.out, hq]; rfl]
      clear hq
      go_enter Try.func22, Try.ntmps22
      go_wp2_with fail
      go_ret2
      exact ⟨rfl, HT.out, EX.out⟩
  · rw [show doWord ws ⟨kind, i, x, y⟩ = u from by simp [doWord, EW.out, k0, k1, k2], show doWs ws ⟨kind, i, x, y⟩ = ws.set i (IntKind.u64.wrap (u + x)) from by simp [doWs, EW.out, ES.out, k0, k1, k2]]
    go_enter Try.func22, Try.ntmps22
    go_wp2_with fail
    go_ret2
    exact ⟨rfl, HT.out.stored _ _ WR.out, EX.out.setCell (q := ⟨h, i, none⟩) (.inr rfl) _⟩

theorem refDo_any (g h : Nat) (ws : List Int) (t : Int) (a : Act) (w : World) (hb : RefAt w g h ws t) (ha : a.Ok) :
    Calls Try.prog 22 #[.pointer (some ⟨g, 0, none⟩), .int .i64 a.kind, .int .i64 a.at_, .int .u64 a.x, .int .u64 a.y] w fun e w' => e = .returned (.tuple #[.int .u64 (doWord ws a), .int .i64 (errF ws a.at_)]) ∧ RefAt w' g h (doWs ws a) (tickF ws a.at_ t) ∧ Ex2 g h w w' := by
  by_cases hin : inW ws a.at_
  · rw [errF_in hin, tickF_in hin]
    exact refDo_in g h ws t a w hb ha hin
  · rw [show errF ws a.at_ = 10 from if_neg hin, show tickF ws a.at_ t = t from if_neg hin]
    have e1 : doWord ws a = 0 := by
      simp only [doWord, show wordF ws a.at_ = 0 from if_neg hin, casB_out hin]
      simp
    have e2 : doWs ws a = ws := by
      simp only [doWs, setF_out hin, casB_out hin]
      simp
    rw [e1, e2]
    refine (refDo_out g h ws t a w hb hin).mono ?_
    rintro e w' ⟨rfl, rfl⟩
    exact ⟨rfl, hb, Ex2.of_below (Below.refl _ _)⟩
end Go.Proofs.Ytabhkplcigdafaa.Bank
