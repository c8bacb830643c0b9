/-
  Log: Step, Got. Printed by wip/tools/mklgv.py. Conditions stand at each. By an AI agent.
-/
import Derived.Test.YthhellgaafbokaaLgQ
import Derived.Test.YthhellgaafbokaaGoto
import Derived.Test.YthhellgaafbokaaBank
namespace Go.Proofs.Ythhellgaafbokaa.Bank
open Go Go.RowKit Go.Proofs.Ythhellgaafbokaa.Base
theorem wordF_range {w : World} {g h : Nat} {ws : List Int} {t : Int} (b : BankAt w g h ws t) (i : Int) : 0 ≤ wordF ws i ∧ wordF ws i ≤ 18446744073709551615 := by
  unfold wordF
  split
  · exact b.range _
  · omega
theorem BankAt.ex {T : Nat → Prop} {w w' : World} {g h : Nat} {ws : List Int} {t : Int} (b : BankAt w g h ws t) (p : Ex T w w') (hg : ¬ T g) (hh : ¬ T h) : BankAt w' g h ws t := ⟨b.head.ex p hg, b.row.ex p hh, b.len, b.fit⟩
end Go.Proofs.Ythhellgaafbokaa.Bank
namespace Go.Proofs.Ythhellgaafbokaa.Lg
set_option linter.unusedVariables false
set_option linter.unusedSimpArgs false
open Go Go.RowKit Go.Proofs.Ythhellgaafbokaa.Base Go.Proofs.Ythhellgaafbokaa.Reg
open Go.Proofs.Ythhellgaafbokaa.Bank (BankAt inW wordF setF tickF errF errF_in errF_out wordF_in wordF_out tickF_in tickF_out setF_in setF_out Load_any Store_any Load_nil Store_nil wordF_range)
theorem keep1_len {log long at_ v : Int} : (keep1 log long at_ v).length ≤ 1 := by
  unfold keep1
  split <;> simp
theorem keep_any (o q : Nat) (log long : Int) (x : LX) (l : List St) (at_ v : Int) (w : World) (h : LgAt w o q log long x l) (hv : 0 ≤ v ∧ v ≤ 18446744073709551615) (hl : l.length ≤ 64) :
    Calls Try.prog 36 #[.pointer (some ⟨o, 0, none⟩), .int .i64 at_, .int .u64 v] w fun e w' => e = .returned (.tuple #[]) ∧ (∃ q', LgAt w' o q' log long x (l ++ keep1 log long at_ v) ∧ (q' = q ∨ w.heap.size ≤ q')) ∧ Ex (fun k => k = o ∨ k = q) w w' := by
  by_cases hk : unE v = 0
  · by_cases hen : entF log long (unS v).epoch = at_
    · rw [show keep1 log long at_ v = [unS v] from if_pos ⟨hk, hen⟩]
      exact keep_yes o q log long x l at_ v w h hv hl hk hen
    · rw [show keep1 log long at_ v = [] from if_neg (fun h => hen h.2), List.append_nil]
      refine (keep_off o q log long x l at_ v w h hv hl hk hen).mono ?_
      rintro e w' ⟨rfl, h1, h2⟩
      exact ⟨rfl, ⟨q, h1, .inl rfl⟩, h2.mono (fun _ h => h.elim)⟩
  · rw [show keep1 log long at_ v = [] from if_neg (fun h => hk h.1), List.append_nil]
    refine (keep_no o q log long x l at_ v w h hv hl hk).mono ?_
    rintro e w' ⟨rfl, h1, h2⟩
    exact ⟨rfl, ⟨q, h1, .inl rfl⟩, h2.mono (fun _ h => h.elim)⟩
set_option maxRecDepth 100000 in
set_option maxHeartbeats 4000000 in
theorem S_none (bv : Option Addr) (w : World) :
    Calls Try.prog 17 #[.pointer none, .pointer bv] w fun e w' => e = .returned (.int .i64 3) ∧ w = w' := by
  go_enter Try.func17, Try.ntmps17
  go_wp2_with fail
  refine wp_scope_ahead 2 (fun c0 HC => ?_)
  go_wp2_with fail
  first | rw [goOn_ret] | skip
  go_ret
  exact ⟨rfl, rfl⟩
set_option maxRecDepth 100000 in
set_option maxHeartbeats 4000000 in
theorem S_done (o q : Nat) (log long : Int) (x : LX) (l : List St) (w : World) (h : LgAt w o q log long x l) (hq : x.how ≠ 0) (bv : Option Addr) :
    Calls Try.prog 17 #[.pointer (some ⟨o, 0, none⟩), .pointer bv] w fun e w' => e = .returned (.int .i64 x.how) ∧ w = w' := by
  have kh : (x.how != 0) = true := by simpa using hq
  obtain ⟨wr, s, wd, nx, how⟩ := x
  simp only at kh hq
  have HQ := Lib.hid hq
  obtain ⟨gv, hB, hR, hQ⟩ := h.form
  unfold lgC at hB
  simp only at hB
  have B0 := Lib.hid hB
  clear h hB hR hQ hq
  have Bq0 := B0.out.cell 0
  have Bq13 := B0.out.cell 13
  simp only [List.getElem?_toArray, List.getElem?_cons_succ, List.getElem?_cons_zero] at Bq0 Bq13
  go_enter Try.func17, Try.ntmps17
  go_wp2_with fail
  refine wp_scope_ahead 2 (fun c0 HC => ?_)
  go_wp2_with fail
  clear Bq0 Bq13
  first | rw [goOn_ret] | skip
  go_ret
  exact ⟨rfl, rfl⟩
set_option maxRecDepth 100000 in
set_option maxHeartbeats 4000000 in
theorem S_rout (g h_ o q : Nat) (ws : List Int) (t log long nx : Int) (l : List St) (w : World) (h : LgAt w o q log long ⟨false, St.zero, 0, nx, 0⟩ l) (hb : BankAt w g h_ ws t) (ne : o ≠ g ∧ o ≠ h_ ∧ q ≠ g ∧ q ≠ h_) (hp : HasP log long) (hn : 0 ≤ nx ∧ nx < long) (hin : ¬ inW ws (log + nx)) :
    Calls Try.prog 17 #[.pointer (some ⟨o, 0, none⟩), (.pointer (some ⟨g, 0, none⟩))] w fun e w' => e = .returned (.int .i64 3) ∧ BankAt w' g h_ ws (tickF ws (log + nx) t) ∧ LgAt w' o q log long ⟨false, St.zero, 0, nx, 3⟩ l ∧ Ex (fun k => k = g ∨ k = h_ ∨ k = o ∨ k = q) w w' := by
  have HIN := Lib.hid hin
  have hw : wrap64 (log + nx) = log + nx := wrap64_in _ (by obtain ⟨⟨_, _⟩, _, _⟩ := hp; omega)
  have NN := Lib.hid (And.intro hp hn)
  obtain ⟨gv, hB, hR, hQ⟩ := h.form
  have QL := Lib.hid h.qlt
  unfold lgC at hB
  simp only at hB
  have B0 := Lib.hid hB
  have R0 := Lib.hid hR
  have Q0 := Lib.hid hQ
  have K0 := Lib.hid hb
  have ORD := Lib.hid (show o ≠ g ∧ o ≠ h_ ∧ q ≠ g ∧ q ≠ h_ from ne)
  have X0 := Lib.hid (Ex.refl (fun k => k = g ∨ k = h_ ∨ k = o ∨ k = q) w)
  have S0 := Lib.hid (Nat.le_refl w.heap.size)
  clear h hB hR hQ hb ne hp hn hin
  simp only [St.zero] at B0
  have Bq0 := B0.out.cell 0
  have Bq1 := B0.out.cell 1
  have Bq5 := B0.out.cell 5
  have Bq12 := B0.out.cell 12
  have Bq13 := B0.out.cell 13
  simp only [List.getElem?_toArray, List.getElem?_cons_succ, List.getElem?_cons_zero] at Bq0 Bq1 Bq5 Bq12 Bq13
  go_enter Try.func17, Try.ntmps17
  go_wp2_with fail
  refine wp_scope_ahead 2 (fun c0 HC => ?_)
  go_wp2_with fail
  go_quiet (fail)
  clear Bq0 Bq1 Bq5 Bq12 Bq13
  have ee : Ex (fun _ => False) w (w.drewN nq) := (Ex.refl _ w).drewN _
  have B_1 := Lib.hid (B0.out.ex ee (fun h => h))
  have R_1 := Lib.hid (ownsRow_ex R0.out ee (fun k hk h => h))
  have X_1 := Lib.hid (X0.out.trans (ee.mono (fun k hk => hk.elim)))
  have S_1 := Lib.hid (Nat.le_trans S0.out ee.size)
  have K_1 := Lib.hid (K0.out.ex ee (fun h => h) (fun h => h))
  clear ee B0 R0 X0 S0 K0 
  generalize (w.drewN nq) = w1 at *
  go_wp2_with fail
  simp only [hw]
  refine (Load_any g h_ ws t (log + nx) w1 K_1.out).mono ?_; rintro e w2 ⟨rfl, hb1, hx1⟩
  rw [errF_out HIN.out, wordF_out HIN.out]
  have ee : Ex (fun k => k = g ∨ k = h_) w1 w2 := Ex.of_ex2 (T := fun k => k = g ∨ k = h_) hx1 (.inl rfl) (.inr rfl)
  have B_2 := Lib.hid (B_1.out.ex ee (by have o_ := ORD.out; omega))
  have R_2 := Lib.hid (ownsRow_ex R_1.out ee (fun k hk h => by have := Q0.out k hk; have o_ := ORD.out; omega))
  have X_2 := Lib.hid (X_1.out.trans (ee.mono (fun k hk => hk.elim .inl (fun h => .inr (.inl h)))))
  have S_2 := Lib.hid (Nat.le_trans S_1.out ee.size)
  have K_2 := Lib.hid hb1
  clear ee B_1 R_1 X_1 S_1 K_1 hb1 hx1 
  go_wp2_with fail
  refine wp_goto ?_
  show goOn Try.prog c0 _ 2 (.goto 1) _ _
  refine goOn_jump HC rfl ?_
  have Bq0 := B_2.out.cell 0
  have Bq13 := B_2.out.cell 13
  simp only [List.getElem?_toArray, List.getElem?_cons_succ, List.getElem?_cons_zero] at Bq0 Bq13
  have Bf13 := B_2.out.frozen 13
  go_wp2_with fail
  clear Bq0 Bq13 Bf13
  have bb := B_2.out.set_ 13 (.int .i64 3)
  simp only [List.setIfInBounds_toArray, List.set_cons_succ, List.set_cons_zero] at bb
  have B_3 := Lib.hid bb
  clear bb
  have ee : Ex (fun k => k = o) w2 (w2.setCell ⟨o, 13, none⟩ (.int .i64 3)) := ((Ex.refl (fun k => k = o) w2).setCell (q := ⟨o, 13, none⟩) (.inl rfl) (.int .i64 3))
  have R_3 := Lib.hid (ownsRow_ex R_2.out ee (fun k hk h => by have := (World.ownsRow.lt R_2.out k hk).1; omega))
  have X_3 := Lib.hid (X_2.out.trans (ee.mono (fun k hk => .inr (.inr (.inl hk)))))
  have S_3 := Lib.hid (Nat.le_trans S_2.out ee.size)
  have K_3 := Lib.hid (K_2.out.ex ee (by have o_ := ORD.out; omega) (by have o_ := ORD.out; omega))
  clear ee B_2 R_2 X_2 S_2 K_2
  generalize (w2.setCell ⟨o, 13, none⟩ (.int .i64 3)) = w3 at *
  first | rw [goOn_ret] | skip
  go_ret
  exact ⟨rfl, K_3.out, ⟨⟨gv, B_3.out, R_3.out, Q0.out⟩, Nat.lt_of_lt_of_le QL.out S_3.out⟩, X_3.out⟩
set_option maxRecDepth 100000 in
set_option maxHeartbeats 4000000 in
theorem S_rmore (g h_ o q : Nat) (ws : List Int) (t log long nx : Int) (l : List St) (w : World) (h : LgAt w o q log long ⟨false, St.zero, 0, nx, 0⟩ l) (hb : BankAt w g h_ ws t) (ne : o ≠ g ∧ o ≠ h_ ∧ q ≠ g ∧ q ≠ h_) (hp : HasP log long) (hn : 0 ≤ nx ∧ nx < long) (hin : inW ws (log + nx)) (hl : l.length ≤ 64) (hm : nx + 1 < long) :
    Calls Try.prog 17 #[.pointer (some ⟨o, 0, none⟩), (.pointer (some ⟨g, 0, none⟩))] w fun e w' => e = .returned (.int .i64 0) ∧ BankAt w' g h_ ws (tickF ws (log + nx) t) ∧ (∃ q', LgAt w' o q' log long ⟨false, St.zero, 0, nx + 1, 0⟩ (l ++ keep1 log long (log + nx) (wordF ws (log + nx))) ∧ (q' = q ∨ w.heap.size ≤ q')) ∧ Ex (fun k => k = g ∨ k = h_ ∨ k = o ∨ k = q) w w' := by
  have HIN := Lib.hid hin
  have HL := Lib.hid hl
  have hw2 : wrap64 (nx + 1) = nx + 1 := wrap64_in _ (by obtain ⟨⟨_, _⟩, _, _⟩ := hp; omega)
  have kmore : decide (nx + 1 < long) = true := decide_eq_true (by omega)
  obtain ⟨l1, hl1⟩ : ∃ l1, l ++ keep1 log long (log + nx) (wordF ws (log + nx)) = l1 := ⟨_, rfl⟩
  rw [hl1]
  have HL1 := Lib.hid hl1
  clear hl1
  have hw : wrap64 (log + nx) = log + nx := wrap64_in _ (by obtain ⟨⟨_, _⟩, _, _⟩ := hp; omega)
  have NN := Lib.hid (And.intro hp hn)
  obtain ⟨gv, hB, hR, hQ⟩ := h.form
  have QL := Lib.hid h.qlt
  unfold lgC at hB
  simp only at hB
  have B0 := Lib.hid hB
  have R0 := Lib.hid hR
  have Q0 := Lib.hid hQ
  have K0 := Lib.hid hb
  have ORD := Lib.hid (show o ≠ g ∧ o ≠ h_ ∧ q ≠ g ∧ q ≠ h_ from ne)
  have X0 := Lib.hid (Ex.refl (fun k => k = g ∨ k = h_ ∨ k = o ∨ k = q) w)
  have S0 := Lib.hid (Nat.le_refl w.heap.size)
  clear h hB hR hQ hb ne hp hn hin hl hm
  simp only [St.zero] at B0
  have Bq0 := B0.out.cell 0
  have Bq1 := B0.out.cell 1
  have Bq5 := B0.out.cell 5
  have Bq12 := B0.out.cell 12
  have Bq13 := B0.out.cell 13
  simp only [List.getElem?_toArray, List.getElem?_cons_succ, List.getElem?_cons_zero] at Bq0 Bq1 Bq5 Bq12 Bq13
  go_enter Try.func17, Try.ntmps17
  go_wp2_with fail
  refine wp_scope_ahead 2 (fun c0 HC => ?_)
  go_wp2_with fail
  go_quiet (fail)
  clear Bq0 Bq1 Bq5 Bq12 Bq13
  have ee : Ex (fun _ => False) w (w.drewN nq) := (Ex.refl _ w).drewN _
  have B_1 := Lib.hid (B0.out.ex ee (fun h => h))
  have R_1 := Lib.hid (ownsRow_ex R0.out ee (fun k hk h => h))
  have X_1 := Lib.hid (X0.out.trans (ee.mono (fun k hk => hk.elim)))
  have S_1 := Lib.hid (Nat.le_trans S0.out ee.size)
  have K_1 := Lib.hid (K0.out.ex ee (fun h => h) (fun h => h))
  clear ee B0 R0 X0 S0 K0 
  generalize (w.drewN nq) = w1 at *
  go_wp2_with fail
  simp only [hw]
  refine (Load_any g h_ ws t (log + nx) w1 K_1.out).mono ?_; rintro e w2 ⟨rfl, hb1, hx1⟩
  rw [errF_in HIN.out]
  have ee : Ex (fun k => k = g ∨ k = h_) w1 w2 := Ex.of_ex2 (T := fun k => k = g ∨ k = h_) hx1 (.inl rfl) (.inr rfl)
  have B_2 := Lib.hid (B_1.out.ex ee (by have o_ := ORD.out; omega))
  have R_2 := Lib.hid (ownsRow_ex R_1.out ee (fun k hk h => by have := Q0.out k hk; have o_ := ORD.out; omega))
  have X_2 := Lib.hid (X_1.out.trans (ee.mono (fun k hk => hk.elim .inl (fun h => .inr (.inl h)))))
  have S_2 := Lib.hid (Nat.le_trans S_1.out ee.size)
  have K_2 := Lib.hid hb1
  clear ee B_1 R_1 X_1 S_1 K_1 hb1 hx1 
  have HV := Lib.hid (wordF_range K_2.out (log + nx))
  obtain ⟨vv, hvv⟩ : ∃ vv, wordF ws (log + nx) = vv := ⟨_, rfl⟩
  simp only [hvv] at HV ⊢
  have HVV := Lib.hid hvv
  clear hvv
  go_wp2_with fail
  refine (keep_any o q log long ⟨false, St.zero, 0, nx, 0⟩ l (log + nx) vv w2 ⟨⟨gv, B_2.out, R_2.out, Q0.out⟩, Nat.lt_of_lt_of_le QL.out S_2.out⟩ HV.out HL.out).mono ?_; rintro e w3 ⟨rfl, ⟨q1, hA, hq1⟩, ee⟩
  have X_3 := Lib.hid (X_2.out.cons ee (fun k _ hk => hk.elim (fun h => .inr (.inr (.inl h))) (fun h => .inr (.inr (.inr h)))))
  have K_3 := Lib.hid (K_2.out.ex ee (by have o_ := ORD.out; omega) (by have o_ := ORD.out; omega))
  have HQ1 := Lib.hid (show q1 = q ∨ w.heap.size ≤ q1 from hq1.imp (fun h => h) (fun h => Nat.le_trans X_2.out.size h))
  have ORD1 := Lib.hid (show o ≠ g ∧ o ≠ h_ ∧ q1 ≠ g ∧ q1 ≠ h_ from by have o_ := ORD.out; have a_ := K_2.out.head.lt; have b_ := K_2.out.row.lt; omega)
  clear gv B_2 R_2 Q0 K_2 X_2 hq1 QL ORD ee
  have ORD := ORD1
  clear ORD1
  rw [← HVV.out, HL1.out] at hA
  have QL := Lib.hid hA.qlt
  obtain ⟨gv, hB, hR, hQ⟩ := hA.form
  unfold lgC at hB
  simp only [St.zero] at hB
  have B_3 := Lib.hid hB
  have R_3 := Lib.hid hR
  have Q0 := Lib.hid hQ
  clear hA hB hR hQ HV
  have S_3 := Lib.hid (Nat.le_refl w3.heap.size)
  clear S_2
  have Bq0 := B_3.out.cell 0
  have Bq12 := B_3.out.cell 12
  simp only [List.getElem?_toArray, List.getElem?_cons_succ, List.getElem?_cons_zero] at Bq0 Bq12
  have Bf12 := B_3.out.frozen 12
  go_wp2_with fail
  simp only [hw2]
  clear Bq0 Bq12 Bf12
  have bb := B_3.out.set_ 12 (.int .i64 (nx + 1))
  simp only [List.setIfInBounds_toArray, List.set_cons_succ, List.set_cons_zero] at bb
  have B_4 := Lib.hid bb
  clear bb
  have ee : Ex (fun k => k = o) w3 (w3.setCell ⟨o, 12, none⟩ (.int .i64 (nx + 1))) := ((Ex.refl (fun k => k = o) w3).setCell (q := ⟨o, 12, none⟩) (.inl rfl) (.int .i64 (nx + 1)))
  have R_4 := Lib.hid (ownsRow_ex R_3.out ee (fun k hk h => by have := (World.ownsRow.lt R_3.out k hk).1; omega))
  have X_4 := Lib.hid (X_3.out.trans (ee.mono (fun k hk => .inr (.inr (.inl hk)))))
  have S_4 := Lib.hid (Nat.le_trans S_3.out ee.size)
  have K_4 := Lib.hid (K_3.out.ex ee (by have o_ := ORD.out; omega) (by have o_ := ORD.out; omega))
  clear ee B_3 R_3 X_3 S_3 K_3
  generalize (w3.setCell ⟨o, 12, none⟩ (.int .i64 (nx + 1))) = w4 at *
  have Bq0 := B_4.out.cell 0
  have Bq2 := B_4.out.cell 2
  have Bq12 := B_4.out.cell 12
  simp only [List.getElem?_toArray, List.getElem?_cons_succ, List.getElem?_cons_zero] at Bq0 Bq2 Bq12
  go_quiet (fail)
  clear Bq0 Bq2 Bq12
  have ee : Ex (fun _ => False) w4 (w4.drewN nq) := (Ex.refl _ w4).drewN _
  have B_5 := Lib.hid (B_4.out.ex ee (fun h => h))
  have R_5 := Lib.hid (ownsRow_ex R_4.out ee (fun k hk h => h))
  have X_5 := Lib.hid (X_4.out.trans (ee.mono (fun k hk => hk.elim)))
  have S_5 := Lib.hid (Nat.le_trans S_4.out ee.size)
  have K_5 := Lib.hid (K_4.out.ex ee (fun h => h) (fun h => h))
  clear ee B_4 R_4 X_4 S_4 K_4 
  generalize (w4.drewN nq) = w5 at *
  go_wp2_with fail
  first | rw [goOn_ret] | skip
  go_ret
  exact ⟨rfl, K_5.out, ⟨q1, ⟨⟨gv, B_5.out, R_5.out, Q0.out⟩, Nat.lt_of_lt_of_le QL.out S_5.out⟩, HQ1.out⟩, X_5.out⟩
set_option maxRecDepth 100000 in
set_option maxHeartbeats 4000000 in
theorem S_rlast (g h_ o q : Nat) (ws : List Int) (t log long nx : Int) (l : List St) (w : World) (h : LgAt w o q log long ⟨false, St.zero, 0, nx, 0⟩ l) (hb : BankAt w g h_ ws t) (ne : o ≠ g ∧ o ≠ h_ ∧ q ≠ g ∧ q ≠ h_) (hp : HasP log long) (hn : 0 ≤ nx ∧ nx < long) (hin : inW ws (log + nx)) (hl : l.length ≤ 64) (hm : nx + 1 = long) (ha : Apart (l ++ keep1 log long (log + nx) (wordF ws (log + nx)))) :
    Calls Try.prog 17 #[.pointer (some ⟨o, 0, none⟩), (.pointer (some ⟨g, 0, none⟩))] w fun e w' => e = .returned (.int .i64 1) ∧ BankAt w' g h_ ws (tickF ws (log + nx) t) ∧ (∃ q', LgAt w' o q' log long ⟨false, St.zero, 0, nx + 1, 1⟩ (sortS (l ++ keep1 log long (log + nx) (wordF ws (log + nx)))) ∧ (q' = q ∨ w.heap.size ≤ q')) ∧ Ex (fun k => k = g ∨ k = h_ ∨ k = o ∨ k = q) w w' := by
  have HIN := Lib.hid hin
  have HL := Lib.hid hl
  have hw2 : wrap64 (nx + 1) = nx + 1 := wrap64_in _ (by obtain ⟨⟨_, _⟩, _, _⟩ := hp; omega)
  have kmore : decide (nx + 1 < long) = false := decide_eq_false (by omega)
  obtain ⟨l1, hl1⟩ : ∃ l1, l ++ keep1 log long (log + nx) (wordF ws (log + nx)) = l1 := ⟨_, rfl⟩
  rw [hl1]
  have HL1 := Lib.hid hl1
  rw [hl1] at ha
  have HA := Lib.hid ha
  have HLL := Lib.hid (show l1.length < 4611686018427387904 by rw [← hl1, List.length_append]; have : (keep1 log long (log + nx) (wordF ws (log + nx))).length ≤ 1 := keep1_len; omega)
  obtain ⟨l2, hl2⟩ : ∃ l2, sortS l1 = l2 := ⟨_, rfl⟩
  rw [hl2]
  have HL2 := Lib.hid hl2
  clear hl1 hl2
  have hw : wrap64 (log + nx) = log + nx := wrap64_in _ (by obtain ⟨⟨_, _⟩, _, _⟩ := hp; omega)
  have NN := Lib.hid (And.intro hp hn)
  obtain ⟨gv, hB, hR, hQ⟩ := h.form
  have QL := Lib.hid h.qlt
  unfold lgC at hB
  simp only at hB
  have B0 := Lib.hid hB
  have R0 := Lib.hid hR
  have Q0 := Lib.hid hQ
  have K0 := Lib.hid hb
  have ORD := Lib.hid (show o ≠ g ∧ o ≠ h_ ∧ q ≠ g ∧ q ≠ h_ from ne)
  have X0 := Lib.hid (Ex.refl (fun k => k = g ∨ k = h_ ∨ k = o ∨ k = q) w)
  have S0 := Lib.hid (Nat.le_refl w.heap.size)
  clear h hB hR hQ hb ne hp hn hin hl hm ha
  simp only [St.zero] at B0
  have Bq0 := B0.out.cell 0
  have Bq1 := B0.out.cell 1
  have Bq5 := B0.out.cell 5
  have Bq12 := B0.out.cell 12
  have Bq13 := B0.out.cell 13
  simp only [List.getElem?_toArray, List.getElem?_cons_succ, List.getElem?_cons_zero] at Bq0 Bq1 Bq5 Bq12 Bq13
  go_enter Try.func17, Try.ntmps17
  go_wp2_with fail
  refine wp_scope_ahead 2 (fun c0 HC => ?_)
  go_wp2_with fail
  go_quiet (fail)
  clear Bq0 Bq1 Bq5 Bq12 Bq13
  have ee : Ex (fun _ => False) w (w.drewN nq) := (Ex.refl _ w).drewN _
  have B_1 := Lib.hid (B0.out.ex ee (fun h => h))
  have R_1 := Lib.hid (ownsRow_ex R0.out ee (fun k hk h => h))
  have X_1 := Lib.hid (X0.out.trans (ee.mono (fun k hk => hk.elim)))
  have S_1 := Lib.hid (Nat.le_trans S0.out ee.size)
  have K_1 := Lib.hid (K0.out.ex ee (fun h => h) (fun h => h))
  clear ee B0 R0 X0 S0 K0 
  generalize (w.drewN nq) = w1 at *
  go_wp2_with fail
  simp only [hw]
  refine (Load_any g h_ ws t (log + nx) w1 K_1.out).mono ?_; rintro e w2 ⟨rfl, hb1, hx1⟩
  rw [errF_in HIN.out]
  have ee : Ex (fun k => k = g ∨ k = h_) w1 w2 := Ex.of_ex2 (T := fun k => k = g ∨ k = h_) hx1 (.inl rfl) (.inr rfl)
  have B_2 := Lib.hid (B_1.out.ex ee (by have o_ := ORD.out; omega))
  have R_2 := Lib.hid (ownsRow_ex R_1.out ee (fun k hk h => by have := Q0.out k hk; have o_ := ORD.out; omega))
  have X_2 := Lib.hid (X_1.out.trans (ee.mono (fun k hk => hk.elim .inl (fun h => .inr (.inl h)))))
  have S_2 := Lib.hid (Nat.le_trans S_1.out ee.size)
  have K_2 := Lib.hid hb1
  clear ee B_1 R_1 X_1 S_1 K_1 hb1 hx1 
  have HV := Lib.hid (wordF_range K_2.out (log + nx))
  obtain ⟨vv, hvv⟩ : ∃ vv, wordF ws (log + nx) = vv := ⟨_, rfl⟩
  simp only [hvv] at HV ⊢
  have HVV := Lib.hid hvv
  clear hvv
  go_wp2_with fail
  refine (keep_any o q log long ⟨false, St.zero, 0, nx, 0⟩ l (log + nx) vv w2 ⟨⟨gv, B_2.out, R_2.out, Q0.out⟩, Nat.lt_of_lt_of_le QL.out S_2.out⟩ HV.out HL.out).mono ?_; rintro e w3 ⟨rfl, ⟨q1, hA, hq1⟩, ee⟩
  have X_3 := Lib.hid (X_2.out.cons ee (fun k _ hk => hk.elim (fun h => .inr (.inr (.inl h))) (fun h => .inr (.inr (.inr h)))))
  have K_3 := Lib.hid (K_2.out.ex ee (by have o_ := ORD.out; omega) (by have o_ := ORD.out; omega))
  have HQ1 := Lib.hid (show q1 = q ∨ w.heap.size ≤ q1 from hq1.imp (fun h => h) (fun h => Nat.le_trans X_2.out.size h))
  have ORD1 := Lib.hid (show o ≠ g ∧ o ≠ h_ ∧ q1 ≠ g ∧ q1 ≠ h_ from by have o_ := ORD.out; have a_ := K_2.out.head.lt; have b_ := K_2.out.row.lt; omega)
  clear gv B_2 R_2 Q0 K_2 X_2 hq1 QL ORD ee
  have ORD := ORD1
  clear ORD1
  rw [← HVV.out, HL1.out] at hA
  have QL := Lib.hid hA.qlt
  obtain ⟨gv, hB, hR, hQ⟩ := hA.form
  unfold lgC at hB
  simp only [St.zero] at hB
  have B_3 := Lib.hid hB
  have R_3 := Lib.hid hR
  have Q0 := Lib.hid hQ
  clear hA hB hR hQ HV
  have S_3 := Lib.hid (Nat.le_refl w3.heap.size)
  clear S_2
  have Bq0 := B_3.out.cell 0
  have Bq12 := B_3.out.cell 12
  simp only [List.getElem?_toArray, List.getElem?_cons_succ, List.getElem?_cons_zero] at Bq0 Bq12
  have Bf12 := B_3.out.frozen 12
  go_wp2_with fail
  simp only [hw2]
  clear Bq0 Bq12 Bf12
  have bb := B_3.out.set_ 12 (.int .i64 (nx + 1))
  simp only [List.setIfInBounds_toArray, List.set_cons_succ, List.set_cons_zero] at bb
  have B_4 := Lib.hid bb
  clear bb
  have ee : Ex (fun k => k = o) w3 (w3.setCell ⟨o, 12, none⟩ (.int .i64 (nx + 1))) := ((Ex.refl (fun k => k = o) w3).setCell (q := ⟨o, 12, none⟩) (.inl rfl) (.int .i64 (nx + 1)))
  have R_4 := Lib.hid (ownsRow_ex R_3.out ee (fun k hk h => by have := (World.ownsRow.lt R_3.out k hk).1; omega))
  have X_4 := Lib.hid (X_3.out.trans (ee.mono (fun k hk => .inr (.inr (.inl hk)))))
  have S_4 := Lib.hid (Nat.le_trans S_3.out ee.size)
  have K_4 := Lib.hid (K_3.out.ex ee (by have o_ := ORD.out; omega) (by have o_ := ORD.out; omega))
  clear ee B_3 R_3 X_3 S_3 K_3
  generalize (w3.setCell ⟨o, 12, none⟩ (.int .i64 (nx + 1))) = w4 at *
  have Bq0 := B_4.out.cell 0
  have Bq2 := B_4.out.cell 2
  have Bq12 := B_4.out.cell 12
  simp only [List.getElem?_toArray, List.getElem?_cons_succ, List.getElem?_cons_zero] at Bq0 Bq2 Bq12
  go_quiet (fail)
  clear Bq0 Bq2 Bq12
  have ee : Ex (fun _ => False) w4 (w4.drewN nq) := (Ex.refl _ w4).drewN _
  have B_5 := Lib.hid (B_4.out.ex ee (fun h => h))
  have R_5 := Lib.hid (ownsRow_ex R_4.out ee (fun k hk h => h))
  have X_5 := Lib.hid (X_4.out.trans (ee.mono (fun k hk => hk.elim)))
  have S_5 := Lib.hid (Nat.le_trans S_4.out ee.size)
  have K_5 := Lib.hid (K_4.out.ex ee (fun h => h) (fun h => h))
  clear ee B_4 R_4 X_4 S_4 K_4 
  generalize (w4.drewN nq) = w5 at *
  have Bq0 := B_5.out.cell 0
  have Bq14 := B_5.out.cell 14
  simp only [List.getElem?_toArray, List.getElem?_cons_succ, List.getElem?_cons_zero] at Bq0 Bq14
  go_wp2_with fail
  clear Bq0 Bq14
  refine (Sort_any (o + 1) gv l1 w5 R_5.out HA.out HLL.out).mono ?_; rintro e w6 ⟨rfl, hr, hg⟩
  have ee : Ex (fun k => gv.ownBlock = some k) w5 w6 := Ex.of_grown hg (fun k h => h)
  have B_6 := Lib.hid (B_5.out.ex ee (fun h => by have := (World.ownsRow.lt R_5.out o h).1; omega))
  have R_6 := Lib.hid (show w6.ownsRow (o + 1) 28 5 gv (sortS l1).length (flatS (sortS l1)) from by rw [(sortS_perm l1).length_eq]; exact hr)
  rw [HL2.out] at R_6
  have K_6 := Lib.hid (K_5.out.ex ee (fun h => by have := Q0.out g h; have o_ := ORD.out; omega) (fun h => by have := Q0.out h_ h; have o_ := ORD.out; omega))
  have X_6 := Lib.hid (X_5.out.cons ee (fun k hk h => by have := Q0.out k h; have a_ := HQ1.out; show _ ∨ _; omega))
  have S_6 := Lib.hid (Nat.le_trans S_5.out ee.size)
  clear ee hr hg B_5 R_5 K_5 X_5 S_5
  go_wp2_with fail
  refine wp_goto ?_
  show goOn Try.prog c0 _ 2 (.goto 2) _ _
  refine goOn_jump HC rfl ?_
  have Bq0 := B_6.out.cell 0
  have Bq13 := B_6.out.cell 13
  simp only [List.getElem?_toArray, List.getElem?_cons_succ, List.getElem?_cons_zero] at Bq0 Bq13
  have Bf13 := B_6.out.frozen 13
  go_wp2_with fail
  clear Bq0 Bq13 Bf13
  have bb := B_6.out.set_ 13 (.int .i64 1)
  simp only [List.setIfInBounds_toArray, List.set_cons_succ, List.set_cons_zero] at bb
  have B_7 := Lib.hid bb
  clear bb
  have ee : Ex (fun k => k = o) w6 (w6.setCell ⟨o, 13, none⟩ (.int .i64 1)) := ((Ex.refl (fun k => k = o) w6).setCell (q := ⟨o, 13, none⟩) (.inl rfl) (.int .i64 1))
  have R_7 := Lib.hid (ownsRow_ex R_6.out ee (fun k hk h => by have := (World.ownsRow.lt R_6.out k hk).1; omega))
  have X_7 := Lib.hid (X_6.out.trans (ee.mono (fun k hk => .inr (.inr (.inl hk)))))
  have S_7 := Lib.hid (Nat.le_trans S_6.out ee.size)
  have K_7 := Lib.hid (K_6.out.ex ee (by have o_ := ORD.out; omega) (by have o_ := ORD.out; omega))
  clear ee B_6 R_6 X_6 S_6 K_6
  generalize (w6.setCell ⟨o, 13, none⟩ (.int .i64 1)) = w7 at *
  first | rw [goOn_ret] | skip
  go_ret
  exact ⟨rfl, K_7.out, ⟨q1, ⟨⟨gv, B_7.out, R_7.out, Q0.out⟩, Nat.lt_of_lt_of_le QL.out S_7.out⟩, HQ1.out⟩, X_7.out⟩
set_option maxRecDepth 100000 in
set_option maxHeartbeats 4000000 in
theorem S_rnil (o q : Nat) (log long nx : Int) (l : List St) (w : World) (h : LgAt w o q log long ⟨false, St.zero, 0, nx, 0⟩ l) (hp : HasP log long) (hn : 0 ≤ nx ∧ nx < long) :
    Calls Try.prog 17 #[.pointer (some ⟨o, 0, none⟩), .pointer none] w fun e w' => e = .returned (.int .i64 3) ∧ LgAt w' o q log long ⟨false, St.zero, 0, nx, 3⟩ l ∧ Ex (fun k => k = o ∨ k = q) w w' := by
  have hw : wrap64 (log + nx) = log + nx := wrap64_in _ (by obtain ⟨⟨_, _⟩, _, _⟩ := hp; omega)
  have NN := Lib.hid (And.intro hp hn)
  obtain ⟨gv, hB, hR, hQ⟩ := h.form
  have QL := Lib.hid h.qlt
  unfold lgC at hB
  simp only at hB
  have B0 := Lib.hid hB
  have R0 := Lib.hid hR
  have Q0 := Lib.hid hQ
  have X0 := Lib.hid (Ex.refl (fun k => k = o ∨ k = q) w)
  have S0 := Lib.hid (Nat.le_refl w.heap.size)
  clear h hB hR hQ hp hn
  simp only [St.zero] at B0
  have Bq0 := B0.out.cell 0
  have Bq1 := B0.out.cell 1
  have Bq5 := B0.out.cell 5
  have Bq12 := B0.out.cell 12
  have Bq13 := B0.out.cell 13
  simp only [List.getElem?_toArray, List.getElem?_cons_succ, List.getElem?_cons_zero] at Bq0 Bq1 Bq5 Bq12 Bq13
  go_enter Try.func17, Try.ntmps17
  go_wp2_with fail
  refine wp_scope_ahead 2 (fun c0 HC => ?_)
  go_wp2_with fail
  go_quiet (fail)
  clear Bq0 Bq1 Bq5 Bq12 Bq13
  have ee : Ex (fun _ => False) w (w.drewN nq) := (Ex.refl _ w).drewN _
  have B_1 := Lib.hid (B0.out.ex ee (fun h => h))
  have R_1 := Lib.hid (ownsRow_ex R0.out ee (fun k hk h => h))
  have X_1 := Lib.hid (X0.out.trans (ee.mono (fun k hk => hk.elim)))
  have S_1 := Lib.hid (Nat.le_trans S0.out ee.size)
  clear ee B0 R0 X0 S0 
  generalize w.drewN nq = w1 at *
  go_wp2_with fail
  refine (Load_nil _ w1).mono ?_; rintro e w2 ⟨rfl, hb1⟩
  have ee : Ex (fun _ => False) w1 w2 := Ex.of_below hb1
  have B_2 := Lib.hid (B_1.out.ex ee (fun h => h))
  have R_2 := Lib.hid (ownsRow_ex R_1.out ee (fun k hk h => h))
  have X_2 := Lib.hid (X_1.out.trans (ee.mono (fun k hk => hk.elim)))
  have S_2 := Lib.hid (Nat.le_trans S_1.out ee.size)
  clear ee B_1 R_1 X_1 S_1 hb1
  go_wp2_with fail
  refine wp_goto ?_
  show goOn Try.prog c0 _ 2 (.goto 1) _ _
  refine goOn_jump HC rfl ?_
  have Bq0 := B_2.out.cell 0
  have Bq13 := B_2.out.cell 13
  simp only [List.getElem?_toArray, List.getElem?_cons_succ, List.getElem?_cons_zero] at Bq0 Bq13
  have Bf13 := B_2.out.frozen 13
  go_wp2_with fail
  clear Bq0 Bq13 Bf13
  have bb := B_2.out.set_ 13 (.int .i64 3)
  simp only [List.setIfInBounds_toArray, List.set_cons_succ, List.set_cons_zero] at bb
  have B_3 := Lib.hid bb
  clear bb
  have ee : Ex (fun k => k = o) w2 (w2.setCell ⟨o, 13, none⟩ (.int .i64 3)) := ((Ex.refl (fun k => k = o) w2).setCell (q := ⟨o, 13, none⟩) (.inl rfl) (.int .i64 3))
  have R_3 := Lib.hid (ownsRow_ex R_2.out ee (fun k hk h => by have := (World.ownsRow.lt R_2.out k hk).1; omega))
  have X_3 := Lib.hid (X_2.out.trans (ee.mono (fun k hk => .inl hk)))
  have S_3 := Lib.hid (Nat.le_trans S_2.out ee.size)
  clear ee B_2 R_2 X_2 S_2
  generalize (w2.setCell ⟨o, 13, none⟩ (.int .i64 3)) = w3 at *
  first | rw [goOn_ret] | skip
  go_ret
  exact ⟨rfl, ⟨⟨gv, B_3.out, R_3.out, Q0.out⟩, Nat.lt_of_lt_of_le QL.out S_3.out⟩, X_3.out⟩
set_option maxRecDepth 100000 in
set_option maxHeartbeats 4000000 in
theorem S_win (g h_ o q : Nat) (ws : List Int) (t log long nx wd : Int) (s : St) (l : List St) (w : World) (h : LgAt w o q log long ⟨true, s, wd, nx, 0⟩ l) (hb : BankAt w g h_ ws t) (ne : o ≠ g ∧ o ≠ h_ ∧ q ≠ g ∧ q ≠ h_) (hs : s.Ok) (hwd : 0 ≤ wd ∧ wd ≤ 18446744073709551615) (hin : inW ws (entF log long s.epoch)) :
    Calls Try.prog 17 #[.pointer (some ⟨o, 0, none⟩), (.pointer (some ⟨g, 0, none⟩))] w fun e w' => e = .returned (.int .i64 1) ∧ BankAt w' g h_ (setF ws (entF log long s.epoch) wd) (tickF ws (entF log long s.epoch) t) ∧ LgAt w' o q log long ⟨true, s, wd, nx, 1⟩ l ∧ Ex (fun k => k = g ∨ k = h_ ∨ k = o ∨ k = q) w w' := by
  have HE := Lib.hid (fun W => Entry_any log long s.epoch W hs.epoch)
  obtain ⟨en, hen⟩ : ∃ en, entF log long s.epoch = en := ⟨_, rfl⟩
  rw [hen] at HE
  rw [hen] at hin ⊢
  have HIN := Lib.hid hin
  have HWD := Lib.hid hwd
  obtain ⟨gv, hB, hR, hQ⟩ := h.form
  have QL := Lib.hid h.qlt
  unfold lgC at hB
  simp only at hB
  have B0 := Lib.hid hB
  have R0 := Lib.hid hR
  have Q0 := Lib.hid hQ
  have K0 := Lib.hid hb
  have ORD := Lib.hid (show o ≠ g ∧ o ≠ h_ ∧ q ≠ g ∧ q ≠ h_ from ne)
  have X0 := Lib.hid (Ex.refl (fun k => k = g ∨ k = h_ ∨ k = o ∨ k = q) w)
  have S0 := Lib.hid (Nat.le_refl w.heap.size)
  clear h hB hR hQ hb ne hs hen hin hwd
  have Bq0 := B0.out.cell 0
  have Bq5 := B0.out.cell 5
  have Bq13 := B0.out.cell 13
  simp only [List.getElem?_toArray, List.getElem?_cons_succ, List.getElem?_cons_zero] at Bq0 Bq5 Bq13
  go_enter Try.func17, Try.ntmps17
  go_wp2_with fail
  refine wp_scope_ahead 2 (fun c0 HC => ?_)
  go_wp2_with fail
  refine wp_goto ?_
  show goOn Try.prog c0 _ 2 (.goto 0) _ _
  refine goOn_jump HC rfl ?_
  clear Bq0 Bq5 Bq13
  go_upto_region 17 with fail
  have hne : Nonempty (Held (Ex (fun k => k = g ∨ k = h_) w)) := ⟨⟨w, Ex.refl _ _⟩⟩
  have p0 : ∀ y : Held (Ex (fun k => k = g ∨ k = h_) w), y.w.cell? ⟨o, 0, none⟩ = some (.int .i64 0) := fun y => (B0.out.ex y.ok (by have o_ := ORD.out; omega)).cell 0
  have p1 : ∀ y : Held (Ex (fun k => k = g ∨ k = h_) w), y.w.cell? ⟨o, 1, none⟩ = some (.int .i64 log) := fun y => (B0.out.ex y.ok (by have o_ := ORD.out; omega)).cell 1
  have p2 : ∀ y : Held (Ex (fun k => k = g ∨ k = h_) w), y.w.cell? ⟨o, 2, none⟩ = some (.int .i64 long) := fun y => (B0.out.ex y.ok (by have o_ := ORD.out; omega)).cell 2
  have p3 : ∀ y : Held (Ex (fun k => k = g ∨ k = h_) w), y.w.cell? ⟨o, 3, none⟩ = some (.slice none 0 0) := fun y => (B0.out.ex y.ok (by have o_ := ORD.out; omega)).cell 3
  have p4 : ∀ y : Held (Ex (fun k => k = g ∨ k = h_) w), y.w.cell? ⟨o, 4, none⟩ = some (.int .i64 0) := fun y => (B0.out.ex y.ok (by have o_ := ORD.out; omega)).cell 4
  have p10 : ∀ y : Held (Ex (fun k => k = g ∨ k = h_) w), y.w.cell? ⟨o, 10, none⟩ = some (.int .u64 s.epoch) := fun y => (B0.out.ex y.ok (by have o_ := ORD.out; omega)).cell 10
  have p11 : ∀ y : Held (Ex (fun k => k = g ∨ k = h_) w), y.w.cell? ⟨o, 11, none⟩ = some (.int .u64 wd) := fun y => (B0.out.ex y.ok (by have o_ := ORD.out; omega)).cell 11
  refine drawn_bars (S := (Ex (fun k => k = g ∨ k = h_) w)) [([0, 1, 2, 3, 4, 5, 6, 7, 8, 9, 11, 12, 13, 14], 10), ([], 15)] [16] (by kernel_rfl) (by kernel_rfl) (by kernel_rfl) rfl (Ex.refl _ _).drew ?_
  refine Phased.go ?_
  simp only [pick, List.map_cons, List.map_nil, List.getElem?_cons_zero, List.getElem?_cons_succ, Option.getD_some]
  repeat (go_big_quiet_step (fail))
  refine wpQuiet_nil ?_
  go_wp2_with fail
  refine (HE.out w.drew).mono ?_; rintro e w1 ⟨rfl, hb⟩
  have hE : Ex (fun _ => False) w w1 := (Ex.refl _ w).drew.trans (Ex.of_below hb)
  have EE1 := Lib.hid (hE.mono (T' := (fun k => k = g ∨ k = h_)) (fun _ h => h.elim))
  clear hb
  have ee : Ex (fun _ => False) w w1 := hE
  have B_1 := Lib.hid (B0.out.ex ee (fun h => h))
  have R_1 := Lib.hid (ownsRow_ex R0.out ee (fun k hk h => h))
  have X_1 := Lib.hid (X0.out.trans (ee.mono (fun k hk => hk.elim)))
  have S_1 := Lib.hid (Nat.le_trans S0.out ee.size)
  have K_1 := Lib.hid (K0.out.ex ee (fun h => h) (fun h => h))
  clear ee B0 R0 X0 S0 K0 hE
  go_wp2_with fail
  refine behind_normal ⟨(Ex (fun k => k = g ∨ k = h_) w), fun W h => h, EE1.out, ?_⟩
  refine Phased.go ?_
  simp only [pick, List.map_cons, List.map_nil, List.getElem?_cons_zero, List.getElem?_cons_succ, Option.getD_some]
  repeat (go_big_quiet_step (fail))
  refine wpQuiet_nil ?_
  go_wp2_with fail
  refine (Store_any g h_ ws t en wd w1 K_1.out HWD.out).mono ?_; rintro e w2 ⟨rfl, hb1, hx1⟩
  have EE2 := Lib.hid (EE1.out.trans (Ex.of_ex2 (T := fun k => k = g ∨ k = h_) hx1 (.inl rfl) (.inr rfl)))
  rw [errF_in HIN.out]
  have ee : Ex (fun k => k = g ∨ k = h_) w1 w2 := Ex.of_ex2 (T := fun k => k = g ∨ k = h_) hx1 (.inl rfl) (.inr rfl)
  have B_2 := Lib.hid (B_1.out.ex ee (by have o_ := ORD.out; omega))
  have R_2 := Lib.hid (ownsRow_ex R_1.out ee (fun k hk h => by have := Q0.out k hk; have o_ := ORD.out; omega))
  have X_2 := Lib.hid (X_1.out.trans (ee.mono (fun k hk => hk.elim .inl (fun h => .inr (.inl h)))))
  have S_2 := Lib.hid (Nat.le_trans S_1.out ee.size)
  have K_2 := Lib.hid hb1
  clear ee B_1 R_1 X_1 S_1 K_1 hb1 hx1 
  go_wp2_with fail
  refine behind_normal ⟨(Ex (fun k => k = g ∨ k = h_) w), fun W h => h, EE2.out, ?_⟩
  refine Phased.end_ ?_
  clear hne p0 p1 p2 p3 p4 p10 p11
  have hne5 : Nonempty (Held (fun W => W = w2)) := ⟨⟨_, rfl⟩⟩
  simp only [pick, List.map_cons, List.map_nil, List.getElem?_cons_zero, List.getElem?_cons_succ, Option.getD_some]
  repeat (go_big_quiet_step (fail))
  refine wpQuiet_nil ?_
  clear hne5
  have Bq0 := B_2.out.cell 0
  have Bq13 := B_2.out.cell 13
  simp only [List.getElem?_toArray, List.getElem?_cons_succ, List.getElem?_cons_zero] at Bq0 Bq13
  have Bf13 := B_2.out.frozen 13
  go_wp2_with fail
  go_step3
  go_wp2_with fail
  clear Bq0 Bq13 Bf13
  have bb := B_2.out.set_ 13 (.int .i64 1)
  simp only [List.setIfInBounds_toArray, List.set_cons_succ, List.set_cons_zero] at bb
  have B_3 := Lib.hid bb
  clear bb
  have ee : Ex (fun k => k = o) w2 (w2.setCell ⟨o, 13, none⟩ (.int .i64 1)) := ((Ex.refl (fun k => k = o) w2).setCell (q := ⟨o, 13, none⟩) (.inl rfl) (.int .i64 1))
  have R_3 := Lib.hid (ownsRow_ex R_2.out ee (fun k hk h => by have := (World.ownsRow.lt R_2.out k hk).1; omega))
  have X_3 := Lib.hid (X_2.out.trans (ee.mono (fun k hk => .inr (.inr (.inl hk)))))
  have S_3 := Lib.hid (Nat.le_trans S_2.out ee.size)
  have K_3 := Lib.hid (K_2.out.ex ee (by have o_ := ORD.out; omega) (by have o_ := ORD.out; omega))
  clear ee B_2 R_2 X_2 S_2 K_2
  generalize (w2.setCell ⟨o, 13, none⟩ (.int .i64 1)) = w3 at *
  first | rw [goOn_ret] | skip
  go_ret
  exact ⟨rfl, K_3.out, ⟨⟨gv, B_3.out, R_3.out, Q0.out⟩, Nat.lt_of_lt_of_le QL.out S_3.out⟩, X_3.out⟩
set_option maxRecDepth 100000 in
set_option maxHeartbeats 4000000 in
theorem S_wout (g h_ o q : Nat) (ws : List Int) (t log long nx wd : Int) (s : St) (l : List St) (w : World) (h : LgAt w o q log long ⟨true, s, wd, nx, 0⟩ l) (hb : BankAt w g h_ ws t) (ne : o ≠ g ∧ o ≠ h_ ∧ q ≠ g ∧ q ≠ h_) (hs : s.Ok) (hwd : 0 ≤ wd ∧ wd ≤ 18446744073709551615) (hin : ¬ inW ws (entF log long s.epoch)) :
    Calls Try.prog 17 #[.pointer (some ⟨o, 0, none⟩), (.pointer (some ⟨g, 0, none⟩))] w fun e w' => e = .returned (.int .i64 3) ∧ BankAt w' g h_ (setF ws (entF log long s.epoch) wd) (tickF ws (entF log long s.epoch) t) ∧ LgAt w' o q log long ⟨true, s, wd, nx, 3⟩ l ∧ Ex (fun k => k = g ∨ k = h_ ∨ k = o ∨ k = q) w w' := by
  have HE := Lib.hid (fun W => Entry_any log long s.epoch W hs.epoch)
  obtain ⟨en, hen⟩ : ∃ en, entF log long s.epoch = en := ⟨_, rfl⟩
  rw [hen] at HE
  rw [hen] at hin ⊢
  have HIN := Lib.hid hin
  have HWD := Lib.hid hwd
  obtain ⟨gv, hB, hR, hQ⟩ := h.form
  have QL := Lib.hid h.qlt
  unfold lgC at hB
  simp only at hB
  have B0 := Lib.hid hB
  have R0 := Lib.hid hR
  have Q0 := Lib.hid hQ
  have K0 := Lib.hid hb
  have ORD := Lib.hid (show o ≠ g ∧ o ≠ h_ ∧ q ≠ g ∧ q ≠ h_ from ne)
  have X0 := Lib.hid (Ex.refl (fun k => k = g ∨ k = h_ ∨ k = o ∨ k = q) w)
  have S0 := Lib.hid (Nat.le_refl w.heap.size)
  clear h hB hR hQ hb ne hs hen hin hwd
  have Bq0 := B0.out.cell 0
  have Bq5 := B0.out.cell 5
  have Bq13 := B0.out.cell 13
  simp only [List.getElem?_toArray, List.getElem?_cons_succ, List.getElem?_cons_zero] at Bq0 Bq5 Bq13
  go_enter Try.func17, Try.ntmps17
  go_wp2_with fail
  refine wp_scope_ahead 2 (fun c0 HC => ?_)
  go_wp2_with fail
  refine wp_goto ?_
  show goOn Try.prog c0 _ 2 (.goto 0) _ _
  refine goOn_jump HC rfl ?_
  clear Bq0 Bq5 Bq13
  go_upto_region 17 with fail
  have hne : Nonempty (Held (Ex (fun k => k = g ∨ k = h_) w)) := ⟨⟨w, Ex.refl _ _⟩⟩
  have p0 : ∀ y : Held (Ex (fun k => k = g ∨ k = h_) w), y.w.cell? ⟨o, 0, none⟩ = some (.int .i64 0) := fun y => (B0.out.ex y.ok (by have o_ := ORD.out; omega)).cell 0
  have p1 : ∀ y : Held (Ex (fun k => k = g ∨ k = h_) w), y.w.cell? ⟨o, 1, none⟩ = some (.int .i64 log) := fun y => (B0.out.ex y.ok (by have o_ := ORD.out; omega)).cell 1
  have p2 : ∀ y : Held (Ex (fun k => k = g ∨ k = h_) w), y.w.cell? ⟨o, 2, none⟩ = some (.int .i64 long) := fun y => (B0.out.ex y.ok (by have o_ := ORD.out; omega)).cell 2
  have p3 : ∀ y : Held (Ex (fun k => k = g ∨ k = h_) w), y.w.cell? ⟨o, 3, none⟩ = some (.slice none 0 0) := fun y => (B0.out.ex y.ok (by have o_ := ORD.out; omega)).cell 3
  have p4 : ∀ y : Held (Ex (fun k => k = g ∨ k = h_) w), y.w.cell? ⟨o, 4, none⟩ = some (.int .i64 0) := fun y => (B0.out.ex y.ok (by have o_ := ORD.out; omega)).cell 4
  have p10 : ∀ y : Held (Ex (fun k => k = g ∨ k = h_) w), y.w.cell? ⟨o, 10, none⟩ = some (.int .u64 s.epoch) := fun y => (B0.out.ex y.ok (by have o_ := ORD.out; omega)).cell 10
  have p11 : ∀ y : Held (Ex (fun k => k = g ∨ k = h_) w), y.w.cell? ⟨o, 11, none⟩ = some (.int .u64 wd) := fun y => (B0.out.ex y.ok (by have o_ := ORD.out; omega)).cell 11
  refine drawn_bars (S := (Ex (fun k => k = g ∨ k = h_) w)) [([0, 1, 2, 3, 4, 5, 6, 7, 8, 9, 11, 12, 13, 14], 10), ([], 15)] [16] (by kernel_rfl) (by kernel_rfl) (by kernel_rfl) rfl (Ex.refl _ _).drew ?_
  refine Phased.go ?_
  simp only [pick, List.map_cons, List.map_nil, List.getElem?_cons_zero, List.getElem?_cons_succ, Option.getD_some]
  repeat (go_big_quiet_step (fail))
  refine wpQuiet_nil ?_
  go_wp2_with fail
  refine (HE.out w.drew).mono ?_; rintro e w1 ⟨rfl, hb⟩
  have hE : Ex (fun _ => False) w w1 := (Ex.refl _ w).drew.trans (Ex.of_below hb)
  have EE1 := Lib.hid (hE.mono (T' := (fun k => k = g ∨ k = h_)) (fun _ h => h.elim))
  clear hb
  have ee : Ex (fun _ => False) w w1 := hE
  have B_1 := Lib.hid (B0.out.ex ee (fun h => h))
  have R_1 := Lib.hid (ownsRow_ex R0.out ee (fun k hk h => h))
  have X_1 := Lib.hid (X0.out.trans (ee.mono (fun k hk => hk.elim)))
  have S_1 := Lib.hid (Nat.le_trans S0.out ee.size)
  have K_1 := Lib.hid (K0.out.ex ee (fun h => h) (fun h => h))
  clear ee B0 R0 X0 S0 K0 hE
  go_wp2_with fail
  refine behind_normal ⟨(Ex (fun k => k = g ∨ k = h_) w), fun W h => h, EE1.out, ?_⟩
  refine Phased.go ?_
  simp only [pick, List.map_cons, List.map_nil, List.getElem?_cons_zero, List.getElem?_cons_succ, Option.getD_some]
  repeat (go_big_quiet_step (fail))
  refine wpQuiet_nil ?_
  go_wp2_with fail
  refine (Store_any g h_ ws t en wd w1 K_1.out HWD.out).mono ?_; rintro e w2 ⟨rfl, hb1, hx1⟩
  have EE2 := Lib.hid (EE1.out.trans (Ex.of_ex2 (T := fun k => k = g ∨ k = h_) hx1 (.inl rfl) (.inr rfl)))
  rw [errF_out HIN.out]
  have ee : Ex (fun k => k = g ∨ k = h_) w1 w2 := Ex.of_ex2 (T := fun k => k = g ∨ k = h_) hx1 (.inl rfl) (.inr rfl)
  have B_2 := Lib.hid (B_1.out.ex ee (by have o_ := ORD.out; omega))
  have R_2 := Lib.hid (ownsRow_ex R_1.out ee (fun k hk h => by have := Q0.out k hk; have o_ := ORD.out; omega))
  have X_2 := Lib.hid (X_1.out.trans (ee.mono (fun k hk => hk.elim .inl (fun h => .inr (.inl h)))))
  have S_2 := Lib.hid (Nat.le_trans S_1.out ee.size)
  have K_2 := Lib.hid hb1
  clear ee B_1 R_1 X_1 S_1 K_1 hb1 hx1 
  go_wp2_with fail
  refine behind_normal ⟨(Ex (fun k => k = g ∨ k = h_) w), fun W h => h, EE2.out, ?_⟩
  refine Phased.end_ ?_
  clear hne p0 p1 p2 p3 p4 p10 p11
  have hne5 : Nonempty (Held (fun W => W = w2)) := ⟨⟨_, rfl⟩⟩
  simp only [pick, List.map_cons, List.map_nil, List.getElem?_cons_zero, List.getElem?_cons_succ, Option.getD_some]
  repeat (go_big_quiet_step (fail))
  refine wpQuiet_nil ?_
  clear hne5
  have Bq0 := B_2.out.cell 0
  have Bq13 := B_2.out.cell 13
  simp only [List.getElem?_toArray, List.getElem?_cons_succ, List.getElem?_cons_zero] at Bq0 Bq13
  have Bf13 := B_2.out.frozen 13
  go_wp2_with fail
  refine wp_goto ?_
  show goOn Try.prog c0 _ 1 (.goto 1) _ _
  refine goOn_jump HC rfl ?_
  go_wp2_with fail
  clear Bq0 Bq13 Bf13
  have bb := B_2.out.set_ 13 (.int .i64 3)
  simp only [List.setIfInBounds_toArray, List.set_cons_succ, List.set_cons_zero] at bb
  have B_3 := Lib.hid bb
  clear bb
  have ee : Ex (fun k => k = o) w2 (w2.setCell ⟨o, 13, none⟩ (.int .i64 3)) := ((Ex.refl (fun k => k = o) w2).setCell (q := ⟨o, 13, none⟩) (.inl rfl) (.int .i64 3))
  have R_3 := Lib.hid (ownsRow_ex R_2.out ee (fun k hk h => by have := (World.ownsRow.lt R_2.out k hk).1; omega))
  have X_3 := Lib.hid (X_2.out.trans (ee.mono (fun k hk => .inr (.inr (.inl hk)))))
  have S_3 := Lib.hid (Nat.le_trans S_2.out ee.size)
  have K_3 := Lib.hid (K_2.out.ex ee (by have o_ := ORD.out; omega) (by have o_ := ORD.out; omega))
  clear ee B_2 R_2 X_2 S_2 K_2
  generalize (w2.setCell ⟨o, 13, none⟩ (.int .i64 3)) = w3 at *
  first | rw [goOn_ret] | skip
  go_ret
  exact ⟨rfl, K_3.out, ⟨⟨gv, B_3.out, R_3.out, Q0.out⟩, Nat.lt_of_lt_of_le QL.out S_3.out⟩, X_3.out⟩
set_option maxRecDepth 100000 in
set_option maxHeartbeats 4000000 in
theorem S_wnil (o q : Nat) (log long nx wd : Int) (s : St) (l : List St) (w : World) (h : LgAt w o q log long ⟨true, s, wd, nx, 0⟩ l) (hs : s.Ok) :
    Calls Try.prog 17 #[.pointer (some ⟨o, 0, none⟩), .pointer none] w fun e w' => e = .returned (.int .i64 3) ∧ LgAt w' o q log long ⟨true, s, wd, nx, 3⟩ l ∧ Ex (fun k => k = o ∨ k = q) w w' := by
  have HE := Lib.hid (fun W => Entry_any log long s.epoch W hs.epoch)
  obtain ⟨en, hen⟩ : ∃ en, entF log long s.epoch = en := ⟨_, rfl⟩
  rw [hen] at HE
  obtain ⟨gv, hB, hR, hQ⟩ := h.form
  have QL := Lib.hid h.qlt
  unfold lgC at hB
  simp only at hB
  have B0 := Lib.hid hB
  have R0 := Lib.hid hR
  have Q0 := Lib.hid hQ
  have X0 := Lib.hid (Ex.refl (fun k => k = o ∨ k = q) w)
  have S0 := Lib.hid (Nat.le_refl w.heap.size)
  clear h hB hR hQ hs hen
  have Bq0 := B0.out.cell 0
  have Bq5 := B0.out.cell 5
  have Bq13 := B0.out.cell 13
  simp only [List.getElem?_toArray, List.getElem?_cons_succ, List.getElem?_cons_zero] at Bq0 Bq5 Bq13
  go_enter Try.func17, Try.ntmps17
  go_wp2_with fail
  refine wp_scope_ahead 2 (fun c0 HC => ?_)
  go_wp2_with fail
  refine wp_goto ?_
  show goOn Try.prog c0 _ 2 (.goto 0) _ _
  refine goOn_jump HC rfl ?_
  clear Bq0 Bq5 Bq13
  go_upto_region 17 with fail
  have hne : Nonempty (Held (Ex (fun _ => False) w)) := ⟨⟨w, Ex.refl _ _⟩⟩
  have p0 : ∀ y : Held (Ex (fun _ => False) w), y.w.cell? ⟨o, 0, none⟩ = some (.int .i64 0) := fun y => (B0.out.ex y.ok (fun h => h)).cell 0
  have p1 : ∀ y : Held (Ex (fun _ => False) w), y.w.cell? ⟨o, 1, none⟩ = some (.int .i64 log) := fun y => (B0.out.ex y.ok (fun h => h)).cell 1
  have p2 : ∀ y : Held (Ex (fun _ => False) w), y.w.cell? ⟨o, 2, none⟩ = some (.int .i64 long) := fun y => (B0.out.ex y.ok (fun h => h)).cell 2
  have p3 : ∀ y : Held (Ex (fun _ => False) w), y.w.cell? ⟨o, 3, none⟩ = some (.slice none 0 0) := fun y => (B0.out.ex y.ok (fun h => h)).cell 3
  have p4 : ∀ y : Held (Ex (fun _ => False) w), y.w.cell? ⟨o, 4, none⟩ = some (.int .i64 0) := fun y => (B0.out.ex y.ok (fun h => h)).cell 4
  have p10 : ∀ y : Held (Ex (fun _ => False) w), y.w.cell? ⟨o, 10, none⟩ = some (.int .u64 s.epoch) := fun y => (B0.out.ex y.ok (fun h => h)).cell 10
  have p11 : ∀ y : Held (Ex (fun _ => False) w), y.w.cell? ⟨o, 11, none⟩ = some (.int .u64 wd) := fun y => (B0.out.ex y.ok (fun h => h)).cell 11
  refine drawn_bars (S := (Ex (fun _ => False) w)) [([0, 1, 2, 3, 4, 5, 6, 7, 8, 9, 11, 12, 13, 14], 10), ([], 15)] [16] (by kernel_rfl) (by kernel_rfl) (by kernel_rfl) rfl (Ex.refl _ _).drew ?_
  refine Phased.go ?_
  simp only [pick, List.map_cons, List.map_nil, List.getElem?_cons_zero, List.getElem?_cons_succ, Option.getD_some]
  repeat (go_big_quiet_step (fail))
  refine wpQuiet_nil ?_
  go_wp2_with fail
  refine (HE.out w.drew).mono ?_; rintro e w1 ⟨rfl, hb⟩
  have hE : Ex (fun _ => False) w w1 := (Ex.refl _ w).drew.trans (Ex.of_below hb)
  have EE1 := Lib.hid (hE.mono (T' := (fun _ => False)) (fun _ h => h.elim))
  clear hb
  have ee : Ex (fun _ => False) w w1 := hE
  have B_1 := Lib.hid (B0.out.ex ee (fun h => h))
  have R_1 := Lib.hid (ownsRow_ex R0.out ee (fun k hk h => h))
  have X_1 := Lib.hid (X0.out.trans (ee.mono (fun k hk => hk.elim)))
  have S_1 := Lib.hid (Nat.le_trans S0.out ee.size)
  clear ee B0 R0 X0 S0 hE
  go_wp2_with fail
  refine behind_normal ⟨(Ex (fun _ => False) w), fun W h => h, EE1.out, ?_⟩
  refine Phased.go ?_
  simp only [pick, List.map_cons, List.map_nil, List.getElem?_cons_zero, List.getElem?_cons_succ, Option.getD_some]
  repeat (go_big_quiet_step (fail))
  refine wpQuiet_nil ?_
  go_wp2_with fail
  refine (Store_nil en wd w1).mono ?_; rintro e w2 ⟨rfl, hb1⟩
  have EE2 := Lib.hid (EE1.out.trans (Ex.of_below hb1))
  have ee : Ex (fun _ => False) w1 w2 := Ex.of_below hb1
  have B_2 := Lib.hid (B_1.out.ex ee (fun h => h))
  have R_2 := Lib.hid (ownsRow_ex R_1.out ee (fun k hk h => h))
  have X_2 := Lib.hid (X_1.out.trans (ee.mono (fun k hk => hk.elim)))
  have S_2 := Lib.hid (Nat.le_trans S_1.out ee.size)
  clear ee B_1 R_1 X_1 S_1 hb1
  go_wp2_with fail
  refine behind_normal ⟨(Ex (fun _ => False) w), fun W h => h, EE2.out, ?_⟩
  refine Phased.end_ ?_
  clear hne p0 p1 p2 p3 p4 p10 p11
  have hne5 : Nonempty (Held (fun W => W = w2)) := ⟨⟨_, rfl⟩⟩
  simp only [pick, List.map_cons, List.map_nil, List.getElem?_cons_zero, List.getElem?_cons_succ, Option.getD_some]
  repeat (go_big_quiet_step (fail))
  refine wpQuiet_nil ?_
  clear hne5
  have Bq0 := B_2.out.cell 0
  have Bq13 := B_2.out.cell 13
  simp only [List.getElem?_toArray, List.getElem?_cons_succ, List.getElem?_cons_zero] at Bq0 Bq13
  have Bf13 := B_2.out.frozen 13
  go_wp2_with fail
  refine wp_goto ?_
  show goOn Try.prog c0 _ 1 (.goto 1) _ _
  refine goOn_jump HC rfl ?_
  go_wp2_with fail
  clear Bq0 Bq13 Bf13
  have bb := B_2.out.set_ 13 (.int .i64 3)
  simp only [List.setIfInBounds_toArray, List.set_cons_succ, List.set_cons_zero] at bb
  have B_3 := Lib.hid bb
  clear bb
  have ee : Ex (fun k => k = o) w2 (w2.setCell ⟨o, 13, none⟩ (.int .i64 3)) := ((Ex.refl (fun k => k = o) w2).setCell (q := ⟨o, 13, none⟩) (.inl rfl) (.int .i64 3))
  have R_3 := Lib.hid (ownsRow_ex R_2.out ee (fun k hk h => by have := (World.ownsRow.lt R_2.out k hk).1; omega))
  have X_3 := Lib.hid (X_2.out.trans (ee.mono (fun k hk => .inl hk)))
  have S_3 := Lib.hid (Nat.le_trans S_2.out ee.size)
  clear ee B_2 R_2 X_2 S_2
  generalize (w2.setCell ⟨o, 13, none⟩ (.int .i64 3)) = w3 at *
  first | rw [goOn_ret] | skip
  go_ret
  exact ⟨rfl, ⟨⟨gv, B_3.out, R_3.out, Q0.out⟩, Nat.lt_of_lt_of_le QL.out S_3.out⟩, X_3.out⟩
set_option maxRecDepth 100000 in
set_option maxHeartbeats 4000000 in
theorem G_none (w : World) :
    Calls Try.prog 20 #[.pointer none] w fun e w' => e = .returned (.slice none 0 0) ∧ w = w' := by
  go_enter Try.func20, Try.ntmps20
  go_wp2_with fail
  go_ret
  exact ⟨rfl, rfl⟩
set_option maxRecDepth 100000 in
set_option maxHeartbeats 4000000 in
theorem G_busy (o q : Nat) (log long : Int) (x : LX) (l : List St) (w : World) (h : LgAt w o q log long x l) (hq : x.how ≠ 1) :
    Calls Try.prog 20 #[.pointer (some ⟨o, 0, none⟩)] w fun e w' => e = .returned (.slice none 0 0) ∧ w = w' := by
  have kh : (x.how != 1) = true := by simpa using hq
  obtain ⟨wr, s, wd, nx, how⟩ := x
  simp only at kh hq
  obtain ⟨gv, hB, hR, hQ⟩ := h.form
  unfold lgC at hB
  simp only at hB
  have Bq0 := hB.cell 0
  have Bq13 := hB.cell 13
  simp only [List.getElem?_toArray, List.getElem?_cons_succ, List.getElem?_cons_zero] at Bq0 Bq13
  clear h hB hR hQ hq
  go_enter Try.func20, Try.ntmps20
  go_wp2_with fail
  go_ret
  exact ⟨rfl, rfl⟩
set_option maxRecDepth 100000 in
set_option maxHeartbeats 4000000 in
theorem G_done (o q : Nat) (log long : Int) (x : LX) (l : List St) (w : World) (h : LgAt w o q log long x l) (hq : x.how = 1) (hl : l.length ≤ 1048576) :
    Calls Try.prog 20 #[.pointer (some ⟨o, 0, none⟩)] w fun e w' => ∃ v, e = .returned v ∧ w'.ownsRow w.heap.size 28 5 v l.length (flatS l) ∧ Below w.heap.size w w' := by
  obtain ⟨wr, s, wd, nx, how⟩ := x
  simp only at hq
  subst hq
  obtain ⟨gv, hB, hR, hQ⟩ := h.form
  unfold lgC at hB
  simp only at hB
  have HC := Lib.hid (CloneS_any (o + 1) gv l w hR hl)
  have Bq0 := hB.cell 0
  have Bq13 := hB.cell 13
  have Bq14 := hB.cell 14
  simp only [List.getElem?_toArray, List.getElem?_cons_succ, List.getElem?_cons_zero] at Bq0 Bq13 Bq14
  clear h hB hR hQ hl
  go_enter Try.func20, Try.ntmps20
  go_wp2_with fail
  refine HC.out.mono ?_; rintro e w1 ⟨v, rfl, ho, hb⟩
  obtain ⟨va, vc, rfl⟩ := own_form ho
  have HO := Lib.hid ho
  have L1 := Lib.hid hb
  clear ho hb Bq0 Bq13 Bq14 HC
  go_wp2_with fail
  go_ret
  exact ⟨_, rfl, HO.out, L1.out⟩
end Go.Proofs.Ythhellgaafbokaa.Lg
