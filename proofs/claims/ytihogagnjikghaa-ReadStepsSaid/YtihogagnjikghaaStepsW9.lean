/-
  ReadSteps, walked. Printed by wip/tools/mkrs.py. No condition. By an AI agent.
-/
import Derived.Test.YtihogagnjikghaaRf9t
import Derived.Test.YtihogagnjikghaaPlain
import Derived.Test.YtihogagnjikghaaRdA
import Derived.Test.YtihogagnjikghaaIn
import Derived.Deep.CutRange
namespace Go.Proofs.Ytihogagnjikghaa.Bank
set_option linter.unusedVariables false
set_option linter.unusedSimpArgs false
open Go Go.RowKit Go.Proofs.Ytihogagnjikghaa.Base

structure Act where
  rd : Bool
  at_ : Int
  x : Int
instance : Inhabited Act := ⟨⟨false, 0, 0⟩⟩
structure Acts (w : World) (v : Value) (n : Nat) (l : Nat → Act) : Prop where
  form : ∃ A c, v = .slice A n c ∧ n ≤ maxLen ∧ (0 < n → ∃ b o, A = some ⟨b, o, none⟩ ∧ b < w.heap.size ∧ ∀ i : Nat, i < n →
    w.cell? ⟨b, o + i * 3, none⟩ = some (.bool (l i).rd) ∧ w.cell? ⟨b, o + i * 3 + 1, none⟩ = some (.int .i64 (l i).at_) ∧ w.cell? ⟨b, o + i * 3 + 2, none⟩ = some (.int .u64 (l i).x))
  ok : ∀ i : Nat, i < n → 0 ≤ (l i).x ∧ (l i).x ≤ 18446744073709551615
theorem OwnR.ints {w : World} {base : Nat} {v : Value} {W : List Int} (h : OwnR w base v W) (hl : W.length ≤ maxLen) : Ints w .u64 v W := ints_of_own h hl

set_option maxRecDepth 100000 in
set_option maxHeartbeats 16000000 in
theorem ReadSteps_walk (n : Int) (hn : -9223372036854775808 ≤ n ∧ n ≤ 9223372036854775807) (v : Value) (x : Spot × Int) (v2 : Value) (y : Nat × (Nat → Act)) (w : World) (hx : v = .agg #[.int .i64 x.1.owners, .int .i64 x.1.seq, .int .i64 x.1.first, .int .i64 x.1.words, .int .i64 x.1.depth, .int .i64 x.2]) (hy : Acts w v2 y.1 y.2) : Calls Try.prog 3 #[.int .i64 n, v, v2] w fun e w' => e = .returned (.bool true) ∧ Below w.heap.size w w' := by
  clear hn
  subst hx
  obtain ⟨⟨ow, sq, fi, wo, de⟩, tries⟩ := x
  obtain ⟨na, l⟩ := y
  simp only at hy ⊢
  obtain ⟨B, cb, rfl, -, hg⟩ := hy.form
  have HAO := Lib.hid hy.ok
  have HG := Lib.hid hg
  clear hy hg
  have JB := Lib.hid (Blk.new w 25 #[.int .i64 ow, .int .i64 sq, .int .i64 fi, .int .i64 wo, .int .i64 de, .int .i64 tries])
  have L0 := Lib.hid ((Below.refl w.heap.size w).alloc (Nat.le_refl _) (.cells #[.int .i64 ow, .int .i64 sq, .int .i64 fi, .int .i64 wo, .int .i64 de, .int .i64 tries] 25))
  have W1 := Lib.hid (show w.heap.size < (w.alloc (.cells #[.int .i64 ow, .int .i64 sq, .int .i64 fi, .int .i64 wo, .int .i64 de, .int .i64 tries] 25)).heap.size by simp)
  go_enter Try.func3, Try.ntmps3
  go_upto_region 1 with fail
  generalize w.alloc (.cells #[.int .i64 ow, .int .i64 sq, .int .i64 fi, .int .i64 wo, .int .i64 de, .int .i64 tries] 25) = w1 at *
  by_cases q1 : n < 1
  · skip
    have kq1 : decide (n < 1) = true := decide_eq_true (by omega)
    clear q1
    go_wp2_with fail
    refine (awake_any _).mono ?_; rintro e wz ⟨rfl, hb⟩
    have LZ := Lib.hid (bl L0.out hb)
    clear hb
    go_wp2_with fail
    go_ret
    exact ⟨rfl, LZ.out⟩
  by_cases q2 : 60 < n
  · skip
    have kq1 : decide (n < 1) = false := decide_eq_false (by omega)
    have kq2 : decide (n > 60) = true := decide_eq_true (by omega)
    clear q1 q2
    go_wp2_with fail
    refine (awake_any _).mono ?_; rintro e wz ⟨rfl, hb⟩
    have LZ := Lib.hid (bl L0.out hb)
    clear hb
    go_wp2_with fail
    go_ret
    exact ⟨rfl, LZ.out⟩
  by_cases q3 : 200 < na
  · skip
    have kq1 : decide (n < 1) = false := decide_eq_false (by omega)
    have kq2 : decide (n > 60) = false := decide_eq_false (by omega)
    have kq3 : decide ((na : Int) > 200) = true := decide_eq_true (by omega)
    clear q1 q2 q3
    go_wp2_with fail
    refine (awake_any _).mono ?_; rintro e wz ⟨rfl, hb⟩
    have LZ := Lib.hid (bl L0.out hb)
    clear hb
    go_wp2_with fail
    go_ret
    exact ⟨rfl, LZ.out⟩
  have kq1 : decide (n < 1) = false := decide_eq_false (by omega)
  have kq2 : decide (n > 60) = false := decide_eq_false (by omega)
  have kq3 : decide ((na : Int) > 200) = false := decide_eq_false (by omega)
  have HNA := Lib.hid (show na ≤ 200 by omega)
  obtain ⟨N, rfl⟩ : ∃ N : Nat, n = N := ⟨n.toNat, by omega⟩
  have HN := Lib.hid (show 1 ≤ N ∧ N ≤ 60 from ⟨by omega, by omega⟩)
  clear q1 q2 q3
  go_wp2_with fail
  clear kq1 kq2 kq3
  refine (BNew_ex N HN.out.1 (by have := HN.out; omega) _).mono ?_; rintro e w2 ⟨g, h, rfl, hk, h1, h2, h3, hb⟩
  have ee : Ex (fun _ => False) w1 w2 := Ex.of_below hb
  have J_1 := Lib.hid (JB.out.ex ee (fun h => h))
  have L_1 := Lib.hid (Ex.below L0.out ee (fun k hk => hk.elim))
  have K_1 := Lib.hid (hk)
  clear ee JB L0 hk
  have OR1 := Lib.hid (show w.heap.size < h ∧ h < g ∧ g < w2.heap.size from ⟨Nat.lt_of_lt_of_le W1.out h1, h2, h3⟩)
  clear h1 h2 h3 hb W1
  have Jq0 := (J_1.out).cell 0
  have Jq1 := (J_1.out).cell 1
  have Jq2 := (J_1.out).cell 2
  have Jq3 := (J_1.out).cell 3
  have Jq4 := (J_1.out).cell 4
  have Jq5 := (J_1.out).cell 5
  simp only [List.getElem?_toArray, List.getElem?_cons_succ, List.getElem?_cons_zero] at Jq0 Jq1 Jq2 Jq3 Jq4 Jq5
  have HPL := Lib.hid (fun W => plain_any (⟨ow, sq, fi, wo, de⟩ : Spot) W)
  have HMO := Lib.hid (RMost_any (⟨ow, sq, fi, wo, de⟩ : Spot) tries)
  have HMF := Lib.hid (fRMost_any (⟨ow, sq, fi, wo, de⟩ : Spot) tries)
  unfold Spot.val at HPL HMO HMF
  simp only at HPL HMO HMF
  have kmm : (mostR (⟨ow, sq, fi, wo, de⟩ : Spot) tries != mostR (⟨ow, sq, fi, wo, de⟩ : Spot) tries) = false := by simp
  go_wp2_with fail
  cases hmay : mayF (⟨ow, sq, fi, wo, de⟩ : Spot) tries with
  | false =>
    skip
    have HMAY := Lib.hid hmay
    clear hmay
    have HR1 := Lib.hid (RNew_may (⟨ow, sq, fi, wo, de⟩ : Spot) tries w2 HMAY.out)
    unfold Spot.val at HR1
    simp only at HR1
    refine HR1.out.mono ?_; rintro e w3 ⟨rfl, hl3⟩
    clear HR1
    clear Jq0 Jq1 Jq2 Jq3 Jq4 Jq5
    have ee : Ex (fun _ => False) w2 w3 := Ex.of_below hl3
    have J_2 := Lib.hid (J_1.out.ex ee (fun h => h))
    have K_2 := Lib.hid (K_1.out.ex ee (fun h => h) (fun h => h))
    have L_2 := Lib.hid (Ex.below L_1.out ee (fun k hk => hk.elim))
    clear ee J_1 K_1 L_1 hl3
    go_upto_region 5 with fail
    have hne : Nonempty (Held (Below w3.heap.size w3)) := ⟨⟨w3, (Below.refl _ _)⟩⟩
    have rJ0 : ∀ x : Held (Below w3.heap.size w3), x.w.cell? ⟨w.heap.size, 0, none⟩ = some (.int .i64 ow) := fun x => (J_2.out.bl x.ok).cell 0
    have rJ1 : ∀ x : Held (Below w3.heap.size w3), x.w.cell? ⟨w.heap.size, 1, none⟩ = some (.int .i64 sq) := fun x => (J_2.out.bl x.ok).cell 1
    have rJ2 : ∀ x : Held (Below w3.heap.size w3), x.w.cell? ⟨w.heap.size, 2, none⟩ = some (.int .i64 fi) := fun x => (J_2.out.bl x.ok).cell 2
    have rJ3 : ∀ x : Held (Below w3.heap.size w3), x.w.cell? ⟨w.heap.size, 3, none⟩ = some (.int .i64 wo) := fun x => (J_2.out.bl x.ok).cell 3
    have rJ4 : ∀ x : Held (Below w3.heap.size w3), x.w.cell? ⟨w.heap.size, 4, none⟩ = some (.int .i64 de) := fun x => (J_2.out.bl x.ok).cell 4
    have rJ5 : ∀ x : Held (Below w3.heap.size w3), x.w.cell? ⟨w.heap.size, 5, none⟩ = some (.int .i64 tries) := fun x => (J_2.out.bl x.ok).cell 5
    refine drawn_bars (S := (Below w3.heap.size w3)) [([0, 1, 3, 4], 2), ([], 5)] [6, 7, 8, 9, 10] (by kernel_rfl) (by kernel_rfl) (by kernel_rfl) rfl (Below.refl _ _).drew ?_
    refine Phased.go ?_
    simp only [pick, List.map_cons, List.map_nil, List.getElem?_cons_zero, List.getElem?_cons_succ, Option.getD_some]
    repeat (go_big_quiet_step (fail))
    refine wpQuiet_nil ?_
    go_wp2_with fail
    refine (HPL.out _).mono ?_; rintro e w4 ⟨rfl, hl4⟩
    have hl5 := bl ((Below.refl w3.heap.size w3).drew) hl4
    go_wp2_with fail
    refine behind_normal ⟨(Below w3.heap.size w3), fun W h => h, hl5, ?_⟩
    refine Phased.go ?_
    simp only [pick, List.map_cons, List.map_nil, List.getElem?_cons_zero, List.getElem?_cons_succ, Option.getD_some]
    repeat (go_big_quiet_step (fail))
    refine wpQuiet_nil ?_
    have HNF := Lib.hid (fRNew_may (⟨ow, sq, fi, wo, de⟩ : Spot) tries w4 HMAY.out)
    unfold Spot.val at HNF
    simp only at HNF
    go_wp2_with fail
    refine HNF.out.mono ?_; rintro e w5 ⟨rfl, hl6⟩
    have hl7 := bl hl5 hl6
    go_wp2_with fail
    refine behind_normal ⟨(Below w3.heap.size w3), fun W h => h, hl7, ?_⟩
    refine Phased.end_ ?_
    have hne5 : Nonempty (Held (fun W => W = w5)) := ⟨⟨_, rfl⟩⟩
    simp only [pick, List.map_cons, List.map_nil, List.getElem?_cons_zero, List.getElem?_cons_succ, Option.getD_some]
    repeat (go_big_quiet_step (fail))
    refine wpQuiet_nil ?_
    clear hne5 hne rJ0 rJ1 rJ2 rJ3 rJ4 rJ5 HNF hl4
    have ee : Ex (fun _ => False) w3 w5 := Ex.of_below hl7
    have J_3 := Lib.hid (J_2.out.ex ee (fun h => h))
    have K_3 := Lib.hid (K_2.out.ex ee (fun h => h) (fun h => h))
    have L_3 := Lib.hid (Ex.below L_2.out ee (fun k hk => hk.elim))
    clear ee J_2 K_2 L_2 hl5 hl6 hl7
    go_upto_region 6 with fail
    have hne : Nonempty (Held (Below w5.heap.size w5)) := ⟨⟨w5, (Below.refl _ _)⟩⟩
    have rJ0 : ∀ x : Held (Below w5.heap.size w5), x.w.cell? ⟨w.heap.size, 0, none⟩ = some (.int .i64 ow) := fun x => (J_3.out.bl x.ok).cell 0
    have rJ1 : ∀ x : Held (Below w5.heap.size w5), x.w.cell? ⟨w.heap.size, 1, none⟩ = some (.int .i64 sq) := fun x => (J_3.out.bl x.ok).cell 1
    have rJ2 : ∀ x : Held (Below w5.heap.size w5), x.w.cell? ⟨w.heap.size, 2, none⟩ = some (.int .i64 fi) := fun x => (J_3.out.bl x.ok).cell 2
    have rJ3 : ∀ x : Held (Below w5.heap.size w5), x.w.cell? ⟨w.heap.size, 3, none⟩ = some (.int .i64 wo) := fun x => (J_3.out.bl x.ok).cell 3
    have rJ4 : ∀ x : Held (Below w5.heap.size w5), x.w.cell? ⟨w.heap.size, 4, none⟩ = some (.int .i64 de) := fun x => (J_3.out.bl x.ok).cell 4
    have rJ5 : ∀ x : Held (Below w5.heap.size w5), x.w.cell? ⟨w.heap.size, 5, none⟩ = some (.int .i64 tries) := fun x => (J_3.out.bl x.ok).cell 5
    refine drawn_bars (S := (Below w5.heap.size w5)) [([0, 1, 2, 3, 4, 5, 6, 7, 8, 9, 10, 11, 13, 14, 16, 17], 12), ([], 15), ([], 18)] [19, 20] (by kernel_rfl) (by kernel_rfl) (by kernel_rfl) rfl (Below.refl _ _).drew ?_
    refine Phased.go ?_
    simp only [pick, List.map_cons, List.map_nil, List.getElem?_cons_zero, List.getElem?_cons_succ, Option.getD_some]
    repeat (go_big_quiet_step (fail))
    refine wpQuiet_nil ?_
    go_wp2_with fail
    refine (HMO.out _).mono ?_; rintro e w6 ⟨rfl, hl4⟩
    have hl5 := bl ((Below.refl w5.heap.size w5).drew) hl4
    go_wp2_with fail
    refine behind_normal ⟨(Below w5.heap.size w5), fun W h => h, hl5, ?_⟩
    refine Phased.go ?_
    simp only [pick, List.map_cons, List.map_nil, List.getElem?_cons_zero, List.getElem?_cons_succ, Option.getD_some]
    repeat (go_big_quiet_step (fail))
    refine wpQuiet_nil ?_
    go_wp2_with fail
    refine (HPL.out _).mono ?_; rintro e w7 ⟨rfl, hl6⟩
    have hl7 := bl hl5 hl6
    go_wp2_with fail
    refine behind_normal ⟨(Below w5.heap.size w5), fun W h => h, hl7, ?_⟩
    refine Phased.go ?_
    simp only [pick, List.map_cons, List.map_nil, List.getElem?_cons_zero, List.getElem?_cons_succ, Option.getD_some]
    repeat (go_big_quiet_step (fail))
    refine wpQuiet_nil ?_
    go_wp2_with fail
    refine (HMF.out _).mono ?_; rintro e w8 ⟨rfl, hl8⟩
    have hl9 := bl hl7 hl8
    go_wp2_with fail
    refine behind_normal ⟨(Below w5.heap.size w5), fun W h => h, hl9, ?_⟩
    refine Phased.end_ ?_
    have hne5 : Nonempty (Held (fun W => W = w8)) := ⟨⟨_, rfl⟩⟩
    simp only [pick, List.map_cons, List.map_nil, List.getElem?_cons_zero, List.getElem?_cons_succ, Option.getD_some]
    repeat (go_big_quiet_step (fail))
    refine wpQuiet_nil ?_
    clear hne5 hne rJ0 rJ1 rJ2 rJ3 rJ4 rJ5 HMO HMF HPL hl4 hl5 hl6 hl7 hl8 kmm
    have ee : Ex (fun _ => False) w5 w8 := Ex.of_below hl9
    have J_4 := Lib.hid (J_3.out.ex ee (fun h => h))
    have K_4 := Lib.hid (K_3.out.ex ee (fun h => h) (fun h => h))
    have L_4 := Lib.hid (Ex.below L_3.out ee (fun k hk => hk.elim))
    clear ee J_3 K_3 L_3 hl9
    go_wp2_with fail
    refine (awake_any _).mono ?_; rintro e wz ⟨rfl, hb⟩
    have LZ := Lib.hid (bl L_4.out hb)
    clear hb
    go_wp2_with fail
    go_ret
    exact ⟨rfl, LZ.out⟩
  | true =>
    skip
    have HMAY := Lib.hid hmay
    clear hmay
    have HR1 := Lib.hid (RNew_in (⟨ow, sq, fi, wo, de⟩ : Spot) tries w2 HMAY.out)
    unfold Spot.val at HR1
    simp only at HR1
    refine HR1.out.mono ?_; rintro e w3 ⟨o, r, rfl, ho, q1, q2, hl3⟩
    clear HR1
    have OR2 := Lib.hid (show w.heap.size < h ∧ h < g ∧ g < r ∧ r < o from ⟨OR1.out.1, OR1.out.2.1, Nat.lt_of_lt_of_le OR1.out.2.2 q1, q2⟩)
    clear q1 q2
    clear Jq0 Jq1 Jq2 Jq3 Jq4 Jq5
    have ee : Ex (fun _ => False) w2 w3 := Ex.of_below hl3
    have J_2 := Lib.hid (J_1.out.ex ee (fun h => h))
    have K_2 := Lib.hid (K_1.out.ex ee (fun h => h) (fun h => h))
    have L_2 := Lib.hid (Ex.below L_1.out ee (fun k hk => hk.elim))
    have O_2 := Lib.hid (ho)
    clear ee J_1 K_1 L_1 ho hl3
    go_upto_region 5 with fail
    have hne : Nonempty (Held (Below w3.heap.size w3)) := ⟨⟨w3, (Below.refl _ _)⟩⟩
    have rJ0 : ∀ x : Held (Below w3.heap.size w3), x.w.cell? ⟨w.heap.size, 0, none⟩ = some (.int .i64 ow) := fun x => (J_2.out.bl x.ok).cell 0
    have rJ1 : ∀ x : Held (Below w3.heap.size w3), x.w.cell? ⟨w.heap.size, 1, none⟩ = some (.int .i64 sq) := fun x => (J_2.out.bl x.ok).cell 1
    have rJ2 : ∀ x : Held (Below w3.heap.size w3), x.w.cell? ⟨w.heap.size, 2, none⟩ = some (.int .i64 fi) := fun x => (J_2.out.bl x.ok).cell 2
    have rJ3 : ∀ x : Held (Below w3.heap.size w3), x.w.cell? ⟨w.heap.size, 3, none⟩ = some (.int .i64 wo) := fun x => (J_2.out.bl x.ok).cell 3
    have rJ4 : ∀ x : Held (Below w3.heap.size w3), x.w.cell? ⟨w.heap.size, 4, none⟩ = some (.int .i64 de) := fun x => (J_2.out.bl x.ok).cell 4
    have rJ5 : ∀ x : Held (Below w3.heap.size w3), x.w.cell? ⟨w.heap.size, 5, none⟩ = some (.int .i64 tries) := fun x => (J_2.out.bl x.ok).cell 5
    refine drawn_bars (S := (Below w3.heap.size w3)) [([0, 1, 3, 4], 2), ([], 5)] [6, 7, 8, 9, 10] (by kernel_rfl) (by kernel_rfl) (by kernel_rfl) rfl (Below.refl _ _).drew ?_
    refine Phased.go ?_
    simp only [pick, List.map_cons, List.map_nil, List.getElem?_cons_zero, List.getElem?_cons_succ, Option.getD_some]
    repeat (go_big_quiet_step (fail))
    refine wpQuiet_nil ?_
    go_wp2_with fail
    refine (HPL.out _).mono ?_; rintro e w4 ⟨rfl, hl4⟩
    have hl5 := bl ((Below.refl w3.heap.size w3).drew) hl4
    go_wp2_with fail
    refine behind_normal ⟨(Below w3.heap.size w3), fun W h => h, hl5, ?_⟩
    refine Phased.go ?_
    simp only [pick, List.map_cons, List.map_nil, List.getElem?_cons_zero, List.getElem?_cons_succ, Option.getD_some]
    repeat (go_big_quiet_step (fail))
    refine wpQuiet_nil ?_
    have HNF := Lib.hid (fRNew_in (⟨ow, sq, fi, wo, de⟩ : Spot) tries w4 HMAY.out)
    unfold Spot.val at HNF
    simp only at HNF
    go_wp2_with fail
    refine HNF.out.mono ?_; rintro e w5 ⟨f, rfl, hr, q3, hl6⟩
    have hl7 := bl hl5 hl6
    go_wp2_with fail
    refine behind_normal ⟨(Below w3.heap.size w3), fun W h => h, hl7, ?_⟩
    refine Phased.end_ ?_
    have hne5 : Nonempty (Held (fun W => W = w5)) := ⟨⟨_, rfl⟩⟩
    simp only [pick, List.map_cons, List.map_nil, List.getElem?_cons_zero, List.getElem?_cons_succ, Option.getD_some]
    repeat (go_big_quiet_step (fail))
    refine wpQuiet_nil ?_
    clear hne5 hne rJ0 rJ1 rJ2 rJ3 rJ4 rJ5 HNF hl4
    have OR3 := Lib.hid (show w.heap.size < h ∧ h < g ∧ g < r ∧ r < o ∧ o < f from ⟨OR2.out.1, OR2.out.2.1, OR2.out.2.2.1, OR2.out.2.2.2, Nat.lt_of_lt_of_le (Nat.lt_of_lt_of_le O_2.out.head.lt hl5.size) q3⟩)
    clear q3
    have ee : Ex (fun _ => False) w3 w5 := Ex.of_below hl7
    have J_3 := Lib.hid (J_2.out.ex ee (fun h => h))
    have K_3 := Lib.hid (K_2.out.ex ee (fun h => h) (fun h => h))
    have O_3 := Lib.hid (O_2.out.ex ee (fun h => h) (fun h => h))
    have L_3 := Lib.hid (Ex.below L_2.out ee (fun k hk => hk.elim))
    have F_3 := Lib.hid (hr)
    clear ee J_2 K_2 O_2 L_2 hl5 hl6 hl7 hr
    go_upto_region 6 with fail
    have hne : Nonempty (Held (Below w5.heap.size w5)) := ⟨⟨w5, (Below.refl _ _)⟩⟩
    have rJ0 : ∀ x : Held (Below w5.heap.size w5), x.w.cell? ⟨w.heap.size, 0, none⟩ = some (.int .i64 ow) := fun x => (J_3.out.bl x.ok).cell 0
    have rJ1 : ∀ x : Held (Below w5.heap.size w5), x.w.cell? ⟨w.heap.size, 1, none⟩ = some (.int .i64 sq) := fun x => (J_3.out.bl x.ok).cell 1
    have rJ2 : ∀ x : Held (Below w5.heap.size w5), x.w.cell? ⟨w.heap.size, 2, none⟩ = some (.int .i64 fi) := fun x => (J_3.out.bl x.ok).cell 2
    have rJ3 : ∀ x : Held (Below w5.heap.size w5), x.w.cell? ⟨w.heap.size, 3, none⟩ = some (.int .i64 wo) := fun x => (J_3.out.bl x.ok).cell 3
    have rJ4 : ∀ x : Held (Below w5.heap.size w5), x.w.cell? ⟨w.heap.size, 4, none⟩ = some (.int .i64 de) := fun x => (J_3.out.bl x.ok).cell 4
    have rJ5 : ∀ x : Held (Below w5.heap.size w5), x.w.cell? ⟨w.heap.size, 5, none⟩ = some (.int .i64 tries) := fun x => (J_3.out.bl x.ok).cell 5
    refine drawn_bars (S := (Below w5.heap.size w5)) [([0, 1, 2, 3, 4, 5, 6, 7, 8, 9, 10, 11, 13, 14, 16, 17], 12), ([], 15), ([], 18)] [19, 20] (by kernel_rfl) (by kernel_rfl) (by kernel_rfl) rfl (Below.refl _ _).drew ?_
    refine Phased.go ?_
    simp only [pick, List.map_cons, List.map_nil, List.getElem?_cons_zero, List.getElem?_cons_succ, Option.getD_some]
    repeat (go_big_quiet_step (fail))
    refine wpQuiet_nil ?_
    go_wp2_with fail
    refine (HMO.out _).mono ?_; rintro e w6 ⟨rfl, hl4⟩
    have hl5 := bl ((Below.refl w5.heap.size w5).drew) hl4
    go_wp2_with fail
    refine behind_normal ⟨(Below w5.heap.size w5), fun W h => h, hl5, ?_⟩
    refine Phased.go ?_
    simp only [pick, List.map_cons, List.map_nil, List.getElem?_cons_zero, List.getElem?_cons_succ, Option.getD_some]
    repeat (go_big_quiet_step (fail))
    refine wpQuiet_nil ?_
    go_wp2_with fail
    refine (HPL.out _).mono ?_; rintro e w7 ⟨rfl, hl6⟩
    have hl7 := bl hl5 hl6
    go_wp2_with fail
    refine behind_normal ⟨(Below w5.heap.size w5), fun W h => h, hl7, ?_⟩
    refine Phased.go ?_
    simp only [pick, List.map_cons, List.map_nil, List.getElem?_cons_zero, List.getElem?_cons_succ, Option.getD_some]
    repeat (go_big_quiet_step (fail))
    refine wpQuiet_nil ?_
    go_wp2_with fail
    refine (HMF.out _).mono ?_; rintro e w8 ⟨rfl, hl8⟩
    have hl9 := bl hl7 hl8
    go_wp2_with fail
    refine behind_normal ⟨(Below w5.heap.size w5), fun W h => h, hl9, ?_⟩
    refine Phased.end_ ?_
    have hne5 : Nonempty (Held (fun W => W = w8)) := ⟨⟨_, rfl⟩⟩
    simp only [pick, List.map_cons, List.map_nil, List.getElem?_cons_zero, List.getElem?_cons_succ, Option.getD_some]
    repeat (go_big_quiet_step (fail))
    refine wpQuiet_nil ?_
    clear hne5 hne rJ0 rJ1 rJ2 rJ3 rJ4 rJ5 HMO HMF HPL hl4 hl5 hl6 hl7 hl8 kmm
    have HFL := Lib.hid (Nat.lt_of_lt_of_le (Blk.lt F_3.out) hl9.size)
    have ee : Ex (fun _ => False) w5 w8 := Ex.of_below hl9
    have J_4 := Lib.hid (J_3.out.ex ee (fun h => h))
    have K_4 := Lib.hid (K_3.out.ex ee (fun h => h) (fun h => h))
    have O_4 := Lib.hid (O_3.out.ex ee (fun h => h) (fun h => h))
    have F_4 := Lib.hid (F_3.out.ex ee (fun h => h))
    have L_4 := Lib.hid (Ex.below L_3.out ee (fun k hk => hk.elim))
    clear ee J_3 K_3 O_3 F_3 L_3 hl9
    have hmk := make_words N (by have := HN.out; omega) w8
    go_upto_region 11 with fail
    clear hmk
    have ee : Ex (fun _ => False) w8 (w8.alloc (.cells ((zeros N).map (Value.int .u64)).toArray 43)) := (Ex.refl _ w8).alloc _
    have J_5 := Lib.hid (J_4.out.ex ee (fun h => h))
    have K_5 := Lib.hid (K_4.out.ex ee (fun h => h) (fun h => h))
    have O_5 := Lib.hid (O_4.out.ex ee (fun h => h) (fun h => h))
    have F_5 := Lib.hid (F_4.out.ex ee (fun h => h))
    have L_5 := Lib.hid (Ex.below L_4.out ee (fun k hk => hk.elim))
    have R_5 := Lib.hid (show Row (w8.alloc (.cells ((zeros N).map (Value.int .u64)).toArray 43)) w8.heap.size (zeros N) from Blk.new w8 43 _)
    clear ee J_4 K_4 O_4 F_4 L_4
    have S1 := Lib.hid (show w8.heap.size < (w8.alloc (.cells ((zeros N).map (Value.int .u64)).toArray 43)).heap.size by simp)
    generalize (w8.alloc (.cells ((zeros N).map (Value.int .u64)).toArray 43)) = w9 at *
    generalize w8.heap.size = hb at *
    obtain ⟨base, hbase⟩ : ∃ base, w9.heap.size = base := ⟨_, rfl⟩
    have ORD := Lib.hid (show w.heap.size < h ∧ h < g ∧ g < r ∧ r < o ∧ o < f ∧ f < hb ∧ hb < base from ⟨OR3.out.1, OR3.out.2.1, OR3.out.2.2.1, OR3.out.2.2.2.1, OR3.out.2.2.2.2, HFL.out, by rw [← hbase]; exact S1.out⟩)
    have HBS := Lib.hid hbase
    clear hbase S1 OR3 HFL
    have HRF := Lib.hid (show RfAt w9 base f (⟨ow, sq, fi, wo, de⟩ : Spot) tries (.slice none 0 0) [] RS.zero from ⟨F_5.out, OwnR.nil _ _, by have := ORD.out; omega, by rw [HBS.out]; exact Nat.le_refl _⟩)
    have HRI := Lib.hid (RInv.zero_ HMAY.out)
    have HWK := Lib.hid (WOk.zero (zeros (Int.toNat wo)))
    go_wp2_with fail
    obtain ⟨wk, rfl⟩ : ∃ wk : World, wk = w9 := ⟨_, rfl⟩
    go_loopw [14, 15, 16, 17] (fun iv s15 s16 s17 wr => ∃ (i : Nat) (x : RS) (got ws : List Int) (t : Int) (v : Value) (W : List Int), i ≤ na ∧ iv = .int .i64 i ∧ BankAt wr g h ws t ∧ Row wr hb ws ∧ ws.length = N ∧ RdAt wr o r (⟨ow, sq, fi, wo, de⟩ : Spot) tries x got ∧ RInv (⟨ow, sq, fi, wo, de⟩ : Spot) tries x got ∧ RfAt wr base f (⟨ow, sq, fi, wo, de⟩ : Spot) tries v W x ∧ WOk x got W ∧ Below w.heap.size w wr) (fun iv s15 s16 s17 _ => na - (intOf iv).toNat)
    case atStart => exact ⟨0, RS.zero, _, zeros N, 0, _, [], by omega, rfl, K_5.out, R_5.out, zeros_len _, O_5.out, HRI.out, HRF.out, HWK.out, L_5.out⟩
    case round =>
      clear K_5 R_5 O_5 F_5 L_5 HRF HRI HWK J_5 HBS
      obtain ⟨i, x, got, ws, t, v, W, hi, rfl, hbk, hrw, hln, hro, hri, hrf, hwk, hl⟩ := hrel
      have K0 := Lib.hid hbk
      have R0 := Lib.hid hrw
      have O0 := Lib.hid hro
      have F0 := Lib.hid hrf
      have L0 := Lib.hid hl
      have HRI := Lib.hid hri
      have HWK := Lib.hid hwk
      have HLN := Lib.hid hln
      clear hbk hrw hln hro hri hrf hwk hl
      by_cases hlt : i < na
      · have kd : decide ((i : Int) < (na : Int)) = true := decide_eq_true (by omega)
        have ki0 : (0 : Int) ≤ (i : Int) := by omega
        have ki1 : (i : Int) < (na : Int) := by omega
        have ki5 : (i : Int) ≤ 200 := by have := HNA.out; omega
        have HI := Lib.hid hlt
        clear hi hlt
        obtain ⟨bb, ob, rfl, hbb, hcb⟩ := HG.out (by have := HI.out; omega)
        have HBB := Lib.hid hbb
        have HCB := Lib.hid (hcb i HI.out)
        have p0 := (L0.out.cell (p := ⟨bb, ob + i * 3, none⟩) hbb).trans (hcb i HI.out).1
        have p1 := (L0.out.cell (p := ⟨bb, ob + i * 3 + 1, none⟩) hbb).trans (hcb i HI.out).2.1
        have HAI := Lib.hid (HAO.out i HI.out)
        generalize l i = a at *
        obtain ⟨rd, aat, ax⟩ := a
        simp only at p0 p1
        clear hcb hbb
        cases rd with
        | false =>
            by_cases ha0 : aat < 0
            · have kw0 : decide (aat ≥ 0) = false := decide_eq_false (by omega)
              clear ha0
              go_wp2_with fail
              exact ⟨⟨i + 1, x, got, ws, t, v, W, by have := HI.out; omega, by go_num, K0.out, R0.out, HLN.out, O0.out, HRI.out, F0.out, HWK.out, L0.out⟩, by have := HI.out; simp [intOf]; omega⟩
            by_cases ha1 : (N : Int) ≤ aat
            · have kw0 : decide (aat ≥ 0) = true := decide_eq_true (by omega)
              have kw1 : decide (aat < (N : Int)) = false := decide_eq_false (by omega)
              clear ha0 ha1
              go_wp2_with fail
              exact ⟨⟨i + 1, x, got, ws, t, v, W, by have := HI.out; omega, by go_num, K0.out, R0.out, HLN.out, O0.out, HRI.out, F0.out, HWK.out, L0.out⟩, by have := HI.out; simp [intOf]; omega⟩
            obtain ⟨j, rfl⟩ : ∃ j : Nat, aat = j := ⟨aat.toNat, by omega⟩
            have kw0 : decide ((j : Int) ≥ 0) = true := decide_eq_true (by omega)
            have kw1 : decide ((j : Int) < (N : Int)) = true := decide_eq_true (by omega)
            have HJ := Lib.hid (show j < N by omega)
            clear ha0 ha1
            go_upto_region 16 with fail
            clear p0 p1 kw0 kw1
            have hne : Nonempty (Held (Ex (fun k => k = g ∨ k = h) wr)) := ⟨⟨wr, (Ex.refl _ _)⟩⟩
            have pa1 : ∀ x : Held (Ex (fun k => k = g ∨ k = h) wr), x.w.cell? ⟨bb, ob + i * 3 + 1, none⟩ = some (.int .i64 (j : Int)) := fun x => ((Ex.below L0.out x.ok (fun b_ h_ => by have o_ := ORD.out; have h_ : b_ = g ∨ b_ = h := h_; omega)).cell (p := ⟨bb, ob + i * 3 + 1, none⟩) HBB.out).trans HCB.out.2.1
            have pa2 : ∀ x : Held (Ex (fun k => k = g ∨ k = h) wr), x.w.cell? ⟨bb, ob + i * 3 + 2, none⟩ = some (.int .u64 ax) := fun x => ((Ex.below L0.out x.ok (fun b_ h_ => by have o_ := ORD.out; have h_ : b_ = g ∨ b_ = h := h_; omega)).cell (p := ⟨bb, ob + i * 3 + 2, none⟩) HBB.out).trans HCB.out.2.2
            refine drawn_bars (S := (Ex (fun k => k = g ∨ k = h) wr)) [([0, 1, 2, 3, 4, 5, 6, 7, 8, 9, 10], 11)] [12] (by kernel_rfl) (by kernel_rfl) (by kernel_rfl) rfl (Ex.refl _ _).drew ?_
            refine Phased.go ?_
            simp only [pick, List.map_cons, List.map_nil, List.getElem?_cons_zero, List.getElem?_cons_succ, Option.getD_some]
            repeat (go_big_quiet_step (fail))
            refine wpQuiet_nil ?_
            go_wp2_with fail
            refine (Store_any g h ws t (j : Int) ax wr.drew (K0.out.drewN 1) HAI.out).mono ?_; rintro e w8 ⟨rfl, hb8, hx8⟩
            rw [errF_in (inW_nat ws j (by rw [HLN.out]; exact HJ.out))]
            rw [setF_in (inW_nat ws j (by rw [HLN.out]; exact HJ.out)), Int.toNat_natCast] at hb8
            have hx9 := (Ex.of_ex2 (T := fun k => k = g ∨ k = h) hx8 (.inl rfl) (.inr rfl)).undrew
            go_wp2_with fail
            refine behind_normal ⟨(Ex (fun k => k = g ∨ k = h) wr), fun W h => h, hx9, ?_⟩
            refine Phased.end_ ?_
            have hne5 : Nonempty (Held (fun W => W = w8)) := ⟨⟨_, rfl⟩⟩
            simp only [pick, List.map_cons, List.map_nil, List.getElem?_cons_zero, List.getElem?_cons_succ, Option.getD_some]
            repeat (go_big_quiet_step (fail))
            refine wpQuiet_nil ?_
            clear hne5 hne pa1 pa2 hx8
            have ee : Ex (fun k => k = g ∨ k = h) wr w8 := hx9
            have R_6 := Lib.hid (R0.out.ex ee (by have o_ := ORD.out; omega))
            have O_6 := Lib.hid (O0.out.ex ee (by have o_ := ORD.out; omega) (by have o_ := ORD.out; omega))
            have F_6 := Lib.hid (F0.out.ex ee (by have o_ := ORD.out; omega) (fun b_ h_ => by have o_ := ORD.out; have h_ : b_ = g ∨ b_ = h := h_; first | omega | (show _ ∨ _; omega)))
            have L_6 := Lib.hid (Ex.below L0.out ee (fun k hk => by have o_ := ORD.out; have hk : k = g ∨ k = h := hk; omega))
            have K_6 := Lib.hid (hb8)
            clear ee K0 R0 O0 F0 L0 hb8 hx9
            go_upto_region 18 with fail
            have kj0 : (0 : Int) ≤ (j : Int) := by omega
            have kj1 : (j : Int) < (N : Int) := by have := HJ.out; omega
            have hne : Nonempty (Held (Ex (fun k => k = hb) w8)) := ⟨⟨w8, (Ex.refl _ _)⟩⟩
            have pa1 : ∀ x : Held (Ex (fun k => k = hb) w8), x.w.cell? ⟨bb, ob + i * 3 + 1, none⟩ = some (.int .i64 (j : Int)) := fun x => ((Ex.below L_6.out x.ok (fun b_ h_ => by have o_ := ORD.out; have h_ : b_ = hb := h_; omega)).cell (p := ⟨bb, ob + i * 3 + 1, none⟩) HBB.out).trans HCB.out.2.1
            have pa2 : ∀ x : Held (Ex (fun k => k = hb) w8), x.w.cell? ⟨bb, ob + i * 3 + 2, none⟩ = some (.int .u64 ax) := fun x => ((Ex.below L_6.out x.ok (fun b_ h_ => by have o_ := ORD.out; have h_ : b_ = hb := h_; omega)).cell (p := ⟨bb, ob + i * 3 + 2, none⟩) HBB.out).trans HCB.out.2.2
            refine drawn_bars (S := (Ex (fun k => k = hb) w8)) [([0, 1, 2, 3, 4, 5, 6, 7, 8, 9, 10, 11], 12)] [] (by kernel_rfl) (by kernel_rfl) (by kernel_rfl) rfl (Ex.refl _ _).drew ?_
            refine Phased.go ?_
            simp only [pick, List.map_cons, List.map_nil, List.getElem?_cons_zero, List.getElem?_cons_succ, Option.getD_some]
            repeat (go_big_quiet_step (fail))
            refine wpQuiet_nil ?_
            clear hne pa1 pa2
            have qw := R_6.out.word (i := j) (by rw [HLN.out]; exact HJ.out)
            have fw := Blk.frozen R_6.out j
            go_wp2_with fail
            clear qw fw
            have bb9 := R_6.out.stored j ax
            have BB := Lib.hid bb9
            clear bb9
            have EE := Lib.hid (((Ex.refl (fun b => b = hb) w8).setCell (q := ⟨hb, j, none⟩) (.inl rfl) (.int .u64 ax)).drew)
            have ee : Ex (fun k => k = hb) w8 ((w8.setCell ⟨hb, j, none⟩ (.int .u64 ax)).drew) := EE.out
            have K_7 := Lib.hid (K_6.out.ex ee (by have o_ := ORD.out; omega) (by have o_ := ORD.out; omega))
            have O_7 := Lib.hid (O_6.out.ex ee (by have o_ := ORD.out; omega) (by have o_ := ORD.out; omega))
            have F_7 := Lib.hid (F_6.out.ex ee (by have o_ := ORD.out; omega) (fun b_ h_ => by have o_ := ORD.out; have h_ : b_ = hb := h_; first | omega | (show _ ∨ _; omega)))
            have L_7 := Lib.hid (Ex.below L_6.out ee (fun k hk => by have o_ := ORD.out; have hk : k = hb := hk; omega))
            have R_7 := Lib.hid (show Row ((w8.setCell ⟨hb, j, none⟩ (.int .u64 ax)).drew) hb _ from BB.out)
            clear ee K_6 R_6 O_6 F_6 L_6 BB
            generalize ((w8.setCell ⟨hb, j, none⟩ (.int .u64 ax)).drew) = w10 at *
            refine behind_normal ⟨fun W => W = w10, fun W hW => by rw [hW]; exact EE.out, rfl, ?_⟩
            refine Phased.end_ ?_
            simp only [pick, List.map_cons, List.map_nil, List.getElem?_cons_zero, List.getElem?_cons_succ, Option.getD_some]
            repeat (go_big_quiet_step (fail))
            refine wpQuiet_nil ?_
            clear EE
            go_wp2_with fail
            exact ⟨⟨i + 1, x, got, ws.set j ax, _, v, W, by have := HI.out; omega, by go_num, K_7.out, R_7.out, by rw [List.length_set]; exact HLN.out, O_7.out, HRI.out, F_7.out, HWK.out, L_7.out⟩, by have := HI.out; simp [intOf]; omega⟩
        | true =>
          have HF := Lib.hid (F9Step_any base f hb ws (⟨ow, sq, fi, wo, de⟩ : Spot) tries v W got x t wr F0.out R0.out HRI.out K0.out.fit HWK.out (by have := ORD.out; omega))
          rw [HLN.out] at HF
          have HI1 := Lib.hid (HRI.out.step ws t K0.out.fit)
          have HS := Lib.hid (fun W (hk : BankAt W g h ws t) (ho : RdAt W o r (⟨ow, sq, fi, wo, de⟩ : Spot) tries x got) => RStep_any g h o r ws t (⟨ow, sq, fi, wo, de⟩ : Spot) tries x got W hk ho HRI.out (by have := ORD.out; omega))
          go_wp2_with fail
          refine HF.out.mono ?_; rintro e w8 ⟨rfl, ⟨v1, W1, hrf, hwk⟩, hrw, hx8⟩
          generalize rdStep (⟨ow, sq, fi, wo, de⟩ : Spot) tries x got ws t = Q at *
          obtain ⟨x1, got1, t1⟩ := Q
          simp only at *
          have HWK1 := Lib.hid hwk
          clear hwk HF
          have K_a := Lib.hid (K0.out.ex hx8 (by have := ORD.out; omega) (by have := ORD.out; omega))
          have O_a := Lib.hid (O0.out.ex hx8 (by have := ORD.out; omega) (by have := ORD.out; omega))
          have R_a := Lib.hid hrw
          have F_a := Lib.hid hrf
          have L_a := Lib.hid (Ex.below L0.out hx8 (fun k hk => by have := ORD.out; have hk : k = f ∨ base ≤ k := hk; omega))
          clear K0 O0 R0 F0 L0 hx8 hrw hrf p0 p1 HWK
          go_upto_region 20 with fail
          have khh : (x1.how != x1.how) = false := by simp
          have kss : (x1.steps != x1.steps) = false := by simp
          have hne : Nonempty (Held (Ex (fun k => k = g ∨ k = h ∨ k = o ∨ k = r) w8)) := ⟨⟨w8, (Ex.refl _ _)⟩⟩
          have f0 : ∀ x : Held (Ex (fun k => k = g ∨ k = h ∨ k = o ∨ k = r) w8), x.w.cell? ⟨f, 0, none⟩ = some (.int .i64 ow) := fun x => (Blk.ex (RfAt.head F_a.out) x.ok (by have o_ := ORD.out; omega)).cell 0
          have f11 : ∀ x : Held (Ex (fun k => k = g ∨ k = h ∨ k = o ∨ k = r) w8), x.w.cell? ⟨f, 11, none⟩ = some (.int .i64 x1.how) := fun x => (Blk.ex (RfAt.head F_a.out) x.ok (by have o_ := ORD.out; omega)).cell 11
          have f12 : ∀ x : Held (Ex (fun k => k = g ∨ k = h ∨ k = o ∨ k = r) w8), x.w.cell? ⟨f, 12, none⟩ = some (.int .i64 x1.steps) := fun x => (Blk.ex (RfAt.head F_a.out) x.ok (by have o_ := ORD.out; omega)).cell 12
          refine drawn_bars (S := (Ex (fun k => k = g ∨ k = h ∨ k = o ∨ k = r) w8)) [([0, 1, 3, 4, 5, 6], 2), ([7, 8, 9, 11, 12, 13, 14], 10)] [15, 16] (by kernel_rfl) (by kernel_rfl) (by kernel_rfl) rfl (Ex.refl _ _).drew ?_
          refine Phased.go ?_
          simp only [pick, List.map_cons, List.map_nil, List.getElem?_cons_zero, List.getElem?_cons_succ, Option.getD_some]
          repeat (go_big_quiet_step (fail))
          refine wpQuiet_nil ?_
          go_wp2_with fail
          have hk8 : BankAt w8.drew g h ws t := K_a.out.drewN 1
          have ho8 : RdAt w8.drew o r (⟨ow, sq, fi, wo, de⟩ : Spot) tries x got := O_a.out.below (Below.refl _ _).drew
          refine (HS.out w8.drew hk8 ho8).mono ?_; rintro e w9 ⟨rfl, hk9, ho9, hx9⟩
          have hx10 := hx9.undrew
          go_wp2_with fail
          refine behind_normal ⟨(Ex (fun k => k = g ∨ k = h ∨ k = o ∨ k = r) w8), fun W h => h, hx10, ?_⟩
          refine Phased.go ?_
          simp only [pick, List.map_cons, List.map_nil, List.getElem?_cons_zero, List.getElem?_cons_succ, Option.getD_some]
          repeat (go_big_quiet_step (fail))
          refine wpQuiet_nil ?_
          go_wp2_with fail
          refine (RSteps_any o r (⟨ow, sq, fi, wo, de⟩ : Spot) tries x1 got1 w9 ho9).mono ?_; rintro e w10 ⟨rfl, rfl⟩
          go_wp2_with fail
          refine behind_normal ⟨(Ex (fun k => k = g ∨ k = h ∨ k = o ∨ k = r) w8), fun W h => h, hx10, ?_⟩
          refine Phased.end_ ?_
          have hne5 : Nonempty (Held (fun W => W = w9)) := ⟨⟨_, rfl⟩⟩
          simp only [pick, List.map_cons, List.map_nil, List.getElem?_cons_zero, List.getElem?_cons_succ, Option.getD_some]
          repeat (go_big_quiet_step (fail))
          refine wpQuiet_nil ?_
          clear hne5 hne f0 f11 f12 HS hx9 hk8 ho8
          have ee : Ex (fun k => k = g ∨ k = h ∨ k = o ∨ k = r) w8 w9 := hx10
          have R_7 := Lib.hid (R_a.out.ex ee (by have o_ := ORD.out; omega))
          have F_7 := Lib.hid (F_a.out.ex ee (by have o_ := ORD.out; omega) (fun b_ h_ => by have o_ := ORD.out; have h_ : b_ = g ∨ b_ = h ∨ b_ = o ∨ b_ = r := h_; first | omega | (show _ ∨ _; omega)))
          have L_7 := Lib.hid (Ex.below L_a.out ee (fun k hk => by have o_ := ORD.out; have hk : k = g ∨ k = h ∨ k = o ∨ k = r := hk; omega))
          have K_7 := Lib.hid (hk9)
          have O_7 := Lib.hid (ho9)
          clear ee K_a R_a O_a F_a L_a hx10 hk9 ho9
          go_upto_region 22 with fail
          go_cut [15, 16] from 82 to 212 (fun gv nv wx => ((x1.how = 1 ∧ ∃ q, gv = .slice (some ⟨q, 0, none⟩) got1.length got1.length ∧ nv = .int .u64 x1.gen ∧ Row wx q got1 ∧ w9.heap.size ≤ q) ∨ (x1.how ≠ 1 ∧ gv = .slice none 0 0 ∧ nv = .int .u64 0)) ∧ Below w9.heap.size w9 wx)
          case first =>
            by_cases hh : x1.how = 1
            · have HH := Lib.hid hh
              clear hh
              go_wp2_with fail
              refine (RGot_done o r (⟨ow, sq, fi, wo, de⟩ : Spot) tries x1 got1 w9 O_7.out HI1.out HH.out).mono ?_; rintro e w10 ⟨q, rfl, hq, hq2, hl⟩
              go_wp2_with fail
              go_meet
              exact ⟨.inl ⟨HH.out, q, rfl, rfl, hq, hq2⟩, hl⟩
            · have HH := Lib.hid hh
              clear hh
              go_wp2_with fail
              refine (RGot_not o r (⟨ow, sq, fi, wo, de⟩ : Spot) tries x1 got1 w9 O_7.out HH.out).mono ?_; rintro e w10 ⟨rfl, rfl⟩
              go_wp2_with fail
              go_meet
              exact ⟨.inr ⟨HH.out, rfl, rfl⟩, Below.refl _ _⟩
          case rest =>
            obtain ⟨hor, hbl⟩ := hcut
            have HOR := Lib.hid hor
            clear hor
            obtain ⟨wd, rfl⟩ : ∃ W : World, W = wc := ⟨_, rfl⟩
            have ee : Ex (fun _ => False) w9 wd := Ex.of_below hbl
            have K_8 := Lib.hid (K_7.out.ex ee (fun h => h) (fun h => h))
            have R_8 := Lib.hid (R_7.out.ex ee (fun h => h))
            have O_8 := Lib.hid (O_7.out.ex ee (fun h => h) (fun h => h))
            have F_8 := Lib.hid (F_7.out.ex ee (fun h => h) (fun b_ h_ => h_.elim))
            have L_8 := Lib.hid (Ex.below L_7.out ee (fun k hk => hk.elim))
            clear ee K_7 R_7 O_7 F_7 L_7 hbl
            have fq0 := (F_8.out.head).cell 0
            have fq11 := (F_8.out.head).cell 11
            simp only [frCs, List.getElem?_toArray, List.getElem?_cons_succ, List.getElem?_cons_zero] at fq0 fq11
            go_upto_if 163 with fail
            go_cut [] from 82 to 212 (fun wx => Below wd.heap.size wd wx)
            case first =>
              rcases HOR.out with ⟨hh, q, rfl, rfl, hq, hq2⟩ | ⟨hh, rfl, rfl⟩
              · have HQ := Lib.hid hq
                have kh : (x1.how == 1) = true := beq_iff_eq.2 hh
                have HH := Lib.hid hh
                clear hh hq hq2 HOR
                go_upto_region 24 with fail
                clear fq0 fq11
                have HWG := Lib.hid (HWK1.out.2 HH.out)
                have HGL := Lib.hid (show got1.length ≤ 64 by have h1 := HI1.out.len; have h2 := HI1.out.right.1; simp only at h1 h2; omega)
                have kgg : (x1.gen != x1.gen) = false := by simp
                have kbb : (x1.begun != x1.begun) = false := by simp
                have hne : Nonempty (Held (Below wd.heap.size wd)) := ⟨⟨wd, (Below.refl _ _)⟩⟩
                have f0 : ∀ x : Held (Below wd.heap.size wd), x.w.cell? ⟨f, 0, none⟩ = some (.int .i64 ow) := fun x => (Blk.bl (RfAt.head F_8.out) x.ok).cell 0
                have f8 : ∀ x : Held (Below wd.heap.size wd), x.w.cell? ⟨f, 8, none⟩ = some (.int .u64 x1.gen) := fun x => (Blk.bl (RfAt.head F_8.out) x.ok).cell 8
                have f9 : ∀ x : Held (Below wd.heap.size wd), x.w.cell? ⟨f, 9, none⟩ = some (v1) := fun x => (Blk.bl (RfAt.head F_8.out) x.ok).cell 9
                have f10 : ∀ x : Held (Below wd.heap.size wd), x.w.cell? ⟨f, 10, none⟩ = some (.int .i64 x1.begun) := fun x => (Blk.bl (RfAt.head F_8.out) x.ok).cell 10
                refine drawn_bars (S := (Below wd.heap.size wd)) [([0, 1, 2, 3, 4], 5), ([6, 7, 8, 9, 10, 11, 12, 13, 14, 15, 16, 18, 19, 20, 21], 17)] [22, 23] (by kernel_rfl) (by kernel_rfl) (by kernel_rfl) rfl (Below.refl _ _).drew ?_
                refine Phased.go ?_
                simp only [pick, List.map_cons, List.map_nil, List.getElem?_cons_zero, List.getElem?_cons_succ, Option.getD_some]
                repeat (go_big_quiet_step (fail))
                refine wpQuiet_nil ?_
                go_wp2_with fail
                refine (words_any _ _ got1 W1 wd.drew ((HQ.out.bl (Below.refl _ wd).drew).ints (by have := HGL.out; unfold maxLen; omega)) (OwnR.ints ((F_8.out.below (Below.refl _ wd).drew).own) (by rw [HWG.out]; have := HGL.out; unfold maxLen; omega)) (by have := HGL.out; omega)).mono ?_; rintro e w11 ⟨rfl, hl4⟩
                rw [decide_eq_true (show got1 = W1 from HWG.out.symm)]
                have hl5 := bl ((Below.refl wd.heap.size wd).drew) hl4
                go_wp2_with fail
                refine behind_normal ⟨(Below wd.heap.size wd), fun W h => h, hl5, ?_⟩
                refine Phased.go ?_
                simp only [pick, List.map_cons, List.map_nil, List.getElem?_cons_zero, List.getElem?_cons_succ, Option.getD_some]
                repeat (go_big_quiet_step (fail))
                refine wpQuiet_nil ?_
                go_wp2_with fail
                refine (RAt_any o r (⟨ow, sq, fi, wo, de⟩ : Spot) tries x1 got1 w11 (O_8.out.below hl5)).mono ?_; rintro e w12 ⟨rfl, rfl⟩
                rw [if_pos HH.out]
                go_wp2_with fail
                refine behind_normal ⟨(Below wd.heap.size wd), fun W h => h, hl5, ?_⟩
                refine Phased.end_ ?_
                have hne5 : Nonempty (Held (fun W => W = w11)) := ⟨⟨_, rfl⟩⟩
                simp only [pick, List.map_cons, List.map_nil, List.getElem?_cons_zero, List.getElem?_cons_succ, Option.getD_some]
                repeat (go_big_quiet_step (fail))
                refine wpQuiet_nil ?_
                clear hne5 hne f0 f8 f9 f10 hl4
                go_wp2_with fail
                go_meet
                exact hl5
              · have kh : (x1.how == 1) = false := beq_eq_false_iff_ne.2 hh
                have HH := Lib.hid hh
                clear hh HOR
                go_wp2_with fail
                refine (RAt_any o r (⟨ow, sq, fi, wo, de⟩ : Spot) tries x1 got1 wd O_8.out).mono ?_; rintro e w12 ⟨rfl, rfl⟩
                rw [if_neg HH.out]
                go_wp2_with fail
                go_meet
                exact Below.refl _ _
            case rest =>
              clear fq0 fq11 HOR
              have ee : Ex (fun _ => False) wd wc := Ex.of_below hcut
              have K_9 := Lib.hid (K_8.out.ex ee (fun h => h) (fun h => h))
              have R_9 := Lib.hid (R_8.out.ex ee (fun h => h))
              have O_9 := Lib.hid (O_8.out.ex ee (fun h => h) (fun h => h))
              have F_9 := Lib.hid (F_8.out.ex ee (fun h => h) (fun b_ h_ => h_.elim))
              have L_9 := Lib.hid (Ex.below L_8.out ee (fun k hk => hk.elim))
              clear ee K_8 R_8 O_8 F_8 L_8 hcut
              go_wp2_with fail
              obtain ⟨wk3, rfl⟩ : ∃ wk : World, wk = wc := ⟨_, rfl⟩
              go_loopw [17] (fun jv wr => ∃ (j : Nat), j ≤ N ∧ jv = .int .i64 j ∧ BankAt wr g h ws t1 ∧ Row wr hb ws ∧ RdAt wr o r (⟨ow, sq, fi, wo, de⟩ : Spot) tries x1 got1 ∧ RfAt wr base f (⟨ow, sq, fi, wo, de⟩ : Spot) tries v1 W1 x1 ∧ Below w.heap.size w wr) (fun jv _ => N - (intOf jv).toNat)
              case atStart => exact ⟨0, by omega, rfl, K_9.out, R_9.out, O_9.out, F_9.out, L_9.out⟩
              case round =>
                clear K_9 R_9 O_9 F_9 L_9
                obtain ⟨j, hj, rfl, hbk, hrw, hro, hrf, hl⟩ := hrel
                have K0 := Lib.hid hbk
                have R0 := Lib.hid hrw
                have O0 := Lib.hid hro
                have F0 := Lib.hid hrf
                have L0 := Lib.hid hl
                clear hbk hrw hro hrf hl
                by_cases hjN : j < N
                · have kj : decide ((j : Int) < (N : Int)) = true := decide_eq_true (by omega)
                  have kj0 : (0 : Int) ≤ (j : Int) := by omega
                  have kj1 : (j : Int) < (N : Int) := by omega
                  have kj5 : (j : Int) ≤ 60 := by have := HN.out; omega
                  have HJ := Lib.hid (show j < ws.length by rw [HLN.out]; exact hjN)
                  clear hj hjN
                  go_upto_region 31 with fail
                  have kx : (nth ws j != nth ws j) = false := by simp
                  have hne : Nonempty (Held (Below wr.heap.size wr)) := ⟨⟨wr, (Below.refl _ _)⟩⟩
                  have pw : ∀ x : Held (Below wr.heap.size wr), x.w.cell? ⟨hb, j, none⟩ = some (.int .u64 (nth ws j)) := fun x => (R0.out.bl x.ok).word HJ.out
                  refine drawn_bars (S := (Below wr.heap.size wr)) [([0, 1, 3, 4, 5, 6], 2)] [7] (by kernel_rfl) (by kernel_rfl) (by kernel_rfl) rfl (Below.refl _ _).drew ?_
                  refine Phased.go ?_
                  simp only [pick, List.map_cons, List.map_nil, List.getElem?_cons_zero, List.getElem?_cons_succ, Option.getD_some]
                  repeat (go_big_quiet_step (fail))
                  refine wpQuiet_nil ?_
                  go_wp2_with fail
                  refine (Peek_any g h ws t1 (j : Int) wr.drew (K0.out.drewN 1)).mono ?_; rintro e w9 ⟨rfl, hb9⟩
                  rw [wordF_nat ws j HJ.out]
                  have hb8 := bl ((Below.refl wr.heap.size wr).drew) hb9
                  go_wp2_with fail
                  refine behind_normal ⟨(Below wr.heap.size wr), fun W h => h, hb8, ?_⟩
                  refine Phased.end_ ?_
                  have hne5 : Nonempty (Held (fun W => W = w9)) := ⟨⟨_, rfl⟩⟩
                  simp only [pick, List.map_cons, List.map_nil, List.getElem?_cons_zero, List.getElem?_cons_succ, Option.getD_some]
                  repeat (go_big_quiet_step (fail))
                  refine wpQuiet_nil ?_
                  clear hne5 hne pw hb9
                  have ee : Ex (fun _ => False) wr w9 := Ex.of_below hb8
                  have K_10 := Lib.hid (K0.out.ex ee (fun h => h) (fun h => h))
                  have R_10 := Lib.hid (R0.out.ex ee (fun h => h))
                  have O_10 := Lib.hid (O0.out.ex ee (fun h => h) (fun h => h))
                  have F_10 := Lib.hid (F0.out.ex ee (fun h => h) (fun b_ h_ => h_.elim))
                  have L_10 := Lib.hid (Ex.below L0.out ee (fun k hk => hk.elim))
                  clear ee K0 R0 O0 F0 L0 hb8
                  go_wp2_with fail
                  go_roundw
                  case rel => exact ⟨j + 1, by have := HJ.out; have := HLN.out; omega, by go_num, K_10.out, R_10.out, O_10.out, F_10.out, L_10.out⟩
                  case measure => have := HJ.out; have := HLN.out; simp [intOf]; omega
                · obtain rfl : j = N := by omega
                  have kj : decide ((j : Int) < (j : Int)) = false := decide_eq_false (by omega)
                  go_wp2_with fail
                  exact ⟨⟨i + 1, x1, got1, ws, t1, v1, W1, by have := HI.out; omega, by go_num, K0.out, R0.out, HLN.out, O0.out, HI1.out, F0.out, HWK1.out, L0.out⟩, by have := HI.out; simp [intOf]; omega⟩
      · obtain rfl : i = na := by omega
        have kd : decide ((i : Int) < (i : Int)) = false := decide_eq_false (by omega)
        go_wp2_with fail
        refine (awake_any _).mono ?_; rintro e wz ⟨rfl, hb⟩
        have LZ := Lib.hid (bl L0.out hb)
        clear hb
        go_wp2_with fail
        go_ret
        exact ⟨rfl, LZ.out⟩
end Go.Proofs.Ytihogagnjikghaa.Bank
