/-
  BankMost: the law's walk. No condition. By an AI agent.
-/
import Derived.Test.YtabhkplcigdafaaLockW
import Derived.Test.YtabhkplcigdafaaMost
import Derived.Deep.OwnRows
import Derived.Deep.RegionWith
namespace Go.Proofs.Ytabhkplcigdafaa.Bank
set_option linter.unusedVariables false
set_option linter.unusedSimpArgs false
open Go Go.RowKit Go.Proofs.Ytabhkplcigdafaa.Base Go.Deep Go.Proofs.Ytabhkplcigdafaa.Most

theorem row_bl' {w w' : World} {b t n : Nat} {f : Nat → Value} (h : w.rowIs b t n f) (hb : Below w.heap.size w w') : w'.rowIs b t n f := h.of_block (hb.block _ h.lt)
theorem row_ex' {w w' : World} {b t n g k : Nat} {f : Nat → Value} (h : w.rowIs b t n f) (hb : Ex2 g k w w') (h1 : b ≠ g) (h2 : b ≠ k) : w'.rowIs b t n f := h.of_block (hb.block _ h.lt h1 h2)
theorem pick_k (p : Int) : ∃ k : Nat, k < 4 ∧ (p.tmod 4 + 4) % 4 = (k : Int) ∧ (p.tmod 4 + 4).tmod 4 = (k : Int) ∧ -3 ≤ p.tmod 4 ∧ p.tmod 4 ≤ 3 := by
  have h1 : -3 ≤ p.tmod 4 ∧ p.tmod 4 ≤ 3 := by
    rcases Int.lt_or_le p 0 with h | h
    · have h2 := Int.tmod_nonneg (a := -p) 4 (by omega)
      have h3 := Int.tmod_lt_of_pos (-p) (show (0 : Int) < 4 by omega)
      rw [Int.neg_tmod] at h2 h3
      omega
    · have h2 := Int.tmod_nonneg (a := p) 4 h
      have h3 := Int.tmod_lt_of_pos p (show (0 : Int) < 4 by omega)
      omega
  obtain ⟨h1, h2⟩ := h1
  have h5 : (p.tmod 4 + 4).tmod 4 = (p.tmod 4 + 4) % 4 := Int.tmod_eq_emod_of_nonneg (by omega)
  exact ⟨((p.tmod 4 + 4) % 4).toNat, by omega, by omega, by rw [h5]; omega, h1, h2⟩
/-- the four blocks' state -/
structure MSt (w wr : World) (g h X S L : Nat) (x : Nat → Int) (W : Int) (saw : Nat → Int) (ld : Nat → Bool) (t : Int) : Prop where
  own : Own w wr g h [W] t
  hX : wr.rowIs X 35 4 (fun j => .int .u64 (x j))
  hS : wr.rowIs S 35 4 (fun j => .int .u64 (saw j))
  hL : wr.rowIs L 37 4 (fun j => .bool (ld j))
structure Apart (w : World) (g h X S L : Nat) : Prop where
  n1 : X ≠ g
  n2 : X ≠ h
  n3 : S ≠ g
  n4 : S ≠ h
  n5 : L ≠ g
  n6 : L ≠ h
  n7 : X ≠ S
  n8 : X ≠ L
  n9 : S ≠ L
  b2 : w.heap.size ≤ S
  b3 : w.heap.size ≤ L
section
variable {w a b : World} {g h X S L : Nat} {x : Nat → Int} {W W' : Int} {saw : Nat → Int} {ld : Nat → Bool} {t t' : Int}
theorem MSt.go (p : MSt w a g h X S L x W saw ld t) (q : Below a.heap.size a b) : MSt w b g h X S L x W saw ld t := ⟨p.own.go q, row_bl' p.hX q, row_bl' p.hS q, row_bl' p.hL q⟩
theorem MSt.step (p : MSt w a g h X S L x W saw ld t) (ap : Apart w g h X S L) (q : BankAt b g h [W'] t') (r : Ex2 g h a b) : MSt w b g h X S L x W' saw ld t' :=
  ⟨p.own.step q r, row_ex' p.hX r ap.n1 ap.n2, row_ex' p.hS r ap.n3 ap.n4, row_ex' p.hL r ap.n5 ap.n6⟩
theorem MSt.setSaw (p : MSt w a g h X S L x W saw ld t) (ap : Apart w g h X S L) (k : Nat) (v : Int) : MSt w (a.setCell ⟨S, k, none⟩ (.int .u64 v)) g h X S L x W (upd saw k v) ld t :=
  ⟨p.own.far ap.b2 ap.n3 ap.n4 _ _, p.hX.setOther (a := ⟨S, k, none⟩) ap.n7 _, (p.hS.set k _).congr fun j _ => by
    unfold upd; split <;> rfl, p.hL.setOther (a := ⟨S, k, none⟩) (Ne.symm ap.n9) _⟩
theorem MSt.setLd (p : MSt w a g h X S L x W saw ld t) (ap : Apart w g h X S L) (k : Nat) (v : Bool) : MSt w (a.setCell ⟨L, k, none⟩ (.bool v)) g h X S L x W saw (upd ld k v) t :=
  ⟨p.own.far ap.b3 ap.n5 ap.n6 _ _, p.hX.setOther (a := ⟨L, k, none⟩) ap.n8 _, p.hS.setOther (a := ⟨L, k, none⟩) ap.n9 _, (p.hL.set k _).congr fun j _ => by
    unfold upd; split <;> rfl⟩
end

set_option maxRecDepth 100000 in
set_option maxHeartbeats 8000000 in
theorem BankMost_walk (a0 a1 a2 a3 : Int) (r0 : 0 ≤ a0 ∧ a0 ≤ 18446744073709551615) (r1 : 0 ≤ a1 ∧ a1 ≤ 18446744073709551615) (r2 : 0 ≤ a2 ∧ a2 ≤ 18446744073709551615) (r3 : 0 ≤ a3 ∧ a3 ≤ 18446744073709551615)
    (v : Value) (ps : List Int) (w : World) (hi : Ints w .i64 v ps) :
    Calls Try.prog 4 #[.agg #[.int .u64 a0, .int .u64 a1, .int .u64 a2, .int .u64 a3], v] w fun e w' => e = .returned (.bool true) ∧ Below w.heap.size w w' := by
  obtain ⟨A, c, rfl, hl, hx⟩ := hi.form
  have HX := Lib.hid hx
  unfold maxLen at hl
  clear hx hi
  have HA := Lib.hid (show ∀ j, j < 4 → 0 ≤ nth [a0, a1, a2, a3] j ∧ nth [a0, a1, a2, a3] j ≤ 18446744073709551615 from fun j hj => by
    match j, hj with
    | 0, _ => exact r0
    | 1, _ => exact r1
    | 2, _ => exact r2
    | 3, _ => exact r3)
  have hrow0 : (w.alloc (.cells #[.int .u64 a0, .int .u64 a1, .int .u64 a2, .int .u64 a3] 35)).rowIs w.heap.size 35 4 (fun j => .int .u64 (nth [a0, a1, a2, a3] j)) :=
    World.rowIs_alloc w #[.int .u64 a0, .int .u64 a1, .int .u64 a2, .int .u64 a3] 35 _ (fun j hj => by
      match j, hj with
      | 0, _ => rfl
      | 1, _ => rfl
      | 2, _ => rfl
      | 3, _ => rfl)
  have HR0 := Lib.hid hrow0
  clear hrow0 r0 r1 r2 r3
  by_cases hn : ps.length ≤ 60
  · go_enter Try.func4, Try.ntmps4
    have hw0 : Below w.heap.size w (w.alloc (.cells #[.int .u64 a0, .int .u64 a1, .int .u64 a2, .int .u64 a3] 35)) := (Below.refl _ _).alloc (Nat.le_refl _) _
    have hsz0 : w.heap.size < (w.alloc (.cells #[.int .u64 a0, .int .u64 a1, .int .u64 a2, .int .u64 a3] 35)).heap.size := by simp
    go_wp2_with fail
    generalize w.alloc (.cells #[.int .u64 a0, .int .u64 a1, .int .u64 a2, .int .u64 a3] 35) = w0 at *
    refine (New_in 1 (by omega) (by omega) _).mono ?_; rintro e w1 ⟨rfl, hb1, hl1, hs1⟩
    have O1 := Lib.hid (show Own w w1 (w0.heap.size + 1) w0.heap.size [0] 0 from ⟨hb1, bl hw0 hl1, by omega, by omega⟩)
    have HR1 := Lib.hid (row_bl' HR0.out hl1)
    have HS1 := Lib.hid hs1
    generalize nth [a0, a1, a2, a3] = x at *
    have AP := Lib.hid (show Apart w (w0.heap.size + 1) w0.heap.size w.heap.size w1.heap.size (w1.heap.size + 1) from ⟨by omega, by omega, by omega, by omega, by omega, by omega, by omega, by omega, by omega, by omega, by omega⟩)
    clear hb1 hl1 hs1 hw0 hsz0
    generalize w0.heap.size + 1 = g at *
    obtain ⟨h, hh⟩ : ∃ h, h = w0.heap.size := ⟨_, rfl⟩
    rw [← hh] at O1 AP
    clear hh
    have HM := Lib.hid (peak_ge x 4)
    go_wp2_with fail
    have hst0 : MSt w ((w1.alloc (.cells #[.int .u64 0, .int .u64 0, .int .u64 0, .int .u64 0] 35)).alloc (.cells #[.bool false, .bool false, .bool false, .bool false] 37)) g h w.heap.size w1.heap.size (w1.heap.size + 1) x 0 (fun _ => 0) (fun _ => false) 0 := by
      refine ⟨(O1.out.go ((Below.refl _ _).alloc (Nat.le_refl _) _)).go ((Below.refl _ _).alloc (Nat.le_refl _) _), (HR1.out.alloc _).alloc _, World.rowIs.alloc (World.rowIs_alloc w1 #[.int .u64 0, .int .u64 0, .int .u64 0, .int .u64 0] 35 _ (fun j hj => ?_)) _, ?_⟩
      · match j, hj with
        | 0, _ => rfl
        | 1, _ => rfl
        | 2, _ => rfl
        | 3, _ => rfl
      · have := World.rowIs_alloc (w1.alloc (.cells #[.int .u64 0, .int .u64 0, .int .u64 0, .int .u64 0] 35)) #[.bool false, .bool false, .bool false, .bool false] 37 (fun _ => .bool false) (fun j hj => by
          match j, hj with
          | 0, _ => rfl
          | 1, _ => rfl
          | 2, _ => rfl
          | 3, _ => rfl)
        simpa using this
    generalize ((w1.alloc (.cells #[.int .u64 0, .int .u64 0, .int .u64 0, .int .u64 0] 35)).alloc (.cells #[.bool false, .bool false, .bool false, .bool false] 37)) = w2 at *
    have hsL : w1.heap.size < w1.heap.size + 1 := by omega
    generalize hSS : w1.heap.size = S at *
    generalize hLL : S + 1 = L at *
    clear hSS hLL hsL
    have MS := Lib.hid hst0
    clear hst0
    go_loop [9, 10] (fun m j => ∃ k : Nat, k ≤ 4 ∧ j = .int .i64 k ∧ m = .int .u64 (peak x k)) (fun _ j => 4 - (intOf j).toNat)
    case atStart => exact ⟨0, by omega, rfl, rfl⟩
    case round =>
      obtain ⟨k, hk, rfl, rfl⟩ := hrel
      by_cases hlk : k < 4
      · have cX := MS.out.hX.cell hlk
        by_cases hgt : x k > peak x k
        · have HP := Lib.hid (show peak x (k + 1) = x k from if_pos hgt)
          generalize x k = xk at *
          generalize peak x k = pk at *
          go_wp2_with fail
          go_round
          case rel => exact ⟨k + 1, by omega, by go_num, by rw [HP.out]⟩
          case measure => simp [intOf]; omega
        · have HP := Lib.hid (show peak x (k + 1) = peak x k from if_neg hgt)
          generalize x k = xk at *
          generalize peak x k = pk at *
          go_wp2_with fail
          go_round
          case rel => exact ⟨k + 1, by omega, by go_num, by rw [HP.out]⟩
          case measure => simp [intOf]; omega
      · have hk4 : k = 4 := by omega
        subst hk4
        generalize hMM : peak x 4 = M at *
        have HMM := Lib.hid hMM
        clear hMM
        go_wp2_with fail
        go_loopw [11] (fun a wr => ∃ i : Nat, i ≤ ps.length + 40 ∧ a = .int .i64 i ∧ ∃ W saw ld t, MSt w wr g h w.heap.size S L x W saw ld t ∧ MInv ps.length i x M W saw ld) (fun a _ => ps.length + 40 - (intOf a).toNat)
        case atStart => exact ⟨0, by omega, rfl, _, _, _, _, MS.out, MInv.start _ _ _ HM.out.1⟩
        case round =>
          obtain ⟨i, hin, rfl, W, saw, ld, t, hst, hinv⟩ := hrel
          have M1 := Lib.hid hst
          have HI := Lib.hid hinv
          have htop := hinv.top
          clear hst hinv
          by_cases hlt : i < ps.length + 40
          · have hph : (i < ps.length ∧ ∃ k : Nat, k < 4 ∧ ((nth ps i).tmod 4 + 4) % 4 = (k : Int) ∧ ((nth ps i).tmod 4 + 4).tmod 4 = (k : Int) ∧ -3 ≤ (nth ps i).tmod 4 ∧ (nth ps i).tmod 4 ≤ 3 ∧ (ps.length ≤ i → k = (i - ps.length) / 10)) ∨
                (¬ i < ps.length ∧ ∃ k : Nat, k < 4 ∧ ((i : Int) - (ps.length : Int)) / 10 = (k : Int) ∧ ((i : Int) - (ps.length : Int)).tdiv 10 = (k : Int) ∧ -3 ≤ (nth ps i).tmod 4 ∧ (nth ps i).tmod 4 ≤ 3 ∧ (ps.length ≤ i → k = (i - ps.length) / 10)) := by
              obtain ⟨k, hk, e1, e2, b1, b2⟩ := pick_k (nth ps i)
              by_cases hi : i < ps.length
              · exact .inl ⟨hi, k, hk, e1, e2, b1, b2, fun h => by omega⟩
              · refine .inr ⟨hi, (i - ps.length) / 10, by omega, by omega, ?_, b1, b2, fun _ => rfl⟩
                rw [Int.tdiv_eq_ediv_of_nonneg (by omega)]; omega
            have hcp : i < ps.length → ∃ b o, A = some ⟨b, o, none⟩ ∧ b < w.heap.size ∧ wr.cell? ⟨b, o + i, none⟩ = some (.int .i64 (nth ps i)) := by
              intro hi
              obtain ⟨b, o, e, hb, hc⟩ := HX.out (List.ne_nil_of_length_pos (by omega))
              exact ⟨b, o, e, hb, (M1.out.own.below.cell (p := ⟨b, o + i, none⟩) hb).trans (hc i hi)⟩
            have HCP := Lib.hid hcp
            clear hcp
            rcases hph with ⟨hi, k, hk, e1, e2, b1, b2, hki⟩ | ⟨hi, k, hk, e1, e2, b1, b2, hki⟩
            all_goals have HKI := Lib.hid hki
            all_goals clear hki
            · obtain ⟨b, o, rfl, hb, cp⟩ := HCP.out hi
              have cL := M1.out.hL.cell hk
              have fL := M1.out.hL.frozen k
              generalize nth ps i = pi at *
              have hMW : ¬ W > M := by omega
              have hXM := Lib.hid (HM.out.2 k hk)
              have cX := M1.out.hX.cell hk
              have cS := M1.out.hS.cell hk
              have fS := M1.out.hS.frozen k
              have ik0 : (0 : Int) ≤ (k : Int) := by omega
              have ik1 : (k : Int) < 4 := by omega
              cases hl : ld k with
              | false =>
                rw [hl] at cL
                have INV := Lib.hid (HI.out.load hk HKI.out hl)
                clear hl cX cS fS
                go_wp2_with fail
                refine (Load_any g h [W] t 0 _ M1.out.own.bank).mono ?_; rintro e w4 ⟨rfl, hb4, he4⟩
                rw [(one_word W).1, (one_word W).2]
                have M4 := Lib.hid (M1.out.step AP.out hb4 he4)
                have M5 := Lib.hid ((M4.out.setSaw AP.out k W).setLd AP.out k true)
                have cS4 := M4.out.hS.cell hk
                have fS4 := M4.out.hS.frozen k
                have cL4 := M4.out.hL.cell hk
                have fL4 := M4.out.hL.frozen k
                have cL4' := (M4.out.setSaw AP.out k W).hL.cell hk
                have fL4' := (M4.out.setSaw AP.out k W).hL.frozen k
                clear hb4 he4 cL fL
                go_wp2_with fail
                refine (Peek_any g h _ _ 0 _ M5.out.own.bank).mono ?_; rintro e w8 ⟨rfl, hb8⟩
                rw [(one_word _).1]
                have M8 := Lib.hid (M5.out.go hb8)
                clear hb8
                go_wp2_with fail
                go_roundw
                case rel => exact ⟨i + 1, by omega, by go_num, _, _, _, _, M8.out, INV.out⟩
                case measure => simp [intOf]; omega
              | true =>
                rw [hl] at cL
                by_cases hx : saw k < x k
                · have hx' := Lib.hid hx
                  have HXR := Lib.hid (HA.out k hk)
                  go_wp2_with fail
                  go_quiet (fail)
                  have M2 := Lib.hid (M1.out.go (below_drewN (Below.refl _ _) nq))
                  clear cX cS fS cL fL
                  generalize wr.drewN nq = wq at *
                  have cX := M2.out.hX.cell hk
                  have cS := M2.out.hS.cell hk
                  cases hq : (W == saw k) with
                  | true =>
                    have INV := Lib.hid (HI.out.hit hk HKI.out hx'.out (by simpa using (beq_iff_eq.1 hq).symm) hXM.out)
                    have HQ := Lib.hid hq
                    have hl' := Lib.hid hl
                    clear hq hl
                    go_wp2_with fail
                    go_region_with ((go_at_call 12; refine (CAS_any g h [W] t 0 (saw k) (x k) _ (M2.out.go (Below.refl _ _).drew).own.bank HXR.out).mono ?_; rintro e w4 ⟨rfl, hb4, he4⟩; rw [one_cas, (one_word W).2, HQ.out]; rw [one_cas, HQ.out, if_pos rfl, one_set] at hb4; have M4 := Lib.hid ((M2.out.go (Below.refl _ _).drew).step AP.out hb4 he4)))
                    all_goals
                      clear hb4 he4 cX cS
                      have cX : ∀ y : Held (Below w4.heap.size w4), y.w.cell? ⟨w.heap.size, k, none⟩ = some (.int .u64 (x k)) := fun y => (M4.out.go y.ok).hX.cell hk
                      have HPK := Lib.hid (show ∀ V, Below w4.heap.size w4 V → Calls Try.prog 13 #[.pointer (some ⟨g, 0, none⟩), .int .i64 0] V fun e w' => e = .returned (.int .u64 (x k)) ∧ Below w4.heap.size w4 w' from fun V hV => by
                        have := Peek_any g h _ _ 0 V (M4.out.go hV).own.bank
                        rw [(one_word _).1] at this
                        exact this.mono fun _ _ ⟨he, hb⟩ => ⟨he, bl hV hb⟩)
                      have hnonempty : Nonempty (Held (Below w4.heap.size w4)) := ⟨⟨w4, Below.refl _ _⟩⟩
                      have hxx : (x k == x k) = true := by simp
                      have hxm : ¬ x k > M := by have := hXM.out; omega
                      go_wp2_with fail
                      refine drawn_held (S := Below w4.heap.size w4) (by kernel_rfl) (by kernel_rfl) (Below.refl _ _).drew ?_
                      repeat (go_big_quiet_step ((go_at_call 13; exact held_call HPK.out)))
                      refine wpQuiet_nil ?_
                      intro w5 hw'; obtain ⟨⟨w5', hb5⟩, hw''⟩ := hw'; dsimp only at hw''; subst hw''
                      have M5 := Lib.hid (M4.out.go hb5)
                      have M6 := Lib.hid (M5.out.setLd AP.out k false)
                      have cL5 := M5.out.hL.cell hk
                      have fL5 := M5.out.hL.frozen k
                      clear hb5 cX
                      go_wp2_with fail
                      refine (Peek_any g h _ _ 0 _ M6.out.own.bank).mono ?_; rintro e w8 ⟨rfl, hb8⟩
                      rw [(one_word _).1]
                      have M8 := Lib.hid (M6.out.go hb8)
                      clear hb8
                      go_wp2_with fail
                      go_roundw
                      case rel => exact ⟨i + 1, by omega, by go_num, _, _, _, _, M8.out, INV.out⟩
                      case measure => simp [intOf]; omega
                  | false =>
                    have INV := Lib.hid (HI.out.miss hk HKI.out hl (by intro e; rw [e] at hq; simp at hq))
                    have HQ := Lib.hid hq
                    have hl' := Lib.hid hl
                    clear hq hl
                    rcases Bool.eq_false_or_eq_true (W == x k) with hwx | hwx
                    all_goals
                      go_wp2_with fail
                      go_region_with ((go_at_call 12; refine (CAS_any g h [W] t 0 (saw k) (x k) _ (M2.out.go (Below.refl _ _).drew).own.bank HXR.out).mono ?_; rintro e w4 ⟨rfl, hb4, he4⟩; rw [one_cas, (one_word W).2, HQ.out]; rw [one_cas, HQ.out, if_neg Bool.false_ne_true] at hb4; have M4 := Lib.hid ((M2.out.go (Below.refl _ _).drew).step AP.out hb4 he4)))
                      all_goals
                        clear hb4 he4 cX cS
                        have cX : ∀ y : Held (Below w4.heap.size w4), y.w.cell? ⟨w.heap.size, k, none⟩ = some (.int .u64 (x k)) := fun y => (M4.out.go y.ok).hX.cell hk
                        have HPK := Lib.hid (show ∀ V, Below w4.heap.size w4 V → Calls Try.prog 13 #[.pointer (some ⟨g, 0, none⟩), .int .i64 0] V fun e w' => e = .returned (.int .u64 (W)) ∧ Below w4.heap.size w4 w' from fun V hV => by
                          have := Peek_any g h _ _ 0 V (M4.out.go hV).own.bank
                          rw [(one_word _).1] at this
                          exact this.mono fun _ _ ⟨he, hb⟩ => ⟨he, bl hV hb⟩)
                        have hnonempty : Nonempty (Held (Below w4.heap.size w4)) := ⟨⟨w4, Below.refl _ _⟩⟩
                        go_wp2_with fail
                        conv => { enter [4]; simp only [Act.put, List.getElem_toArray, List.getElem_cons_zero, List.getElem_cons_succ, List.setIfInBounds_toArray, List.set_cons_zero, List.set_cons_succ] }
                        refine drawn_held (S := Below w4.heap.size w4) (by kernel_rfl) (by kernel_rfl) (Below.refl _ _).drew ?_
                        repeat (go_big_quiet_step ((go_at_call 13; exact held_call HPK.out)))
                        refine wpQuiet_nil ?_
                        intro w5 hw'; obtain ⟨⟨w5', hb5⟩, hw''⟩ := hw'; dsimp only at hw''; subst hw''
                        have M5 := Lib.hid (M4.out.go hb5)
                        have M6 := Lib.hid (M5.out.setLd AP.out k false)
                        have cL5 := M5.out.hL.cell hk
                        have fL5 := M5.out.hL.frozen k
                        clear hb5 cX
                        go_wp2_with fail
                        refine (Peek_any g h _ _ 0 _ M6.out.own.bank).mono ?_; rintro e w8 ⟨rfl, hb8⟩
                        rw [(one_word _).1]
                        have M8 := Lib.hid (M6.out.go hb8)
                        clear hb8
                        go_wp2_with fail
                        go_roundw
                        case rel => exact ⟨i + 1, by omega, by go_num, _, _, _, _, M8.out, INV.out⟩
                        case measure => simp [intOf]; omega
                · have INV := Lib.hid (HI.out.idle hk HKI.out (show x k ≤ saw k by omega))
                  go_wp2_with fail
                  go_quiet (fail)
                  have M2 := Lib.hid (M1.out.go (below_drewN (Below.refl _ _) nq))
                  clear cX cS fS cL fL
                  go_wp2_with fail
                  refine (Peek_any g h _ _ 0 _ M2.out.own.bank).mono ?_; rintro e w8 ⟨rfl, hb8⟩
                  rw [(one_word _).1]
                  have M8 := Lib.hid (M2.out.go hb8)
                  clear hb8
                  go_wp2_with fail
                  go_roundw
                  case rel => exact ⟨i + 1, by omega, by go_num, _, _, _, _, M8.out, INV.out⟩
                  case measure => simp [intOf]; omega
            · have cL := M1.out.hL.cell hk
              have fL := M1.out.hL.frozen k
              clear e2
              have hMW : ¬ W > M := by omega
              have hXM := Lib.hid (HM.out.2 k hk)
              have cX := M1.out.hX.cell hk
              have cS := M1.out.hS.cell hk
              have fS := M1.out.hS.frozen k
              have ik0 : (0 : Int) ≤ (k : Int) := by omega
              have ik1 : (k : Int) < 4 := by omega
              cases hl : ld k with
              | false =>
                rw [hl] at cL
                have INV := Lib.hid (HI.out.load hk HKI.out hl)
                clear hl cX cS fS
                go_wp2_with fail
                refine (Load_any g h [W] t 0 _ M1.out.own.bank).mono ?_; rintro e w4 ⟨rfl, hb4, he4⟩
                rw [(one_word W).1, (one_word W).2]
                have M4 := Lib.hid (M1.out.step AP.out hb4 he4)
                have M5 := Lib.hid ((M4.out.setSaw AP.out k W).setLd AP.out k true)
                have cS4 := M4.out.hS.cell hk
                have fS4 := M4.out.hS.frozen k
                have cL4 := M4.out.hL.cell hk
                have fL4 := M4.out.hL.frozen k
                have cL4' := (M4.out.setSaw AP.out k W).hL.cell hk
                have fL4' := (M4.out.setSaw AP.out k W).hL.frozen k
                clear hb4 he4 cL fL
                go_wp2_with fail
                refine (Peek_any g h _ _ 0 _ M5.out.own.bank).mono ?_; rintro e w8 ⟨rfl, hb8⟩
                rw [(one_word _).1]
                have M8 := Lib.hid (M5.out.go hb8)
                clear hb8
                go_wp2_with fail
                go_roundw
                case rel => exact ⟨i + 1, by omega, by go_num, _, _, _, _, M8.out, INV.out⟩
                case measure => simp [intOf]; omega
              | true =>
                rw [hl] at cL
                by_cases hx : saw k < x k
                · have hx' := Lib.hid hx
                  have HXR := Lib.hid (HA.out k hk)
                  go_wp2_with fail
                  go_quiet (fail)
                  have M2 := Lib.hid (M1.out.go (below_drewN (Below.refl _ _) nq))
                  clear cX cS fS cL fL
                  generalize wr.drewN nq = wq at *
                  have cX := M2.out.hX.cell hk
                  have cS := M2.out.hS.cell hk
                  cases hq : (W == saw k) with
                  | true =>
                    have INV := Lib.hid (HI.out.hit hk HKI.out hx'.out (by simpa using (beq_iff_eq.1 hq).symm) hXM.out)
                    have HQ := Lib.hid hq
                    have hl' := Lib.hid hl
                    clear hq hl
                    go_wp2_with fail
                    go_region_with ((go_at_call 12; refine (CAS_any g h [W] t 0 (saw k) (x k) _ (M2.out.go (Below.refl _ _).drew).own.bank HXR.out).mono ?_; rintro e w4 ⟨rfl, hb4, he4⟩; rw [one_cas, (one_word W).2, HQ.out]; rw [one_cas, HQ.out, if_pos rfl, one_set] at hb4; have M4 := Lib.hid ((M2.out.go (Below.refl _ _).drew).step AP.out hb4 he4)))
                    all_goals
                      clear hb4 he4 cX cS
                      have cX : ∀ y : Held (Below w4.heap.size w4), y.w.cell? ⟨w.heap.size, k, none⟩ = some (.int .u64 (x k)) := fun y => (M4.out.go y.ok).hX.cell hk
                      have HPK := Lib.hid (show ∀ V, Below w4.heap.size w4 V → Calls Try.prog 13 #[.pointer (some ⟨g, 0, none⟩), .int .i64 0] V fun e w' => e = .returned (.int .u64 (x k)) ∧ Below w4.heap.size w4 w' from fun V hV => by
                        have := Peek_any g h _ _ 0 V (M4.out.go hV).own.bank
                        rw [(one_word _).1] at this
                        exact this.mono fun _ _ ⟨he, hb⟩ => ⟨he, bl hV hb⟩)
                      have hnonempty : Nonempty (Held (Below w4.heap.size w4)) := ⟨⟨w4, Below.refl _ _⟩⟩
                      have hxx : (x k == x k) = true := by simp
                      have hxm : ¬ x k > M := by have := hXM.out; omega
                      go_wp2_with fail
                      refine drawn_held (S := Below w4.heap.size w4) (by kernel_rfl) (by kernel_rfl) (Below.refl _ _).drew ?_
                      repeat (go_big_quiet_step ((go_at_call 13; exact held_call HPK.out)))
                      refine wpQuiet_nil ?_
                      intro w5 hw'; obtain ⟨⟨w5', hb5⟩, hw''⟩ := hw'; dsimp only at hw''; subst hw''
                      have M5 := Lib.hid (M4.out.go hb5)
                      have M6 := Lib.hid (M5.out.setLd AP.out k false)
                      have cL5 := M5.out.hL.cell hk
                      have fL5 := M5.out.hL.frozen k
                      clear hb5 cX
                      go_wp2_with fail
                      refine (Peek_any g h _ _ 0 _ M6.out.own.bank).mono ?_; rintro e w8 ⟨rfl, hb8⟩
                      rw [(one_word _).1]
                      have M8 := Lib.hid (M6.out.go hb8)
                      clear hb8
                      go_wp2_with fail
                      go_roundw
                      case rel => exact ⟨i + 1, by omega, by go_num, _, _, _, _, M8.out, INV.out⟩
                      case measure => simp [intOf]; omega
                  | false =>
                    have INV := Lib.hid (HI.out.miss hk HKI.out hl (by intro e; rw [e] at hq; simp at hq))
                    have HQ := Lib.hid hq
                    have hl' := Lib.hid hl
                    clear hq hl
                    rcases Bool.eq_false_or_eq_true (W == x k) with hwx | hwx
                    all_goals
                      go_wp2_with fail
                      go_region_with ((go_at_call 12; refine (CAS_any g h [W] t 0 (saw k) (x k) _ (M2.out.go (Below.refl _ _).drew).own.bank HXR.out).mono ?_; rintro e w4 ⟨rfl, hb4, he4⟩; rw [one_cas, (one_word W).2, HQ.out]; rw [one_cas, HQ.out, if_neg Bool.false_ne_true] at hb4; have M4 := Lib.hid ((M2.out.go (Below.refl _ _).drew).step AP.out hb4 he4)))
                      all_goals
                        clear hb4 he4 cX cS
                        have cX : ∀ y : Held (Below w4.heap.size w4), y.w.cell? ⟨w.heap.size, k, none⟩ = some (.int .u64 (x k)) := fun y => (M4.out.go y.ok).hX.cell hk
                        have HPK := Lib.hid (show ∀ V, Below w4.heap.size w4 V → Calls Try.prog 13 #[.pointer (some ⟨g, 0, none⟩), .int .i64 0] V fun e w' => e = .returned (.int .u64 (W)) ∧ Below w4.heap.size w4 w' from fun V hV => by
                          have := Peek_any g h _ _ 0 V (M4.out.go hV).own.bank
                          rw [(one_word _).1] at this
                          exact this.mono fun _ _ ⟨he, hb⟩ => ⟨he, bl hV hb⟩)
                        have hnonempty : Nonempty (Held (Below w4.heap.size w4)) := ⟨⟨w4, Below.refl _ _⟩⟩
                        go_wp2_with fail
                        conv => { enter [4]; simp only [Act.put, List.getElem_toArray, List.getElem_cons_zero, List.getElem_cons_succ, List.setIfInBounds_toArray, List.set_cons_zero, List.set_cons_succ] }
                        refine drawn_held (S := Below w4.heap.size w4) (by kernel_rfl) (by kernel_rfl) (Below.refl _ _).drew ?_
                        repeat (go_big_quiet_step ((go_at_call 13; exact held_call HPK.out)))
                        refine wpQuiet_nil ?_
                        intro w5 hw'; obtain ⟨⟨w5', hb5⟩, hw''⟩ := hw'; dsimp only at hw''; subst hw''
                        have M5 := Lib.hid (M4.out.go hb5)
                        have M6 := Lib.hid (M5.out.setLd AP.out k false)
                        have cL5 := M5.out.hL.cell hk
                        have fL5 := M5.out.hL.frozen k
                        clear hb5 cX
                        go_wp2_with fail
                        refine (Peek_any g h _ _ 0 _ M6.out.own.bank).mono ?_; rintro e w8 ⟨rfl, hb8⟩
                        rw [(one_word _).1]
                        have M8 := Lib.hid (M6.out.go hb8)
                        clear hb8
                        go_wp2_with fail
                        go_roundw
                        case rel => exact ⟨i + 1, by omega, by go_num, _, _, _, _, M8.out, INV.out⟩
                        case measure => simp [intOf]; omega
                · have INV := Lib.hid (HI.out.idle hk HKI.out (show x k ≤ saw k by omega))
                  go_wp2_with fail
                  go_quiet (fail)
                  have M2 := Lib.hid (M1.out.go (below_drewN (Below.refl _ _) nq))
                  clear cX cS fS cL fL
                  go_wp2_with fail
                  refine (Peek_any g h _ _ 0 _ M2.out.own.bank).mono ?_; rintro e w8 ⟨rfl, hb8⟩
                  rw [(one_word _).1]
                  have M8 := Lib.hid (M2.out.go hb8)
                  clear hb8
                  go_wp2_with fail
                  go_roundw
                  case rel => exact ⟨i + 1, by omega, by go_num, _, _, _, _, M8.out, INV.out⟩
                  case measure => simp [intOf]; omega
          · have hie : i = ps.length + 40 := by omega
            subst hie
            have HF := Lib.hid (show W = M by have := HI.out; rw [← HMM.out] at this ⊢; exact this.final)
            have hwm : (W == M) = true := by rw [HF.out]; simp
            go_wp2_with fail
            refine (Peek_any g h _ _ 0 _ M1.out.own.bank).mono ?_; rintro e w8 ⟨rfl, hb8⟩
            rw [(one_word _).1]
            have M8 := Lib.hid (M1.out.go hb8)
            clear hb8
            go_wp2_with fail
            refine (awake_any _).mono ?_; rintro e w9 ⟨rfl, hb9⟩
            go_wp2_with fail
            go_ret
            exact ⟨rfl, bl M8.out.own.below hb9⟩
  · have hw0 : Below w.heap.size w (w.alloc (.cells #[.int .u64 a0, .int .u64 a1, .int .u64 a2, .int .u64 a3] 35)) := (Below.refl _ _).alloc (Nat.le_refl _) _
    go_enter Try.func4, Try.ntmps4
    go_wp2_with fail
    refine (New_in 1 (by omega) (by omega) _).mono ?_; rintro e w1 ⟨rfl, hb1, hl1, _⟩
    have HL1 := Lib.hid (bl hw0 hl1)
    clear hb1 hl1 hw0
    go_wp2_with fail
    refine (awake_any _).mono ?_; rintro e w5 ⟨rfl, hb5⟩
    go_wp2_with fail
    go_ret
    exact ⟨rfl, bl HL1.out hb5⟩

/-- four numbers by value -/
def Arr4 (v : Value) (xs : List Int) : Prop := ∃ a0 a1 a2 a3 : Int, xs = [a0, a1, a2, a3] ∧ v = .agg #[.int .u64 a0, .int .u64 a1, .int .u64 a2, .int .u64 a3] ∧ (0 ≤ a0 ∧ a0 ≤ 18446744073709551615) ∧ (0 ≤ a1 ∧ a1 ≤ 18446744073709551615) ∧ (0 ≤ a2 ∧ a2 ≤ 18446744073709551615) ∧ (0 ≤ a3 ∧ a3 ≤ 18446744073709551615)
theorem arr4_of_trod {H : Type} {enc : TypeId × Value → H} {W : World} {r : Reach} {b : Nat} {v : Value} {d : DataW H} {p : List MemPlace}
    (hv : Value.okWide Try.prog W r b 35 v) (h : DataW.Trod enc Try.prog W 0 (fun _ => true) true 35 v d p) : ∃ xs : List Int, Arr4 v xs := by
  obtain ⟨xs, hl, rfl, hw⟩ := arr_of_trod (k := .u64) Try.underlying35 Try.underlying28 (by kernel_rfl) (by kernel_rfl) hv h
  match xs, hl with
  | [a0, a1, a2, a3], _ => exact ⟨_, a0, a1, a2, a3, rfl, rfl, u64_bounds (hw a0 (by simp)), u64_bounds (hw a1 (by simp)), u64_bounds (hw a2 (by simp)), u64_bounds (hw a3 (by simp))⟩
theorem BankMost_walk' (v0 : Value) (x0 : List Int) (v1 : Value) (x1 : List Int) (W : World) (h0 : Arr4 v0 x0) (h1 : Ints W .i64 v1 x1) (_ : ∀ n ∈ x1, (Lit.int .i64 n).wf = true) :
    Calls Try.prog 4 #[v0, v1] W fun e w' => e = .returned (.bool true) ∧ Below W.heap.size W w' := by
  obtain ⟨a0, a1, a2, a3, rfl, rfl, r0, r1, r2, r3⟩ := h0
  exact BankMost_walk a0 a1 a2 a3 r0 r1 r2 r3 v1 x1 W h1
end Go.Proofs.Ytabhkplcigdafaa.Bank
