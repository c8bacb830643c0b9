/-
  BankLeaves: the law's walk. No condition. By an AI agent.
-/
import Derived.Test.YtabhkplcigdafaaBankD
import Derived.Deep.OwnRows
import Derived.Deep.RegionHeld3
namespace Go.Proofs.Ytabhkplcigdafaa.Bank
set_option linter.unusedVariables false
set_option linter.unusedSimpArgs false
open Go Go.RowKit Go.Proofs.Ytabhkplcigdafaa.Base Go.Deep

theorem row_bl {w w' : World} {b t n : Nat} {f : Nat → Value} (h : w.rowIs b t n f) (hb : Below w.heap.size w w') : w'.rowIs b t n f := h.of_block (hb.block _ h.lt)
theorem row_ex {w w' : World} {b t n g k : Nat} {f : Nat → Value} (h : w.rowIs b t n f) (hb : Ex2 g k w w') (h1 : b ≠ g) (h2 : b ≠ k) : w'.rowIs b t n f := h.of_block (hb.block _ h.lt h1 h2)

/-- what the law asks of an act -/
inductive Kp (ws : List Int) (a : Act) : Prop
  | low (h : (errF ws a.at_ != 0) = true) (h' : (errF ws a.at_ == 0) = false) (hl : a.at_ < 0) (he : ∀ k, nth (doWs ws a) k = nth ws k) (ht : ∀ t, tickF ws a.at_ t = t)
  | high (h : (errF ws a.at_ != 0) = true) (h' : (errF ws a.at_ == 0) = false) (hl : (ws.length : Int) ≤ a.at_) (he : ∀ k, nth (doWs ws a) k = nth ws k) (ht : ∀ t, tickF ws a.at_ t = t)
  | load (h : (errF ws a.at_ != 0) = false) (h' : (errF ws a.at_ == 0) = true) (h0 : 0 ≤ a.at_) (h1 : a.at_ < ws.length) (q0 : (a.kind == 0) = true) (he : ∀ k, nth (doWs ws a) k = nth ws k) (ht : ∀ t, tickF ws a.at_ t = IntKind.i64.wrap (t + 1))
  | miss (h : (errF ws a.at_ != 0) = false) (h' : (errF ws a.at_ == 0) = true) (h0 : 0 ≤ a.at_) (h1 : a.at_ < ws.length) (q0 : (a.kind == 0) = false) (q2 : (a.kind == 2) = true) (qw : (doWord ws a == 0) = true) (he : ∀ k, nth (doWs ws a) k = nth ws k) (ht : ∀ t, tickF ws a.at_ t = IntKind.i64.wrap (t + 1))
  | hit (h : (errF ws a.at_ != 0) = false) (h' : (errF ws a.at_ == 0) = true) (h0 : 0 ≤ a.at_) (h1 : a.at_ < ws.length) (q0 : (a.kind == 0) = false) (q2 : (a.kind == 2) = true) (qw : (doWord ws a == 0) = false) (ht : ∀ t, tickF ws a.at_ t = IntKind.i64.wrap (t + 1))
  | other (h : (errF ws a.at_ != 0) = false) (h' : (errF ws a.at_ == 0) = true) (h0 : 0 ≤ a.at_) (h1 : a.at_ < ws.length) (q0 : (a.kind == 0) = false) (q2 : (a.kind == 2) = false) (ht : ∀ t, tickF ws a.at_ t = IntKind.i64.wrap (t + 1))
theorem doWs_out {ws : List Int} {a : Act} (h : ¬ inW ws a.at_) : doWs ws a = ws := by
  unfold doWs
  rw [setF_out h, setF_out h]
  split
  · rfl
  · split
    · rfl
    · split
      · split <;> rfl
      · rfl
theorem kp (ws : List Int) (a : Act) : Kp ws a := by
  by_cases hin : inW ws a.at_
  · have hin' := hin
    obtain ⟨h0, h1⟩ := hin'
    have e := errF_in hin
    have ht : ∀ t, tickF ws a.at_ t = IntKind.i64.wrap (t + 1) := fun t => tickF_in hin
    by_cases k0 : a.kind = 0
    · exact .load (by rw [e]; rfl) (by rw [e]; rfl) h0 h1 (by simpa using k0) (fun k => by simp [doWs, k0]) ht
    · by_cases k2 : a.kind = 2
      · have k1 : ¬ a.kind = 1 := by omega
        cases hc : casB ws a.at_ a.y with
        | true => exact .hit (by rw [e]; rfl) (by rw [e]; rfl) h0 h1 (by simpa using k0) (by simpa using k2) (by simp [doWord, k2, hc]) ht
        | false => exact .miss (by rw [e]; rfl) (by rw [e]; rfl) h0 h1 (by simpa using k0) (by simpa using k2) (by simp [doWord, k2, hc]) (fun k => by simp [doWs, k2, hc]) ht
      · exact .other (by rw [e]; rfl) (by rw [e]; rfl) h0 h1 (by simpa using k0) (by simpa using k2) ht
  · have e := errF_out hin
    have he : ∀ k, nth (doWs ws a) k = nth ws k := fun k => by rw [doWs_out hin]
    have ht : ∀ t, tickF ws a.at_ t = t := fun t => tickF_out hin
    by_cases h0 : a.at_ < 0
    · exact .low (by rw [e]; rfl) (by rw [e]; rfl) h0 he ht
    · exact .high (by rw [e]; rfl) (by rw [e]; rfl) (by unfold inW at hin; omega) he ht
theorem wordF_nat {ws : List Int} {k : Nat} (h : k < ws.length) : wordF ws (k : Int) = nth ws k := by
  rw [wordF_in ⟨by omega, by omega⟩]; rfl

set_option maxRecDepth 100000 in
set_option maxHeartbeats 8000000 in
theorem BankLeaves_walk (v : Value) (x : Nat × (Nat → Act)) (w : World) (hx : Acts w v x.1 x.2) :
    Calls Try.prog 7 #[v] w fun e w' => e = .returned (.bool true) ∧ Below w.heap.size w w' := by
  obtain ⟨n, l⟩ := x
  simp only at hx
  obtain ⟨A, c, rfl, hl, hf⟩ := hx.form
  have HOK := Lib.hid hx.ok
  have HF := Lib.hid hf
  unfold maxLen at hl
  clear hf hx
  by_cases hn : n ≤ 100
  · go_enter Try.func7, Try.ntmps7
    go_wp2_with fail
    refine (New_in 6 (by omega) (by omega) _).mono ?_; rintro e w1 ⟨rfl, hb1, hl1, _⟩
    have O1 := Lib.hid (Own.new hb1 hl1)
    clear hb1 hl1
    generalize w.heap.size + 1 = g at *
    obtain ⟨h, hh⟩ : ∃ h, h = w.heap.size := ⟨_, rfl⟩
    rw [← hh] at O1
    clear hh
    go_wp2_with fail
    go_loopw [5] (fun i wr => ∃ k : Nat, k ≤ n ∧ i = .int .i64 k ∧ ∃ (ws : List Int) (t : Nat), t ≤ k ∧ ws.length = 6 ∧ Own w wr g h ws t) (fun i _ => n - (intOf i).toNat)
    case atStart => exact ⟨0, by omega, rfl, _, 0, by omega, zeros_len 6, O1.out⟩
    case round =>
      obtain ⟨k, hk, rfl, ws, t, htk, hlen, hown⟩ := hrel
      have O3 := Lib.hid hown
      have HLEN := Lib.hid hlen
      clear hown hlen
      by_cases hlt : k < n
      · have hd1 : decide ((k : Int) < (n : Int)) = true := by simp; omega
        have hd2 : decide (k < n) = true := by simp; omega
        go_wp2_with fail
        obtain ⟨wo, rfl⟩ : ∃ wo : World, wo = wr := ⟨_, rfl⟩
        have hgN : g < wo.heap.size := O3.out.bank.head.lt
        have hhN : h < wo.heap.size := O3.out.bank.row.lt
        have hwN := O3.out.below.size
        go_loopw [7] (fun j w2 => ∃ q : Nat, q ≤ 6 ∧ j = .int .i64 q ∧ w2.rowIs wo.heap.size 50 6 (fun j => .int .u64 (if j < q then nth ws j else 0)) ∧ Own w w2 g h ws t) (fun j _ => 6 - (intOf j).toNat)
        case atStart =>
          refine ⟨0, by omega, rfl, ?_, O3.out.go ((Below.refl _ _).alloc (Nat.le_refl _) _)⟩
          exact World.rowIs_alloc wo #[.int .u64 0, .int .u64 0, .int .u64 0, .int .u64 0, .int .u64 0, .int .u64 0] 50 _ (fun i hi => by
            match i, hi with
            | 0, _ => rfl
            | 1, _ => rfl
            | 2, _ => rfl
            | 3, _ => rfl
            | 4, _ => rfl
            | 5, _ => rfl)
        case round =>
          obtain ⟨q, hq, rfl, hrow, hown⟩ := hrel
          have HROW := Lib.hid hrow
          have O4 := Lib.hid hown
          clear hrow hown
          by_cases hlq : q < 6
          · go_wp2_with fail
            refine (Peek_any g h ws t q _ O4.out.bank).mono ?_; rintro e w3 ⟨rfl, hb3⟩
            rw [wordF_nat (by rw [HLEN.out]; exact hlq)]
            have O5 := Lib.hid (O4.out.go hb3)
            have HROW3 := Lib.hid (row_bl HROW.out hb3)
            clear hb3
            have cN := HROW3.out.cell hlq
            have fN := HROW3.out.frozen q
            go_wp2_with fail
            go_roundw
            case rel => exact ⟨q + 1, by omega, by go_num, (HROW3.out.set q _).congr (fun j hj => by
                by_cases e : j = q
                · subst e; simp
                · rw [if_neg e]
                  by_cases e2 : j < q
                  · rw [if_pos e2, if_pos (by omega)]
                  · rw [if_neg e2, if_neg (by omega)]), O5.out.far (by omega) (by omega) (by omega) _ _⟩
            case measure => simp [intOf]; omega
          · have hrow6 := HROW.out.congr (g := fun j => .int .u64 (nth ws j)) (fun j hj => by rw [if_pos (by omega)])
            have HR6 := Lib.hid hrow6
            clear hrow6 HROW
            obtain ⟨b, o, rfl, hb, hc⟩ := HF.out (by omega)
            have HC := Lib.hid (hc k hlt)
            obtain ⟨c0, c1, c2, c3⟩ := hc k hlt
            have c0' := (O4.out.below.cell (p := ⟨b, o + k * 4, none⟩) hb).trans c0
            have c1' := (O4.out.below.cell (p := ⟨b, o + k * 4 + 1, none⟩) hb).trans c1
            have c2' := (O4.out.below.cell (p := ⟨b, o + k * 4 + 2, none⟩) hb).trans c2
            have c3' := (O4.out.below.cell (p := ⟨b, o + k * 4 + 3, none⟩) hb).trans c3
            clear hc c0 c1 c2 c3
            go_wp2_with fail
            refine (Touches_any g h ws t _ O4.out.bank).mono ?_; rintro e w' ⟨rfl, rfl⟩
            go_wp2_with fail
            refine (do_any g h ws t (l k) _ O4.out.bank (HOK.out k hlt)).mono ?_; rintro e w4 ⟨rfl, hb4, he4⟩
            have HR5 := Lib.hid (row_ex HR6.out he4 (by omega) (by omega))
            have HL2 := Lib.hid (show (doWs ws (l k)).length = 6 by rw [doWs_len]; exact HLEN.out)
            have HOTH := Lib.hid (doWs_other ws (l k))
            clear c0' c1' c2' c3'
            have hlen6 := HLEN.out
            have hkp := kp ws (l k)
            rcases hkp with ⟨f1, f2, a1, he, ht⟩ | ⟨f1, f2, a1, he, ht⟩ | ⟨f1, f2, a0, a1, k0, he, ht⟩ | ⟨f1, f2, a0, a1, k0, k2, kw, he, ht⟩ | ⟨f1, f2, a0, a1, k0, k2, kw, ht⟩ | ⟨f1, f2, a0, a1, k0, k2, ht⟩
            all_goals try simp only [hlen6] at a1
            all_goals rw [ht] at hb4
            all_goals clear ht hlen6
            · have O5 := Lib.hid (O4.out.step hb4 he4)
              have d0 := (O5.out.below.cell (p := ⟨b, o + k * 4, none⟩) hb).trans HC.out.1
              have d1 := (O5.out.below.cell (p := ⟨b, o + k * 4 + 1, none⟩) hb).trans HC.out.2.1
              have HE := Lib.hid he
              clear he
              clear hb4 he4
              generalize doWs ws (l k) = ws' at *
              generalize hkd : (l k).kind = kd at *
              generalize hat : (l k).at_ = at_ at *
              generalize errF ws at_ = er at *
              generalize doWord ws (l k) = dw at *
              clear hkd hat
              have htt : ((t : Int) != (t : Int)) = false := by simp
              have hd4 : decide ((q : Int) < 6) = false := by simp; omega
              have hd5 : decide (q < 6) = false := by simp; omega
              go_wp2_with fail
              go_loopw [12] (fun j w6 => ∃ q : Nat, q ≤ 6 ∧ j = .int .i64 q ∧ w6.rowIs wo.heap.size 50 6 (fun j => .int .u64 (nth ws j)) ∧ Own w w6 g h ws' (t : Int)) (fun j _ => 6 - (intOf j).toNat)
              case atStart => exact ⟨0, by omega, rfl, HR5.out, O5.out⟩
              case round =>
                obtain ⟨q2, hq2, rfl, hrow, hown⟩ := hrel
                have HROW := Lib.hid hrow
                have O6 := Lib.hid hown
                clear hrow hown
                have g1 := (O6.out.below.cell (p := ⟨b, o + k * 4 + 1, none⟩) hb).trans HC.out.2.1
                by_cases hlq2 : q2 < 6
                · have hi0 : (0 : Int) ≤ (q2 : Int) := by omega
                  have hi1 : (q2 : Int) < 6 := by omega
                  obtain ⟨wz, rfl⟩ : ∃ wz : World, wz = wr := ⟨_, rfl⟩
                  have cw : ∀ x : Held (Below wz.heap.size wz), x.w.cell? ⟨wo.heap.size, q2, none⟩ = some (.int .u64 (nth ws q2)) := fun x => (row_bl HROW.out x.ok).cell hlq2
                  have ca : ∀ x : Held (Below wz.heap.size wz), x.w.cell? ⟨b, o + k * 4 + 1, none⟩ = some (.int .i64 at_) := fun x => ((O6.out.go x.ok).below.cell (p := ⟨b, o + k * 4 + 1, none⟩) hb).trans HC.out.2.1
                  have HPK := Lib.hid (show ∀ W, Below wz.heap.size wz W → Calls Try.prog 13 #[.pointer (some ⟨g, 0, none⟩), .int .i64 q2] W fun e w' => e = .returned (.int .u64 (nth ws' q2)) ∧ Below wz.heap.size wz w' from fun W hW => by
                    have := Peek_any g h ws' (t : Int) q2 W (O6.out.go hW).bank
                    rw [wordF_nat (by rw [HL2.out]; exact hlq2)] at this
                    exact this.mono fun _ _ ⟨he, hb⟩ => ⟨he, bl hW hb⟩)
                  have hne : (nth ws' q2 != nth ws q2) = false := by rw [HE.out q2]; simp
                  go_wp2_with fail
                  have hnonempty : Nonempty (Held (Below wz.heap.size wz)) := ⟨⟨wz, Below.refl _ _⟩⟩
                  refine drawn_held (S := Below wz.heap.size wz) (by kernel_rfl) (by kernel_rfl) (Below.refl _ _).drew ?_
                  repeat (go_big_quiet_step ((go_at_call 13; exact held_call HPK.out)))
                  refine wpQuiet_nil ?_
                  intro w7 hw'; obtain ⟨⟨w7', hb7⟩, hw''⟩ := hw'; dsimp only at hw''; subst hw''
                  have Q1 := Lib.hid (O6.out.go hb7)
                  have Q3 := Lib.hid (row_bl HROW.out hb7)
                  clear hb7 cw ca
                  go_wp2_with fail
                  go_roundw
                  case rel => exact ⟨q2 + 1, by omega, by go_num, Q3.out, Q1.out⟩
                  case measure => simp [intOf]; omega
                · go_wp2_with fail
                  refine (Touches_any g h ws' (t : Int) _ O6.out.bank).mono ?_; rintro e w' ⟨rfl, rfl⟩
                  go_wp2_with fail
                  go_roundw
                  case rel => exact ⟨k + 1, by omega, by go_num, _, t, by omega, HL2.out, O6.out⟩
                  case measure => simp [intOf]; omega
            · have O5 := Lib.hid (O4.out.step hb4 he4)
              have d0 := (O5.out.below.cell (p := ⟨b, o + k * 4, none⟩) hb).trans HC.out.1
              have d1 := (O5.out.below.cell (p := ⟨b, o + k * 4 + 1, none⟩) hb).trans HC.out.2.1
              have HE := Lib.hid he
              clear he
              clear hb4 he4
              generalize doWs ws (l k) = ws' at *
              generalize hkd : (l k).kind = kd at *
              generalize hat : (l k).at_ = at_ at *
              generalize errF ws at_ = er at *
              generalize doWord ws (l k) = dw at *
              clear hkd hat
              have htt : ((t : Int) != (t : Int)) = false := by simp
              have hd4 : decide ((q : Int) < 6) = false := by simp; omega
              have hd5 : decide (q < 6) = false := by simp; omega
              go_wp2_with fail
              go_loopw [12] (fun j w6 => ∃ q : Nat, q ≤ 6 ∧ j = .int .i64 q ∧ w6.rowIs wo.heap.size 50 6 (fun j => .int .u64 (nth ws j)) ∧ Own w w6 g h ws' (t : Int)) (fun j _ => 6 - (intOf j).toNat)
              case atStart => exact ⟨0, by omega, rfl, HR5.out, O5.out⟩
              case round =>
                obtain ⟨q2, hq2, rfl, hrow, hown⟩ := hrel
                have HROW := Lib.hid hrow
                have O6 := Lib.hid hown
                clear hrow hown
                have g1 := (O6.out.below.cell (p := ⟨b, o + k * 4 + 1, none⟩) hb).trans HC.out.2.1
                by_cases hlq2 : q2 < 6
                · have hi0 : (0 : Int) ≤ (q2 : Int) := by omega
                  have hi1 : (q2 : Int) < 6 := by omega
                  obtain ⟨wz, rfl⟩ : ∃ wz : World, wz = wr := ⟨_, rfl⟩
                  have cw : ∀ x : Held (Below wz.heap.size wz), x.w.cell? ⟨wo.heap.size, q2, none⟩ = some (.int .u64 (nth ws q2)) := fun x => (row_bl HROW.out x.ok).cell hlq2
                  have ca : ∀ x : Held (Below wz.heap.size wz), x.w.cell? ⟨b, o + k * 4 + 1, none⟩ = some (.int .i64 at_) := fun x => ((O6.out.go x.ok).below.cell (p := ⟨b, o + k * 4 + 1, none⟩) hb).trans HC.out.2.1
                  have HPK := Lib.hid (show ∀ W, Below wz.heap.size wz W → Calls Try.prog 13 #[.pointer (some ⟨g, 0, none⟩), .int .i64 q2] W fun e w' => e = .returned (.int .u64 (nth ws' q2)) ∧ Below wz.heap.size wz w' from fun W hW => by
                    have := Peek_any g h ws' (t : Int) q2 W (O6.out.go hW).bank
                    rw [wordF_nat (by rw [HL2.out]; exact hlq2)] at this
                    exact this.mono fun _ _ ⟨he, hb⟩ => ⟨he, bl hW hb⟩)
                  have hne : (nth ws' q2 != nth ws q2) = false := by rw [HE.out q2]; simp
                  go_wp2_with fail
                  have hnonempty : Nonempty (Held (Below wz.heap.size wz)) := ⟨⟨wz, Below.refl _ _⟩⟩
                  refine drawn_held (S := Below wz.heap.size wz) (by kernel_rfl) (by kernel_rfl) (Below.refl _ _).drew ?_
                  repeat (go_big_quiet_step ((go_at_call 13; exact held_call HPK.out)))
                  refine wpQuiet_nil ?_
                  intro w7 hw'; obtain ⟨⟨w7', hb7⟩, hw''⟩ := hw'; dsimp only at hw''; subst hw''
                  have Q1 := Lib.hid (O6.out.go hb7)
                  have Q3 := Lib.hid (row_bl HROW.out hb7)
                  clear hb7 cw ca
                  go_wp2_with fail
                  go_roundw
                  case rel => exact ⟨q2 + 1, by omega, by go_num, Q3.out, Q1.out⟩
                  case measure => simp [intOf]; omega
                · go_wp2_with fail
                  refine (Touches_any g h ws' (t : Int) _ O6.out.bank).mono ?_; rintro e w' ⟨rfl, rfl⟩
                  go_wp2_with fail
                  go_roundw
                  case rel => exact ⟨k + 1, by omega, by go_num, _, t, by omega, HL2.out, O6.out⟩
                  case measure => simp [intOf]; omega
            · have a6 : (l k).at_ < 6 := by have := HLEN.out; omega
              rw [IntWalk.i64_in _ (show -9223372036854775808 ≤ (t : Int) + 1 ∧ (t : Int) + 1 ≤ 9223372036854775807 by omega)] at hb4
              have O5 := Lib.hid (O4.out.step hb4 he4)
              have d0 := (O5.out.below.cell (p := ⟨b, o + k * 4, none⟩) hb).trans HC.out.1
              have d1 := (O5.out.below.cell (p := ⟨b, o + k * 4 + 1, none⟩) hb).trans HC.out.2.1
              have HE := Lib.hid he
              clear he
              clear hb4 he4
              generalize doWs ws (l k) = ws' at *
              generalize hkd : (l k).kind = kd at *
              generalize hat : (l k).at_ = at_ at *
              generalize errF ws at_ = er at *
              generalize doWord ws (l k) = dw at *
              clear hkd hat
              have htt : (((t : Int) + 1) != ((t : Int) + 1)) = false := by simp
              have hd4 : decide ((q : Int) < 6) = false := by simp; omega
              have hd5 : decide (q < 6) = false := by simp; omega
              go_wp2_with fail
              go_loopw [12] (fun j w6 => ∃ q : Nat, q ≤ 6 ∧ j = .int .i64 q ∧ w6.rowIs wo.heap.size 50 6 (fun j => .int .u64 (nth ws j)) ∧ Own w w6 g h ws' ((t : Int) + 1)) (fun j _ => 6 - (intOf j).toNat)
              case atStart => exact ⟨0, by omega, rfl, HR5.out, O5.out⟩
              case round =>
                obtain ⟨q2, hq2, rfl, hrow, hown⟩ := hrel
                have HROW := Lib.hid hrow
                have O6 := Lib.hid hown
                clear hrow hown
                have g1 := (O6.out.below.cell (p := ⟨b, o + k * 4 + 1, none⟩) hb).trans HC.out.2.1
                by_cases hlq2 : q2 < 6
                · have hi0 : (0 : Int) ≤ (q2 : Int) := by omega
                  have hi1 : (q2 : Int) < 6 := by omega
                  obtain ⟨wz, rfl⟩ : ∃ wz : World, wz = wr := ⟨_, rfl⟩
                  have cw : ∀ x : Held (Below wz.heap.size wz), x.w.cell? ⟨wo.heap.size, q2, none⟩ = some (.int .u64 (nth ws q2)) := fun x => (row_bl HROW.out x.ok).cell hlq2
                  have ca : ∀ x : Held (Below wz.heap.size wz), x.w.cell? ⟨b, o + k * 4 + 1, none⟩ = some (.int .i64 at_) := fun x => ((O6.out.go x.ok).below.cell (p := ⟨b, o + k * 4 + 1, none⟩) hb).trans HC.out.2.1
                  have HPK := Lib.hid (show ∀ W, Below wz.heap.size wz W → Calls Try.prog 13 #[.pointer (some ⟨g, 0, none⟩), .int .i64 q2] W fun e w' => e = .returned (.int .u64 (nth ws' q2)) ∧ Below wz.heap.size wz w' from fun W hW => by
                    have := Peek_any g h ws' ((t : Int) + 1) q2 W (O6.out.go hW).bank
                    rw [wordF_nat (by rw [HL2.out]; exact hlq2)] at this
                    exact this.mono fun _ _ ⟨he, hb⟩ => ⟨he, bl hW hb⟩)
                  have hne : (nth ws' q2 != nth ws q2) = false := by rw [HE.out q2]; simp
                  go_wp2_with fail
                  have hnonempty : Nonempty (Held (Below wz.heap.size wz)) := ⟨⟨wz, Below.refl _ _⟩⟩
                  refine drawn_held (S := Below wz.heap.size wz) (by kernel_rfl) (by kernel_rfl) (Below.refl _ _).drew ?_
                  repeat (go_big_quiet_step ((go_at_call 13; exact held_call HPK.out)))
                  refine wpQuiet_nil ?_
                  intro w7 hw'; obtain ⟨⟨w7', hb7⟩, hw''⟩ := hw'; dsimp only at hw''; subst hw''
                  have Q1 := Lib.hid (O6.out.go hb7)
                  have Q3 := Lib.hid (row_bl HROW.out hb7)
                  clear hb7 cw ca
                  go_wp2_with fail
                  go_roundw
                  case rel => exact ⟨q2 + 1, by omega, by go_num, Q3.out, Q1.out⟩
                  case measure => simp [intOf]; omega
                · go_wp2_with fail
                  refine (Touches_any g h ws' ((t : Int) + 1) _ O6.out.bank).mono ?_; rintro e w' ⟨rfl, rfl⟩
                  go_wp2_with fail
                  go_roundw
                  case rel => exact ⟨k + 1, by omega, by go_num, _, t + 1, by omega, HL2.out, by rw [Int.natCast_add]; exact O6.out⟩
                  case measure => simp [intOf]; omega
            · have a6 : (l k).at_ < 6 := by have := HLEN.out; omega
              rw [IntWalk.i64_in _ (show -9223372036854775808 ≤ (t : Int) + 1 ∧ (t : Int) + 1 ≤ 9223372036854775807 by omega)] at hb4
              have O5 := Lib.hid (O4.out.step hb4 he4)
              have d0 := (O5.out.below.cell (p := ⟨b, o + k * 4, none⟩) hb).trans HC.out.1
              have d1 := (O5.out.below.cell (p := ⟨b, o + k * 4 + 1, none⟩) hb).trans HC.out.2.1
              have HE := Lib.hid he
              clear he
              clear hb4 he4
              generalize doWs ws (l k) = ws' at *
              generalize hkd : (l k).kind = kd at *
              generalize hat : (l k).at_ = at_ at *
              generalize errF ws at_ = er at *
              generalize doWord ws (l k) = dw at *
              clear hkd hat
              have htt : (((t : Int) + 1) != ((t : Int) + 1)) = false := by simp
              have hd4 : decide ((q : Int) < 6) = false := by simp; omega
              have hd5 : decide (q < 6) = false := by simp; omega
              go_wp2_with fail
              go_loopw [12] (fun j w6 => ∃ q : Nat, q ≤ 6 ∧ j = .int .i64 q ∧ w6.rowIs wo.heap.size 50 6 (fun j => .int .u64 (nth ws j)) ∧ Own w w6 g h ws' ((t : Int) + 1)) (fun j _ => 6 - (intOf j).toNat)
              case atStart => exact ⟨0, by omega, rfl, HR5.out, O5.out⟩
              case round =>
                obtain ⟨q2, hq2, rfl, hrow, hown⟩ := hrel
                have HROW := Lib.hid hrow
                have O6 := Lib.hid hown
                clear hrow hown
                have g1 := (O6.out.below.cell (p := ⟨b, o + k * 4 + 1, none⟩) hb).trans HC.out.2.1
                by_cases hlq2 : q2 < 6
                · have hi0 : (0 : Int) ≤ (q2 : Int) := by omega
                  have hi1 : (q2 : Int) < 6 := by omega
                  obtain ⟨wz, rfl⟩ : ∃ wz : World, wz = wr := ⟨_, rfl⟩
                  have cw : ∀ x : Held (Below wz.heap.size wz), x.w.cell? ⟨wo.heap.size, q2, none⟩ = some (.int .u64 (nth ws q2)) := fun x => (row_bl HROW.out x.ok).cell hlq2
                  have ca : ∀ x : Held (Below wz.heap.size wz), x.w.cell? ⟨b, o + k * 4 + 1, none⟩ = some (.int .i64 at_) := fun x => ((O6.out.go x.ok).below.cell (p := ⟨b, o + k * 4 + 1, none⟩) hb).trans HC.out.2.1
                  have HPK := Lib.hid (show ∀ W, Below wz.heap.size wz W → Calls Try.prog 13 #[.pointer (some ⟨g, 0, none⟩), .int .i64 q2] W fun e w' => e = .returned (.int .u64 (nth ws' q2)) ∧ Below wz.heap.size wz w' from fun W hW => by
                    have := Peek_any g h ws' ((t : Int) + 1) q2 W (O6.out.go hW).bank
                    rw [wordF_nat (by rw [HL2.out]; exact hlq2)] at this
                    exact this.mono fun _ _ ⟨he, hb⟩ => ⟨he, bl hW hb⟩)
                  have hne : (nth ws' q2 != nth ws q2) = false := by rw [HE.out q2]; simp
                  go_wp2_with fail
                  have hnonempty : Nonempty (Held (Below wz.heap.size wz)) := ⟨⟨wz, Below.refl _ _⟩⟩
                  refine drawn_held (S := Below wz.heap.size wz) (by kernel_rfl) (by kernel_rfl) (Below.refl _ _).drew ?_
                  repeat (go_big_quiet_step ((go_at_call 13; exact held_call HPK.out)))
                  refine wpQuiet_nil ?_
                  intro w7 hw'; obtain ⟨⟨w7', hb7⟩, hw''⟩ := hw'; dsimp only at hw''; subst hw''
                  have Q1 := Lib.hid (O6.out.go hb7)
                  have Q3 := Lib.hid (row_bl HROW.out hb7)
                  clear hb7 cw ca
                  go_wp2_with fail
                  go_roundw
                  case rel => exact ⟨q2 + 1, by omega, by go_num, Q3.out, Q1.out⟩
                  case measure => simp [intOf]; omega
                · go_wp2_with fail
                  refine (Touches_any g h ws' ((t : Int) + 1) _ O6.out.bank).mono ?_; rintro e w' ⟨rfl, rfl⟩
                  go_wp2_with fail
                  go_roundw
                  case rel => exact ⟨k + 1, by omega, by go_num, _, t + 1, by omega, HL2.out, by rw [Int.natCast_add]; exact O6.out⟩
                  case measure => simp [intOf]; omega
            · have a6 : (l k).at_ < 6 := by have := HLEN.out; omega
              rw [IntWalk.i64_in _ (show -9223372036854775808 ≤ (t : Int) + 1 ∧ (t : Int) + 1 ≤ 9223372036854775807 by omega)] at hb4
              have O5 := Lib.hid (O4.out.step hb4 he4)
              have d0 := (O5.out.below.cell (p := ⟨b, o + k * 4, none⟩) hb).trans HC.out.1
              have d1 := (O5.out.below.cell (p := ⟨b, o + k * 4 + 1, none⟩) hb).trans HC.out.2.1
              clear hb4 he4
              generalize doWs ws (l k) = ws' at *
              generalize hkd : (l k).kind = kd at *
              generalize hat : (l k).at_ = at_ at *
              generalize errF ws at_ = er at *
              generalize doWord ws (l k) = dw at *
              clear hkd hat
              have htt : (((t : Int) + 1) != ((t : Int) + 1)) = false := by simp
              have hd4 : decide ((q : Int) < 6) = false := by simp; omega
              have hd5 : decide (q < 6) = false := by simp; omega
              go_wp2_with fail
              go_loopw [12] (fun j w6 => ∃ q : Nat, q ≤ 6 ∧ j = .int .i64 q ∧ w6.rowIs wo.heap.size 50 6 (fun j => .int .u64 (nth ws j)) ∧ Own w w6 g h ws' ((t : Int) + 1)) (fun j _ => 6 - (intOf j).toNat)
              case atStart => exact ⟨0, by omega, rfl, HR5.out, O5.out⟩
              case round =>
                obtain ⟨q2, hq2, rfl, hrow, hown⟩ := hrel
                have HROW := Lib.hid hrow
                have O6 := Lib.hid hown
                clear hrow hown
                have g1 := (O6.out.below.cell (p := ⟨b, o + k * 4 + 1, none⟩) hb).trans HC.out.2.1
                by_cases hlq2 : q2 < 6
                · have hi0 : (0 : Int) ≤ (q2 : Int) := by omega
                  have hi1 : (q2 : Int) < 6 := by omega
                  obtain ⟨wz, rfl⟩ : ∃ wz : World, wz = wr := ⟨_, rfl⟩
                  have cw : ∀ x : Held (Below wz.heap.size wz), x.w.cell? ⟨wo.heap.size, q2, none⟩ = some (.int .u64 (nth ws q2)) := fun x => (row_bl HROW.out x.ok).cell hlq2
                  have ca : ∀ x : Held (Below wz.heap.size wz), x.w.cell? ⟨b, o + k * 4 + 1, none⟩ = some (.int .i64 at_) := fun x => ((O6.out.go x.ok).below.cell (p := ⟨b, o + k * 4 + 1, none⟩) hb).trans HC.out.2.1
                  have HPK := Lib.hid (show ∀ W, Below wz.heap.size wz W → Calls Try.prog 13 #[.pointer (some ⟨g, 0, none⟩), .int .i64 q2] W fun e w' => e = .returned (.int .u64 (nth ws' q2)) ∧ Below wz.heap.size wz w' from fun W hW => by
                    have := Peek_any g h ws' ((t : Int) + 1) q2 W (O6.out.go hW).bank
                    rw [wordF_nat (by rw [HL2.out]; exact hlq2)] at this
                    exact this.mono fun _ _ ⟨he, hb⟩ => ⟨he, bl hW hb⟩)
                  cases hne : (nth ws' q2 != nth ws q2) with
                  | false =>
                    go_wp2_with fail
                    have hnonempty : Nonempty (Held (Below wz.heap.size wz)) := ⟨⟨wz, Below.refl _ _⟩⟩
                    refine drawn_held (S := Below wz.heap.size wz) (by kernel_rfl) (by kernel_rfl) (Below.refl _ _).drew ?_
                    repeat (go_big_quiet_step ((go_at_call 13; exact held_call HPK.out)))
                    refine wpQuiet_nil ?_
                    intro w7 hw'; obtain ⟨⟨w7', hb7⟩, hw''⟩ := hw'; dsimp only at hw''; subst hw''
                    have Q1 := Lib.hid (O6.out.go hb7)
                    have Q3 := Lib.hid (row_bl HROW.out hb7)
                    clear hb7 cw ca
                    go_wp2_with fail
                    go_roundw
                    case rel => exact ⟨q2 + 1, by omega, by go_num, Q3.out, Q1.out⟩
                    case measure => simp [intOf]; omega
                  | true =>
                    have hqa : at_ = (q2 : Int) := by
                      apply Classical.byContradiction
                      intro hcon
                      have := HOTH.out q2 hcon
                      rw [this] at hne
                      simp at hne
                    have hqb : ((q2 : Int) != at_) = false := by rw [hqa]; simp
                    clear hqa
                    go_wp2_with fail
                    have hnonempty : Nonempty (Held (Below wz.heap.size wz)) := ⟨⟨wz, Below.refl _ _⟩⟩
                    refine drawn_held (S := Below wz.heap.size wz) (by kernel_rfl) (by kernel_rfl) (Below.refl _ _).drew ?_
                    repeat (go_big_quiet_step ((go_at_call 13; exact held_call HPK.out)))
                    refine wpQuiet_nil ?_
                    intro w7 hw'; obtain ⟨⟨w7', hb7⟩, hw''⟩ := hw'; dsimp only at hw''; subst hw''
                    have Q1 := Lib.hid (O6.out.go hb7)
                    have Q3 := Lib.hid (row_bl HROW.out hb7)
                    clear hb7 cw ca
                    go_wp2_with fail
                    go_roundw
                    case rel => exact ⟨q2 + 1, by omega, by go_num, Q3.out, Q1.out⟩
                    case measure => simp [intOf]; omega
                · go_wp2_with fail
                  refine (Touches_any g h ws' ((t : Int) + 1) _ O6.out.bank).mono ?_; rintro e w' ⟨rfl, rfl⟩
                  go_wp2_with fail
                  go_roundw
                  case rel => exact ⟨k + 1, by omega, by go_num, _, t + 1, by omega, HL2.out, by rw [Int.natCast_add]; exact O6.out⟩
                  case measure => simp [intOf]; omega
            · have a6 : (l k).at_ < 6 := by have := HLEN.out; omega
              rw [IntWalk.i64_in _ (show -9223372036854775808 ≤ (t : Int) + 1 ∧ (t : Int) + 1 ≤ 9223372036854775807 by omega)] at hb4
              have O5 := Lib.hid (O4.out.step hb4 he4)
              have d0 := (O5.out.below.cell (p := ⟨b, o + k * 4, none⟩) hb).trans HC.out.1
              have d1 := (O5.out.below.cell (p := ⟨b, o + k * 4 + 1, none⟩) hb).trans HC.out.2.1
              clear hb4 he4
              generalize doWs ws (l k) = ws' at *
              generalize hkd : (l k).kind = kd at *
              generalize hat : (l k).at_ = at_ at *
              generalize errF ws at_ = er at *
              generalize doWord ws (l k) = dw at *
              clear hkd hat
              have htt : (((t : Int) + 1) != ((t : Int) + 1)) = false := by simp
              have hd4 : decide ((q : Int) < 6) = false := by simp; omega
              have hd5 : decide (q < 6) = false := by simp; omega
              go_wp2_with fail
              go_loopw [12] (fun j w6 => ∃ q : Nat, q ≤ 6 ∧ j = .int .i64 q ∧ w6.rowIs wo.heap.size 50 6 (fun j => .int .u64 (nth ws j)) ∧ Own w w6 g h ws' ((t : Int) + 1)) (fun j _ => 6 - (intOf j).toNat)
              case atStart => exact ⟨0, by omega, rfl, HR5.out, O5.out⟩
              case round =>
                obtain ⟨q2, hq2, rfl, hrow, hown⟩ := hrel
                have HROW := Lib.hid hrow
                have O6 := Lib.hid hown
                clear hrow hown
                have g1 := (O6.out.below.cell (p := ⟨b, o + k * 4 + 1, none⟩) hb).trans HC.out.2.1
                by_cases hlq2 : q2 < 6
                · have hi0 : (0 : Int) ≤ (q2 : Int) := by omega
                  have hi1 : (q2 : Int) < 6 := by omega
                  obtain ⟨wz, rfl⟩ : ∃ wz : World, wz = wr := ⟨_, rfl⟩
                  have cw : ∀ x : Held (Below wz.heap.size wz), x.w.cell? ⟨wo.heap.size, q2, none⟩ = some (.int .u64 (nth ws q2)) := fun x => (row_bl HROW.out x.ok).cell hlq2
                  have ca : ∀ x : Held (Below wz.heap.size wz), x.w.cell? ⟨b, o + k * 4 + 1, none⟩ = some (.int .i64 at_) := fun x => ((O6.out.go x.ok).below.cell (p := ⟨b, o + k * 4 + 1, none⟩) hb).trans HC.out.2.1
                  have HPK := Lib.hid (show ∀ W, Below wz.heap.size wz W → Calls Try.prog 13 #[.pointer (some ⟨g, 0, none⟩), .int .i64 q2] W fun e w' => e = .returned (.int .u64 (nth ws' q2)) ∧ Below wz.heap.size wz w' from fun W hW => by
                    have := Peek_any g h ws' ((t : Int) + 1) q2 W (O6.out.go hW).bank
                    rw [wordF_nat (by rw [HL2.out]; exact hlq2)] at this
                    exact this.mono fun _ _ ⟨he, hb⟩ => ⟨he, bl hW hb⟩)
                  cases hne : (nth ws' q2 != nth ws q2) with
                  | false =>
                    go_wp2_with fail
                    have hnonempty : Nonempty (Held (Below wz.heap.size wz)) := ⟨⟨wz, Below.refl _ _⟩⟩
                    refine drawn_held (S := Below wz.heap.size wz) (by kernel_rfl) (by kernel_rfl) (Below.refl _ _).drew ?_
                    repeat (go_big_quiet_step ((go_at_call 13; exact held_call HPK.out)))
                    refine wpQuiet_nil ?_
                    intro w7 hw'; obtain ⟨⟨w7', hb7⟩, hw''⟩ := hw'; dsimp only at hw''; subst hw''
                    have Q1 := Lib.hid (O6.out.go hb7)
                    have Q3 := Lib.hid (row_bl HROW.out hb7)
                    clear hb7 cw ca
                    go_wp2_with fail
                    go_roundw
                    case rel => exact ⟨q2 + 1, by omega, by go_num, Q3.out, Q1.out⟩
                    case measure => simp [intOf]; omega
                  | true =>
                    have hqa : at_ = (q2 : Int) := by
                      apply Classical.byContradiction
                      intro hcon
                      have := HOTH.out q2 hcon
                      rw [this] at hne
                      simp at hne
                    have hqb : ((q2 : Int) != at_) = false := by rw [hqa]; simp
                    clear hqa
                    go_wp2_with fail
                    have hnonempty : Nonempty (Held (Below wz.heap.size wz)) := ⟨⟨wz, Below.refl _ _⟩⟩
                    refine drawn_held (S := Below wz.heap.size wz) (by kernel_rfl) (by kernel_rfl) (Below.refl _ _).drew ?_
                    repeat (go_big_quiet_step ((go_at_call 13; exact held_call HPK.out)))
                    refine wpQuiet_nil ?_
                    intro w7 hw'; obtain ⟨⟨w7', hb7⟩, hw''⟩ := hw'; dsimp only at hw''; subst hw''
                    have Q1 := Lib.hid (O6.out.go hb7)
                    have Q3 := Lib.hid (row_bl HROW.out hb7)
                    clear hb7 cw ca
                    go_wp2_with fail
                    go_roundw
                    case rel => exact ⟨q2 + 1, by omega, by go_num, Q3.out, Q1.out⟩
                    case measure => simp [intOf]; omega
                · go_wp2_with fail
                  refine (Touches_any g h ws' ((t : Int) + 1) _ O6.out.bank).mono ?_; rintro e w' ⟨rfl, rfl⟩
                  go_wp2_with fail
                  go_roundw
                  case rel => exact ⟨k + 1, by omega, by go_num, _, t + 1, by omega, HL2.out, by rw [Int.natCast_add]; exact O6.out⟩
                  case measure => simp [intOf]; omega
      · go_wp2_with fail
        refine (awake_any _).mono ?_; rintro e w5 ⟨rfl, hb5⟩
        go_wp2_with fail
        go_ret
        exact ⟨rfl, bl O3.out.below hb5⟩
  · go_enter Try.func7, Try.ntmps7
    go_wp2_with fail
    refine (New_in 6 (by omega) (by omega) _).mono ?_; rintro e w1 ⟨rfl, hb1, hl1, _⟩
    have HL1 := Lib.hid hl1
    clear hb1 hl1
    go_wp2_with fail
    refine (awake_any _).mono ?_; rintro e w5 ⟨rfl, hb5⟩
    go_wp2_with fail
    go_ret
    exact ⟨rfl, bl HL1.out hb5⟩
end Go.Proofs.Ytabhkplcigdafaa.Bank
