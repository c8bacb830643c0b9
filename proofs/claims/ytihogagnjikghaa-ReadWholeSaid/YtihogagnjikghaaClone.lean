/-
  The bank's Clone: a bank of its own with the same words, as many accesses. Conditions stand at each. By an AI agent.
-/
import Derived.Test.YtihogagnjikghaaOwn
import Derived.Test.YtihogagnjikghaaHead
import Derived.Deep.OwnRows
import Derived.Deep.RegionWith
namespace Go.Proofs.Ytihogagnjikghaa.Bank
set_option linter.unusedVariables false
set_option linter.unusedSimpArgs false
open Go Go.RowKit Go.Proofs.Ytihogagnjikghaa.Base Go.Deep

theorem store64_any (g : Nat) (t d : Int) (w : World) (hc : w.cell? ⟨g, 1, none⟩ = some (.int .i64 t)) (hf : w.frozen? ⟨g, 1, none⟩ = false) :
    Calls Try.prog 49 #[.pointer (some ⟨g, 1, none⟩), .int .i64 d] w fun e w' => e = .returned (.tuple #[]) ∧ w' = w.setCell ⟨g, 1, none⟩ (.int .i64 d) := by
  have hd := run_call_store (P := Try.prog) Try.func60 (by kernel_rfl) (by kernel_rfl) (by kernel_rfl) (by kernel_rfl) (k := .i64) (y := d) hc hf
  go_enter Try.func49, Try.ntmps49
  go_wp2
  go_end0
  exact ⟨rfl, rfl⟩

/-- the first q words of ws, and noughts -/
def part (ws : List Int) (q : Nat) : List Int := ws.take q ++ zeros (ws.length - q)
theorem part_zero (ws : List Int) : part ws 0 = zeros ws.length := by simp [part]
theorem part_all (ws : List Int) : part ws ws.length = ws := by simp [part, zeros]
theorem part_len (ws : List Int) (q : Nat) (hq : q ≤ ws.length) : (part ws q).length = ws.length := by
  simp only [part, List.length_append, List.length_take, zeros_len]; omega
theorem part_set (ws : List Int) (q : Nat) (hq : q < ws.length) : (part ws q).set q (nth ws q) = part ws (q + 1) := by
  apply List.ext_getElem?
  intro i
  unfold part zeros nth
  rw [List.getElem?_set]
  by_cases h : q = i
  · subst h
    simp [List.getElem?_append, List.getElem?_take, List.getD_eq_getElem?_getD, hq, Nat.min_eq_left (Nat.le_of_lt hq), Nat.min_eq_left (Nat.succ_le_of_lt hq)]
    omega
  · rw [if_neg h, List.getElem?_append, List.getElem?_append, List.length_take, List.length_take, List.getElem?_take, List.getElem?_take, List.getElem?_replicate, List.getElem?_replicate]
    have e1 : min q ws.length = q := by omega
    have e2 : min (q + 1) ws.length = q + 1 := by omega
    rw [e1, e2]
    by_cases h1 : i < q
    · have h2 : i < q + 1 := by omega
      simp [h1, h2]
    · have h2 : ¬ i < q + 1 := by omega
      simp only [h1, h2, if_false]
      by_cases h3 : i < ws.length
      · rw [if_pos (by omega), if_pos (by omega)]
      · rw [if_neg (by omega), if_neg (by omega)]

set_option maxRecDepth 100000 in
set_option maxHeartbeats 4000000 in
theorem Clone_any (g h : Nat) (ws : List Int) (t : Int) (w : World) (hb : BankAt w g h ws t) :
    Calls Try.prog 28 #[.pointer (some ⟨g, 0, none⟩)] w fun e w' => e = .returned (.pointer (some ⟨w.heap.size + 1, 0, none⟩)) ∧ BankAt w' (w.heap.size + 1) w.heap.size ws t ∧ Below w.heap.size w w' := by
  have c0 := hb.head.cell 0
  simp only [List.getElem?_toArray, List.getElem?_cons_zero] at c0
  have hlen := hb.len
  have hmk := make_words ws.length hb.len w
  have hbk : BankAt ((w.alloc (.cells ((zeros ws.length).map (Value.int .u64)).toArray 43)).alloc (.cells #[.slice (some ⟨w.heap.size, 0, none⟩) ws.length ws.length, .int .i64 0] 79)) (w.heap.size + 1) w.heap.size (part ws 0) 0 := by
    rw [part_zero]
    refine ⟨?_, (Blk.new w _ _).alloc _, by rw [zeros_len]; exact hlen, zeros_fit _⟩
    rw [zeros_len]
    have := Blk.new (w.alloc (.cells ((zeros ws.length).map (Value.int .u64)).toArray 43)) 79 #[.slice (some ⟨w.heap.size, 0, none⟩) ws.length ws.length, .int .i64 0]
    rwa [World.size_alloc] at this
  have HBK := Lib.hid hbk
  have HB := Lib.hid hb
  have hgl : g < w.heap.size := hb.head.lt
  have hhl : h < w.heap.size := hb.row.lt
  clear hbk hb
  have hbelow : Below w.heap.size w ((w.alloc (.cells ((zeros ws.length).map (Value.int .u64)).toArray 43)).alloc (.cells #[.slice (some ⟨w.heap.size, 0, none⟩) ws.length ws.length, .int .i64 0] 79)) := ((Below.refl _ _).alloc (Nat.le_refl _) _).alloc (by simp) _
  have HBL := Lib.hid hbelow
  have c0' : ((w.alloc (.cells ((zeros ws.length).map (Value.int .u64)).toArray 43)).alloc (.cells #[.slice (some ⟨w.heap.size, 0, none⟩) ws.length ws.length, .int .i64 0] 79)).cell? ⟨g, 0, none⟩ = some (.slice (some ⟨h, 0, none⟩) ws.length ws.length) :=
    (hbelow.cell (p := ⟨g, 0, none⟩) hgl).trans c0
  clear hbelow
  go_enter Try.func28, Try.ntmps28
  go_wp2_with fail
  clear c0 c0' hmk
  generalize hw1 : (w.alloc (.cells ((zeros ws.length).map (Value.int .u64)).toArray 43)).alloc (.cells #[.slice (some ⟨w.heap.size, 0, none⟩) ws.length ws.length, .int .i64 0] 79) = w1 at *
  clear hw1
  obtain ⟨M, hM⟩ : ∃ M, M = w.heap.size := ⟨_, rfl⟩
  have hn1 : g ≠ M + 1 := by omega
  have hn2 : h ≠ M + 1 := by omega
  have hn3 : g ≠ M := by omega
  have hn4 : h ≠ M := by omega
  have hk1 : w.heap.size ≤ M + 1 := by omega
  have hk2 : w.heap.size ≤ M := by omega
  rw [← hM] at HBK
  simp only [← hM]
  have HM := Lib.hid hM
  clear hM
  have HP := Lib.hid (part_len ws)
  have HPA := Lib.hid (part_all ws)
  have HPS := Lib.hid (part_set ws)
  have HRG := Lib.hid (HB.out.range)
  have HWF := Lib.hid (show ∀ q : Nat, q < ws.length → wordF ws q = nth ws q from fun q hq => by rw [wordF_in ⟨by omega, by omega⟩]; rfl)
  generalize hN : ws.length = N at *
  clear hN
  go_loopw [20] (fun i wr => ∃ q : Nat, q ≤ N ∧ i = .int .i64 q ∧ BankAt wr (M + 1) M (part ws q) 0 ∧ Below w.heap.size w wr) (fun i _ => N - (intOf i).toNat)
  case atStart => exact ⟨0, by omega, rfl, HBK.out, HBL.out⟩
  case round =>
    obtain ⟨q, hq, rfl, hb, hbl⟩ := hrel
    have B1 := Lib.hid hb
    have L1 := Lib.hid hbl
    clear hb hbl
    obtain ⟨wz, rfl⟩ : ∃ wz : World, wz = wr := ⟨_, rfl⟩
    have hnonempty : Nonempty (Held (Below wz.heap.size wz)) := ⟨⟨wz, Below.refl _ _⟩⟩
    by_cases hlt : q < N
    · have i1 : (0 : Int) ≤ (q : Int) := by omega
      have i2 : (q : Int) < (N : Int) := by omega
      have i3 : decide ((q : Int) < (N : Int)) = true := by simp; omega
      have c1 : ∀ x : Held (Below wz.heap.size wz), x.w.cell? ⟨M + 1, 0, none⟩ = some (.slice (some ⟨M, 0, none⟩) N N) := fun x => by
        have := (B1.out.below x.ok).head.cell 0
        rw [HP.out q hq] at this
        simpa only [List.getElem?_toArray, List.getElem?_cons_zero] using this
      have HPK := Lib.hid (show ∀ W, Below wz.heap.size wz W → Calls Try.prog 21 #[.pointer (some ⟨g, 0, none⟩), .int .i64 q] W fun e w' => e = .returned (.int .u64 (nth ws q)) ∧ Below wz.heap.size wz w' from fun W hW => by
        have := Peek_any g h ws t q W ((HB.out.below L1.out).below hW)
        rw [HWF.out q hlt] at this
        exact this.mono fun _ _ ⟨he, hb⟩ => ⟨he, bl hW hb⟩)
      go_wp2_with fail
      refine drawn_head (S := Below wz.heap.size wz) 9 _ _ (by kernel_rfl) (by kernel_rfl) rfl (Below.refl _ _).drew ?_
      simp only [List.take_succ_cons, List.take_zero]
      repeat (go_big_quiet_step ((go_at_call 21; exact held_call HPK.out)))
      refine wpQuiet_nil ?_
      intro w7 hw'; obtain ⟨⟨w7', hb7⟩, hw''⟩ := hw'; dsimp only at hw''; subst hw''
      have B2 := Lib.hid (B1.out.below hb7)
      have L2 := Lib.hid (bl L1.out hb7)
      clear c1 hnonempty hb7
      have d1 := B2.out.word (i := q) (by rw [HP.out q hq]; exact hlt)
      have d2 := B2.out.row.frozen q
      go_wp2_with fail
      refine behind_normal ?_
      refine wpStill_nil ?_
      have B3 := B2.out.stored q (nth ws q) (HRG.out q)
      rw [HPS.out q hlt] at B3
      have B4 := Lib.hid B3
      have L4 := Lib.hid (L2.out.setCell (p := ⟨M, q, none⟩) hk2 (.int .u64 (nth ws q)))
      clear B3 d1 d2
      go_wp2_with fail
      go_roundw
      case rel => exact ⟨q + 1, by omega, by go_num, B4.out, L4.out⟩
      case measure => simp [intOf]; omega
    · have i3 : decide ((q : Int) < (N : Int)) = false := by simp; omega
      obtain rfl : q = N := by omega
      have HB2 := Lib.hid (HB.out.below L1.out)
      have HL := Lib.hid (HB2.out.head.lt)
      have HLD := Lib.hid (show ∀ W, Below wz.heap.size wz W → Calls Try.prog 48 #[.pointer (some ⟨g, 1, none⟩)] W fun e w' => e = .returned (.int .i64 t) ∧ Below wz.heap.size wz w' from fun W hW => by
        have := (HB2.out.below hW).head.cell 1
        simp only [List.getElem?_toArray, List.getElem?_cons_succ, List.getElem?_cons_zero] at this
        exact (load64_any g t W this).mono fun _ _ ⟨he, hb⟩ => ⟨he, hb ▸ hW⟩)
      go_wp2_with fail
      refine drawn_head (S := Below wz.heap.size wz) 7 _ _ (by kernel_rfl) (by kernel_rfl) rfl (Below.refl _ _).drew ?_
      simp only [List.take_succ_cons, List.take_zero]
      repeat (go_big_quiet_step ((go_at_call 48; exact held_call HLD.out)))
      refine wpQuiet_nil ?_
      intro w7 hw'; obtain ⟨⟨w7', hb7⟩, hw''⟩ := hw'; dsimp only at hw''; subst hw''
      have B2 := Lib.hid (B1.out.below hb7)
      have L2 := Lib.hid (bl L1.out hb7)
      clear hb7 hnonempty
      have d1 : w7.cell? ⟨M + 1, 1, none⟩ = some (.int .i64 0) := by
        have := B2.out.head.cell 1
        simpa only [List.getElem?_toArray, List.getElem?_cons_succ, List.getElem?_cons_zero] using this
      go_wp2_with fail
      refine (store64_any (M + 1) 0 t _ d1 (B2.out.head.frozen _)).mono ?_; rintro e w8 ⟨rfl, rfl⟩
      have B3 := B2.out.touched t
      have B4 := Lib.hid B3
      have L4 := Lib.hid (L2.out.setCell (p := ⟨M + 1, 1, none⟩) hk1 (.int .i64 t))
      clear B3 d1
      go_wp2_with fail
      refine behind_normal ?_
      refine wpStill_nil ?_
      go_wp2_with fail
      go_ret
      have B5 := B4.out
      rw [HPA.out] at B5
      have hM := HM.out
      subst hM
      exact ⟨rfl, B5, L4.out⟩

theorem Clone_nil (w : World) :
    Calls Try.prog 28 #[.pointer none] w fun e w' => e = .returned (.pointer none) ∧ w = w' := by
  go_enter Try.func28, Try.ntmps28
  go_wp2_with fail
  go_ret
  exact ⟨rfl, rfl⟩

/-- two banks of the call's own, apart -/
structure Two (w a : World) (g h g2 h2 : Nat) (ws : List Int) (t : Int) (ws2 : List Int) (t2 : Int) : Prop where
  own : Own w a g h ws t
  own2 : Own w a g2 h2 ws2 t2
  n1 : g ≠ g2
  n2 : g ≠ h2
  n3 : h ≠ g2
  n4 : h ≠ h2
section
variable {w a b : World} {g h g2 h2 : Nat} {ws ws' ws2 : List Int} {t t' t2 : Int}
theorem Two.go (p : Two w a g h g2 h2 ws t ws2 t2) (q : Below a.heap.size a b) : Two w b g h g2 h2 ws t ws2 t2 := ⟨p.own.go q, p.own2.go q, p.n1, p.n2, p.n3, p.n4⟩
theorem Two.right (p : Two w a g h g2 h2 ws t ws2 t2) (q : BankAt b g2 h2 ws' t') (r : Ex2 g2 h2 a b) : Two w b g h g2 h2 ws t ws' t' :=
  ⟨⟨p.own.bank.other r p.n1 p.n2 p.n3 p.n4, (p.own2.step q r).below, p.own.hg, p.own.hh⟩, p.own2.step q r, p.n1, p.n2, p.n3, p.n4⟩
theorem Two.far (p : Two w a g h g2 h2 ws t ws2 t2) {N : Nat} (h0 : w.heap.size ≤ N) (h1 : N ≠ g) (h2' : N ≠ h) (h3 : N ≠ g2) (h4 : N ≠ h2) (i : Nat) (u : Value) : Two w (a.setCell ⟨N, i, none⟩ u) g h g2 h2 ws t ws2 t2 :=
  ⟨p.own.far h0 h1 h2' i u, p.own2.far h0 h3 h4 i u, p.n1, p.n2, p.n3, p.n4⟩
theorem Two.new (p : Own w a g h ws t) (q : BankAt b (a.heap.size + 1) a.heap.size ws t) (r : Below a.heap.size a b) : Two w b g h (a.heap.size + 1) a.heap.size ws t ws t := by
  have h1 := p.bank.head.lt
  have h2 := p.bank.row.lt
  have h3 := p.below.size
  exact ⟨p.go r, ⟨q, bl p.below r, by omega, by omega⟩, by omega, by omega, by omega, by omega⟩
end
end Go.Proofs.Ytihogagnjikghaa.Bank
