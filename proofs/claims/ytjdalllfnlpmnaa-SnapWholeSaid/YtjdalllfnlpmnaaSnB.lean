/-
  What the laws of chapter 10 share: a record, a publishing to its end. Conditions stand at each. By an AI agent.
-/
import Derived.Test.YtjdalllfnlpmnaaSnL
import Derived.Test.YtjdalllfnlpmnaaWrU
import Derived.Test.YtjdalllfnlpmnaaWrP
namespace Go.Proofs.Ytjdalllfnlpmnaa.Bank
set_option linter.unusedVariables false
set_option linter.unusedSimpArgs false
open Go Go.RowKit Go.Proofs.Ytjdalllfnlpmnaa.Base Go.Deep Go.ChangeShapes Go.WideShapes
/-- the words of a record that a number tells -/
def recW (x : Int) (i : Nat) : Int := IntKind.u64.wrap (x + IntKind.u64.wrap ((i : Int) * 1000003))
def recL (n : Nat) (x : Int) : List Int := (List.range n).map (recW x)
theorem recL_len (n : Nat) (x : Int) : (recL n x).length = n := by simp [recL]
theorem recL_succ (n : Nat) (x : Int) : recL (n + 1) x = recL n x ++ [recW x n] := by simp [recL, List.range_succ]
theorem recL_fit (n : Nat) (x : Int) : ∀ y ∈ recL n x, 0 ≤ y ∧ y ≤ 18446744073709551615 := by
  intro y hy
  simp only [recL, List.mem_map] at hy
  obtain ⟨i, _, rfl⟩ := hy
  exact u64_wrap_range _
theorem recL_nth (n : Nat) (x : Int) (i : Nat) (h : i < n) : nth (recL n x) i = recW x i := by
  simp [recL, nth, List.getD_eq_getElem?_getD, List.getElem?_map, List.getElem?_range h]
set_option maxRecDepth 100000 in
set_option maxHeartbeats 4000000 in
theorem record_any (n : Nat) (x : Int) (w : World) (hn : n ≤ 64) :
    Calls Try.prog 25 #[.int .i64 (n : Int), .int .u64 x] w fun e w' => ∃ v', e = .returned v' ∧ w'.ownsRow w.heap.size 42 1 v' n ((recL n x).map (Value.int .u64)) ∧ Below w.heap.size w w' := by
  have HN := Lib.hid hn
  obtain ⟨i0_, hi0, hz0, hz1, hz2⟩ := info_parts wordU_info
  clear hn
  go_enter Try.func25, Try.ntmps25
  go_wp2_with fail
  go_loopw [5, 6] (fun s5 s6 wr => ∃ i : Nat, i ≤ n ∧ s6 = .int .i64 i ∧ wr.ownsRow w.heap.size 42 1 s5 i ((recL i x).map (Value.int .u64)) ∧ Below w.heap.size w wr) (fun s5 s6 wr => n - (intOf s6).toNat)
  case atStart => exact ⟨0, by omega, rfl, World.ownsRow_nil _ _ _ _, Below.refl _ _⟩
  case round =>
    obtain ⟨i, hi, rfl, hown, hl⟩ := hrel
    have OW := Lib.hid hown
    have L0 := Lib.hid hl
    clear hl hown
    by_cases hlt : i < n
    · have kd : decide ((i : Int) < (n : Int)) = true := decide_eq_true (by omega)
      have kw : IntKind.u64.wrap (i : Int) = (i : Int) := u64_wrap_in (by have := HN.out; omega)
      have HQ := Lib.hid (turn_no i n hlt (by have := HN.out; unfold maxLen; omega))
      have HI := Lib.hid hlt
      clear hi hlt
      obtain ⟨z, hz⟩ : ∃ z, IntKind.u64.wrap (x + IntKind.u64.wrap ((i : Int) * 1000003)) = z := ⟨_, rfl⟩
      have HZ := Lib.hid (show z = recW x i from hz.symm)
      go_wp2_with (at_builtin; refine wpList_append_own _ rfl _ _ 41 rfl w.heap.size 42 i0_ (.int .u64 0) 1 8 Try.underlying41 hi0 hz0 hz1 hz2 rfl (by decide) _ _ _ rfl (OW.out.alloc _) ⟨wr.heap.size, 0, none⟩ 1 1 [.int .u64 z] rfl rfl ?c1 ?c2 ?c3 ?c4 ?c5 ?_)
      case c1 =>
        have hbn := Blk.new wr 42 #[.int .u64 z]
        intro j u hj
        match j, hj with
        | 0, hj => simp at hj; subst hj; exact hbn.cell 0
      case c2 =>
        intro u hu
        simp only [List.mem_cons, List.not_mem_nil, or_false] at hu
        subst hu; rfl
      case c3 => have := HI.out; have := HN.out; unfold maxLen; omega
      case c4 => have := HI.out; have := HN.out; omega
      case c5 => have := L0.out.size; simp; omega
      intro v' w8 hown' hgrow _
      have hbel' := (L0.out.alloc L0.out.size (.cells #[.int .u64 z] 42)).grown hgrow (by have := L0.out.size; simp; omega) (fun k hk => (OW.out.lt k hk).1)
      have L8 := Lib.hid hbel'
      rw [HZ.out, show [Value.int IntKind.u64 (recW x i)] = [recW x i].map (Value.int .u64) from rfl, ← List.map_append, ← recL_succ] at hown'
      have OW8 := Lib.hid hown'
      clear hown' hgrow hbel' hz
      go_wp2_with fail
      exact ⟨⟨i + 1, HI.out, HQ.out.1, OW8.out, L8.out⟩, HQ.out.2⟩
    · obtain rfl : i = n := by omega
      have kd : decide ((i : Int) < (i : Int)) = false := decide_eq_false (by omega)
      go_wp2_with fail
      go_ret
      exact ⟨_, rfl, OW.out, L0.out⟩
theorem aloneX_gen (m k : Nat) (hk : k < 4611686018427387904) : (aloneX m k (m + 3)).gen = (k : Int) + 1 := by
  have e : aloneX m k (m + 3) = ⟨1, 3, 0, m + 3, 2 * k, m⟩ := by
    unfold aloneX
    rw [if_neg (by omega), if_neg (by omega), if_neg (by omega), if_neg (by omega)]
  rw [e]
  unfold WS.gen
  simp only [if_true]
  rw [show (2 * (k : Int)) / 2 + 1 = k + 1 by omega, u64_wrap_in (by omega)]
/-- a record in memory, as its slice says -/
theorem rec_slice {w : World} {base n : Nat} {v : Value} {x : Int} (h : w.ownsRow base 42 1 v n ((recL n x).map (Value.int .u64))) (hn : 0 < n) (h64 : n ≤ 64) : ∃ r c, v = .slice (some ⟨r, 0, none⟩) n c ∧ base ≤ r ∧ IntsIn w .u64 r c (recL n x) := by
  have h2 : w.ownsRow base 42 1 v (recL n x).length ((recL n x).map (Value.int .u64)) := by rw [recL_len]; exact h
  obtain ⟨r, c, e, h3, h4⟩ := intsIn_of_own h2 (by rw [recL_len]; unfold maxLen; omega) (by intro e; have := recL_len n x; rw [e] at this; simp at this; omega)
  rw [recL_len] at e
  exact ⟨r, c, e, h3, h4⟩
set_option maxRecDepth 100000 in
set_option maxHeartbeats 4000000 in
theorem publish_any (g h : Nat) (ws : List Int) (t : Int) (s : Spot) (m q p k : Nat) (x : Int) (w : World) (hs : s.Right) (hm : s.words = (m : Int)) (hq : s.seq = (q : Int)) (hk : k ≤ 1000) (hb : BankAt w g h ws t) (hql : q < ws.length) (h1 : nth ws q = 2 * (k : Int)) (hp : atF s ((k : Int) + 1) = (p : Int)) (hpl : p + m ≤ ws.length) (hpq : q < p) (hgh : g < w.heap.size ∧ h < w.heap.size) :
    Calls Try.prog 28 #[.pointer (some ⟨g, 0, none⟩), s.val, .int .u64 x] w fun e w' => e = .returned (.bool true) ∧ BankAt w' g h (aloneW q p (recL m x) k ws (m + 3)) (tickN t (m + 3)) ∧ Ex (fun b => b = g ∨ b = h) w w' := by
  have hm1 : 1 ≤ m ∧ m ≤ 64 := by have := hs.1; omega
  have hmay : mayF s 1 = true := by unfold mayF; exact decide_eq_true ⟨hs, by omega, by omega⟩
  have hst := fun i hi => alone_step (s := s) (rec := recL m x) (tries := 1) (k := k) (p := p) (ws := ws) (q := q) (t := t) (by rw [recL_len]; exact hm1.1) hq hql h1 (by omega) hp (by rw [recL_len]; exact hpl) hpq i hi
  rw [recL_len] at hst
  have HST := Lib.hid hst
  have HB := Lib.hid (show (1 ≤ m ∧ m ≤ 64) ∧ k ≤ 1000 from ⟨hm1, hk⟩)
  have HMAY := Lib.hid hmay
  have HWI0 := Lib.hid (WInv.zero_ (s := s) (rec := recL m x) hmay (by rw [recL_len]; exact hm.symm) (recL_fit m x))
  have HMS := Lib.hid hm
  have hmw : s.words = (m : Int) := hm
  have HNW := Lib.hid (fun r c W (h : IntsIn W .u64 r c (recL m x)) => WNew_in s 1 r 0 m c (recL m x) W hmay hm.symm (recL_len m x) h.lt (fun i hi => by rw [Nat.zero_add]; exact h.at_ i (by rw [recL_len]; exact hi)))
  have HBX := Lib.hid (Blk.new w 65 #[.int .i64 s.owners, .int .i64 s.seq, .int .i64 s.first, .int .i64 m, .int .i64 s.depth])
  have ea := (Ex.refl (fun b => b = g ∨ b = h) w).alloc (.cells #[.int .i64 s.owners, .int .i64 s.seq, .int .i64 s.first, .int .i64 m, .int .i64 s.depth] 65)
  have eb : Ex (fun _ => False) w (w.alloc (.cells #[.int .i64 s.owners, .int .i64 s.seq, .int .i64 s.first, .int .i64 m, .int .i64 s.depth] 65)) := (Ex.refl _ w).alloc _
  have K0 := Lib.hid (hb.ex eb (fun h => h) (fun h => h))
  have X0 := Lib.hid ea
  have SZ := Lib.hid (show g < w.heap.size ∧ h < w.heap.size ∧ w.heap.size < (w.alloc (.cells #[.int .i64 s.owners, .int .i64 s.seq, .int .i64 s.first, .int .i64 m, .int .i64 s.depth] 65)).heap.size from ⟨hgh.1, hgh.2, by simp⟩)
  clear hs hq hk hb hql h1 hp hpl hpq hgh hm1 hmay hst ea eb
  unfold Spot.val at HNW ⊢
  rw [hmw] at HNW
  rw [hmw]
  clear hm hmw
  go_enter Try.func28, Try.ntmps28
  go_upto_region 1 with fail
  generalize w.alloc (.cells #[.int .i64 s.owners, .int .i64 s.seq, .int .i64 s.first, .int .i64 m, .int .i64 s.depth] 65) = w1 at *
  generalize hsb : w.heap.size = sb at *
  have HSB := Lib.hid hsb
  clear hsb
  have hne : Nonempty (Held (Below w1.heap.size w1)) := ⟨⟨w1, Below.refl _ _⟩⟩
  have s0 : ∀ y : Held (Below w1.heap.size w1), y.w.cell? ⟨sb, 0, none⟩ = some (.int .i64 s.owners) := fun y => (HBX.out.bl y.ok).cell 0
  have s1 : ∀ y : Held (Below w1.heap.size w1), y.w.cell? ⟨sb, 1, none⟩ = some (.int .i64 s.seq) := fun y => (HBX.out.bl y.ok).cell 1
  have s2 : ∀ y : Held (Below w1.heap.size w1), y.w.cell? ⟨sb, 2, none⟩ = some (.int .i64 s.first) := fun y => (HBX.out.bl y.ok).cell 2
  have s3 : ∀ y : Held (Below w1.heap.size w1), y.w.cell? ⟨sb, 3, none⟩ = some (.int .i64 m) := fun y => (HBX.out.bl y.ok).cell 3
  have s4 : ∀ y : Held (Below w1.heap.size w1), y.w.cell? ⟨sb, 4, none⟩ = some (.int .i64 s.depth) := fun y => (HBX.out.bl y.ok).cell 4
  refine drawn_bars (S := Below w1.heap.size w1) [([0, 1, 2, 3], 4), ([], 5)] [6, 7, 8, 9, 10] (by kernel_rfl) (by kernel_rfl) (by kernel_rfl) rfl (Below.refl _ _).drew ?_
  refine Phased.go ?_
  simp only [pick, List.map_cons, List.map_nil, List.getElem?_cons_zero, List.getElem?_cons_succ, Option.getD_some]
  repeat (go_big_quiet_step (fail))
  refine wpQuiet_nil ?_
  go_wp2_with fail
  refine (record_any m x w1.drew HB.out.1.2).mono ?_; rintro e w2 ⟨rv, rfl, hown, hl1⟩
  obtain ⟨rr, rc, rfl, hrb, hri⟩ := rec_slice hown HB.out.1.1 HB.out.1.2
  have hl2 := bl ((Below.refl w1.heap.size w1).drew) hl1
  clear hown
  go_wp2_with fail
  refine behind_normal ⟨Below w1.heap.size w1, fun W h => h, hl2, ?_⟩
  refine Phased.go ?_
  simp only [pick, List.map_cons, List.map_nil, List.getElem?_cons_zero, List.getElem?_cons_succ, Option.getD_some]
  repeat (go_big_quiet_step (fail))
  refine wpQuiet_nil ?_
  go_wp2_with fail
  refine (HNW.out _ _ _ hri).mono ?_; rintro e w3 ⟨o, r, cc, rfl, ho, q1, q2, hl3⟩
  have hl4 := bl hl2 hl3
  go_wp2_with fail
  refine behind_normal ⟨Below w1.heap.size w1, fun W h => h, hl4, ?_⟩
  refine Phased.end_ ?_
  have hne5 : Nonempty (Held (fun W => W = w3)) := ⟨⟨_, rfl⟩⟩
  simp only [pick, List.map_cons, List.map_nil, List.getElem?_cons_zero, List.getElem?_cons_succ, Option.getD_some]
  repeat (go_big_quiet_step (fail))
  refine wpQuiet_nil ?_
  clear hne5 hne s0 s1 s2 s3 s4 HNW
  have ORD := Lib.hid (show g < sb ∧ h < sb ∧ sb < w1.heap.size ∧ w1.heap.size ≤ r ∧ r < o from ⟨SZ.out.1, SZ.out.2.1, SZ.out.2.2, Nat.le_trans hl2.size q1, q2⟩)
  have K1 := Lib.hid (K0.out.below hl4)
  have O1 := Lib.hid ho
  have B1 := Lib.hid (HBX.out.bl hl4)
  have X1 := Lib.hid (show Ex (fun b => b = g ∨ b = h ∨ b = o) w w3 from (X0.out.mono (fun b hb => hb.elim .inl (fun h => .inr (.inl h)))).trans (Ex.of_below hl4))
  clear K0 X0 ho hl4 hl3 hl2 hl1 q1 q2 hri hrb HBX
  go_wp2_with fail
  obtain ⟨wk, rfl⟩ : ∃ wk : World, wk = w3 := ⟨_, rfl⟩
  have km : wrap64 ((m : Int) + 3) = (m : Int) + 3 := wrap64_in _ (by have := HB.out; omega)
  go_loopw [9] (fun iv wr => ∃ i : Nat, i ≤ m + 3 ∧ iv = .int .i64 i ∧ BankAt wr g h (aloneW q p (recL m x) k ws i) (tickN t i) ∧ OpAt wr o r cc s (recL m x) 1 (aloneX m k i) ∧ WInv s (recL m x) 1 (aloneX m k i) ∧ Blk wr sb 65 #[.int .i64 s.owners, .int .i64 s.seq, .int .i64 s.first, .int .i64 m, .int .i64 s.depth] ∧ Ex (fun b => b = g ∨ b = h ∨ b = o) w wr) (fun iv _ => m + 3 - (intOf iv).toNat)
  case atStart => exact ⟨0, by omega, rfl, K1.out, O1.out, HWI0.out, B1.out, X1.out⟩
  case round =>
    clear K1 O1 HWI0 X1 B1
    obtain ⟨i, hi, rfl, hk, ho, hwi, hbx, hx⟩ := hrel
    have K0 := Lib.hid hk
    have O0 := Lib.hid ho
    have WI := Lib.hid hwi
    have X0 := Lib.hid hx
    have B0 := Lib.hid hbx
    clear hk ho hwi hx hbx
    have c3 := B0.out.cell 3
    simp only [List.getElem?_toArray, List.getElem?_cons_succ, List.getElem?_cons_zero] at c3
    by_cases hlt : i < m + 3
    · have kd : decide ((i : Int) < (m : Int) + 3) = true := decide_eq_true (by omega)
      have ki5 : (i : Int) ≤ 67 := by have := HB.out; omega
      have HS := Lib.hid (HST.out i (by omega))
      have HW := Lib.hid (WI.out.step (aloneW q p (recL m x) k ws i) (tickN t i) K0.out.fit)
      rw [HS.out] at HW
      go_wp2_with fail
      refine (WStep_any g h o r cc _ _ s (recL m x) 1 (aloneX m k i) _ K0.out O0.out WI.out (by have := ORD.out; omega)).mono ?_; rintro e w6 ⟨rfl, hk6, ho6, hx6⟩
      rw [HS.out] at hk6 ho6
      have K2 := Lib.hid hk6
      have O2 := Lib.hid ho6
      have X2 := Lib.hid (X0.out.trans hx6)
      have B2 := Lib.hid (B0.out.ex hx6 (by have := ORD.out; omega))
      clear hk6 ho6 hx6 K0 O0 X0 B0 c3
      go_wp2_with fail
      go_roundw
      case rel => exact ⟨i + 1, by omega, by go_num, K2.out, O2.out, HW.out, B2.out, X2.out⟩
      case measure => simp [intOf]; omega
    · obtain rfl : i = m + 3 := by omega
      have kd : decide ((((m + 3 : Nat) : Int)) < (m : Int) + 3) = false := decide_eq_false (by omega)
      have kd2 : decide ((m : Int) + 3 < (m : Int) + 3) = false := decide_eq_false (by omega)
      have HG := Lib.hid (aloneX_gen m k (by have := HB.out; omega))
      have kg : decide ((k : Int) + 1 > 0) = true := decide_eq_true (by omega)
      go_wp2_with fail
      refine (WGen_any o r cc s (recL m x) 1 _ _ O0.out).mono ?_; rintro e w6 ⟨rfl, rfl⟩
      rw [HG.out]
      go_wp2_with fail
      go_ret
      exact ⟨rfl, K0.out, X0.out.mono' (fun b hlt hb => by have hb : b = g ∨ b = h ∨ b = o := hb; have := ORD.out; have h9 := HSB.out; omega)⟩
end Go.Proofs.Ytjdalllfnlpmnaa.Bank
