/-
  The laws' own small functions: a spot with a bank of its own, and the chapter's example. Printed by wip/tools/mkwl.py. Conditions stand at each. By an AI agent.
-/
import Derived.Test.YtpfjadgcnaffgaaWrA
import Derived.Laws.ResultCell
namespace Go.Proofs.Ytpfjadgcnaffgaa.Bank
set_option linter.unusedVariables false
set_option linter.unusedSimpArgs false
open Go Go.RowKit Go.Proofs.Ytpfjadgcnaffgaa.Base

theorem BNew_ex (n : Nat) (h1 : 1 ≤ n) (h2 : n ≤ 1048576) (w : World) :
    Calls Try.prog 10 #[.int .i64 n] w fun e w' => ∃ g h, e = .returned (.tuple #[.pointer (some ⟨g, 0, none⟩), .int .i64 0]) ∧ BankAt w' g h (zeros n) 0 ∧ w.heap.size ≤ h ∧ h < g ∧ g < w'.heap.size ∧ Below w.heap.size w w' :=
  (New_in n h1 h2 w).mono fun e w' ⟨he, hb, hl, hs⟩ => ⟨_, _, he, hb, Nat.le_refl _, by omega, by omega, hl⟩
theorem res_cell_tmp2 {P : Program} {fn : Func} {p q r : Tmp} {ty : TypeId} (h : fn.results = #[.cell p ty, .tmp q, .tmp r]) (tmps : Array Value) (w : World) (g : Nat) (t : TypeId) (cs : Array Value) (fr : Nat × Nat) (d : TypeDesc)
    (hp : tmps.getD p undef = .pointer (some ⟨g, 0, none⟩)) (hg : w.heap[g]? = some (.cells cs t fr))
    (hu : P.underlying ty = some d) (hd : (match d with | .struct _ | .array _ _ => true | _ => false) = true) (hi : (P.info? ty).map (·.size) = some cs.size) :
    (results fn tmps).run P w = .ok (.tuple #[.agg cs, tmps.getD q undef, tmps.getD r undef]) w := by
  have hp' : tmps[p]?.getD undef = .pointer (some ⟨g, 0, none⟩) := by simpa using hp
  simp [results, h, hp', asAddr, run_loadVar_row w g t ty cs fr d hg hu hd hi]
/-- a spot with a bank of its own -/
def spotOf (words depth : Int) : Spot := ⟨0, 1, 2, words, depth⟩
def sA : Spot := ⟨9, 10, 11, 2, 3⟩
theorem aw_may : mayF sA 1 = true := by decide +kernel
theorem aw_step (i : Nat) (hi : i < 5) : wStep sA [5, 6] 1 (aloneX 2 0 i) (aloneW 10 13 [5, 6] 0 (zeros 20) i) (tickN 0 i) = (aloneX 2 0 (i + 1), aloneW 10 13 [5, 6] 0 (zeros 20) (i + 1), tickN 0 (i + 1)) :=
  alone_step (s := sA) (rec := [5, 6]) (tries := 1) (k := 0) (p := 13) (ws := zeros 20) (q := 10) (t := 0) (by decide) rfl (by decide) (by decide) (by decide) (by decide) (by decide) (by decide) i hi
theorem aw_inv : ∀ i, i ≤ 5 → WInv sA [5, 6] 1 (aloneX 2 0 i) := by
  intro i
  induction i with
  | zero => intro _; exact WInv.zero_ aw_may rfl (by decide)
  | succ i ih =>
    intro h
    have := (ih (by omega)).step (aloneW 10 13 [5, 6] 0 (zeros 20) i) (tickN 0 i) (by
      have hd : ∀ i, i < 6 → ∀ y ∈ aloneW 10 13 [5, 6] 0 (zeros 20) i, 0 ≤ y ∧ y ≤ 18446744073709551615 := by decide +kernel
      exact hd i (by omega))
    rw [aw_step i (by omega)] at this
    exact this
theorem aw_busy : ∀ i, i < 5 → (aloneX 2 0 i).how = 0 := by decide +kernel
theorem aw_end : (aloneX 2 0 5).how = 1 ∧ (aloneX 2 0 5).gen = 1 ∧ (aloneX 2 0 5).steps = 5 ∧ wordF (aloneW 10 13 [5, 6] 0 (zeros 20) 5) 10 = 2 ∧ wordF (aloneW 10 13 [5, 6] 0 (zeros 20) 5) 13 = 5 ∧ wordF (aloneW 10 13 [5, 6] 0 (zeros 20) 5) 14 = 6 := by decide +kernel
set_option maxRecDepth 100000 in
set_option maxHeartbeats 4000000 in
theorem awake_any (w : World) : Calls Try.prog 9 #[] w fun e w' => e = .returned (.bool true) ∧ Below w.heap.size w w' := by
  go_enter Try.func9, Try.ntmps9
  go_wp2_with fail
  refine (BNew_ex 20 (by omega) (by omega) _).mono ?_; rintro e w1 ⟨g, h, rfl, hk, h1, h2, h3, hl⟩
  have ORD := Lib.hid (show w.heap.size ≤ h ∧ h < g from ⟨h1, h2⟩)
  have K0 := Lib.hid hk
  have L0 := Lib.hid hl
  have S1 := Lib.hid h3
  clear hk hl h1 h2 h3
  go_wp2_with fail
  have ee : Ex (fun _ => False) w1 (w1.alloc (.cells #[.int .u64 5, .int .u64 6] 49)) := (Ex.refl _ w1).alloc _
  have K_1 := Lib.hid (K0.out.ex ee (fun h => h) (fun h => h))
  have L_1 := Lib.hid (Ex.below L0.out ee (fun k hk => hk.elim))
  clear ee K0 L0
  have HN := Lib.hid (WNew_in sA 1 w1.heap.size 0 2 2 [5, 6] (w1.alloc (.cells #[.int .u64 5, .int .u64 6] 49)) aw_may rfl rfl (by simp) (fun i hi => by have := (Blk.new w1 49 #[.int .u64 5, .int .u64 6]).cell (0 + i); rw [this]; match i, hi with | 0, _ => rfl | 1, _ => rfl))
  unfold Spot.val sA at HN
  simp only at HN
  refine HN.out.mono ?_; rintro e w2 ⟨o, r, cc, rfl, ho, h1, h2, hl⟩
  have ORD2 := Lib.hid (show w.heap.size ≤ h ∧ h < g ∧ g < r ∧ r < o from ⟨ORD.out.1, ORD.out.2, by have := S1.out; simp at h1; omega, h2⟩)
  clear HN ORD S1 h1 h2
  have ee : Ex (fun _ => False) (w1.alloc (.cells #[.int .u64 5, .int .u64 6] 49)) w2 := Ex.of_below hl
  have K_2 := Lib.hid (K_1.out.ex ee (fun h => h) (fun h => h))
  have L_2 := Lib.hid (Ex.below L_1.out ee (fun k hk => hk.elim))
  have O_2 := Lib.hid (ho)
  clear ee K_1 L_1 ho hl
  go_wp2_with fail
  go_loopw [5] (fun iv wr => ∃ i : Nat, i ≤ 4 ∧ iv = .int .i64 i ∧ BankAt wr g h (aloneW 10 13 [5, 6] 0 (zeros 20) i) (tickN 0 i) ∧ OpAt wr o r cc sA [5, 6] 1 (aloneX 2 0 i) ∧ Below w.heap.size w wr) (fun iv _ => 4 - (intOf iv).toNat)
  case atStart => exact ⟨0, by omega, rfl, K_2.out, O_2.out, L_2.out⟩
  case round =>
    obtain ⟨i, hi, rfl, hk, ho, hl⟩ := hrel
    have K0 := Lib.hid hk
    have O0 := Lib.hid ho
    have L0 := Lib.hid hl
    clear K_2 O_2 L_2 hk ho hl
    by_cases hlt : i < 4
    · have hd1 : decide ((i : Int) < 4) = true := decide_eq_true (by omega)
      go_wp2_with fail
      have HS := Lib.hid (aw_step i (by omega))
      have HB := Lib.hid (aw_busy (i + 1) (by omega))
      refine (WStep_any g h o r cc _ _ sA [5, 6] 1 (aloneX 2 0 (i)) wr K0.out O0.out (aw_inv (i) (by omega)) (by have o_ := ORD2.out; omega)).mono ?_; rintro e w3 ⟨rfl, hk, ho, hx⟩
      rw [HS.out] at hk ho
      rw [HS.out, HB.out]
      have ee : Ex (fun k => k = g ∨ k = h ∨ k = o) wr w3 := hx
      have L_3 := Lib.hid (Ex.below L0.out ee (fun k hk => by have o_ := ORD2.out; have hk : k = g ∨ k = h ∨ k = o := hk; omega))
      have K_3 := Lib.hid (hk)
      have O_3 := Lib.hid (ho)
      clear ee K0 O0 L0 hx hk ho
      go_wp2_with fail
      go_roundw
      case rel => exact ⟨i + 1, by omega, by go_num, K_3.out, O_3.out, L_3.out⟩
      case measure => simp [intOf]; omega
    · obtain rfl : i = 4 := by omega
      have hd1 : decide (((4 : Nat) : Int) < 4) = false := by decide
      go_wp2_with fail
      have HS := Lib.hid (aw_step 4 (by omega))
      have HE := Lib.hid aw_end
      refine (WStep_any g h o r cc _ _ sA [5, 6] 1 (aloneX 2 0 (4)) wr K0.out O0.out (aw_inv (4) (by omega)) (by have o_ := ORD2.out; omega)).mono ?_; rintro e w3 ⟨rfl, hk, ho, hx⟩
      rw [HS.out] at hk ho
      rw [HS.out, HE.out.1]
      have ee : Ex (fun k => k = g ∨ k = h ∨ k = o) wr w3 := hx
      have L_3 := Lib.hid (Ex.below L0.out ee (fun k hk => by have o_ := ORD2.out; have hk : k = g ∨ k = h ∨ k = o := hk; omega))
      have K_3 := Lib.hid (hk)
      have O_3 := Lib.hid (ho)
      clear ee K0 O0 L0 hx hk ho
      go_wp2_with fail
      refine (WGen_any o r cc sA [5, 6] 1 _ _ O_3.out).mono ?_; rintro e w4 ⟨rfl, rfl⟩
      rw [HE.out.2.1]
      go_wp2_with fail
      refine (WSteps_any o r cc sA [5, 6] 1 _ _ O_3.out).mono ?_; rintro e w4 ⟨rfl, rfl⟩
      rw [HE.out.2.2.1]
      go_wp2_with fail
      refine (Peek_any g h _ _ 10 _ K_3.out).mono ?_; rintro e v0 ⟨rfl, hb⟩
      rw [HE.out.2.2.2.1]
      have ee : Ex (fun _ => False) w3 v0 := Ex.of_below hb
      have K_4 := Lib.hid (K_3.out.ex ee (fun h => h) (fun h => h))
      have O_4 := Lib.hid (O_3.out.ex ee (fun h => h) (fun h => h))
      have L_4 := Lib.hid (Ex.below L_3.out ee (fun k hk => hk.elim))
      clear ee K_3 O_3 L_3 hb
      go_wp2_with fail
      refine (Peek_any g h _ _ 13 _ K_4.out).mono ?_; rintro e v1 ⟨rfl, hb⟩
      rw [HE.out.2.2.2.2.1]
      have ee : Ex (fun _ => False) v0 v1 := Ex.of_below hb
      have K_5 := Lib.hid (K_4.out.ex ee (fun h => h) (fun h => h))
      have O_5 := Lib.hid (O_4.out.ex ee (fun h => h) (fun h => h))
      have L_5 := Lib.hid (Ex.below L_4.out ee (fun k hk => hk.elim))
      clear ee K_4 O_4 L_4 hb
      go_wp2_with fail
      refine (Peek_any g h _ _ 14 _ K_5.out).mono ?_; rintro e v2 ⟨rfl, hb⟩
      rw [HE.out.2.2.2.2.2]
      have ee : Ex (fun _ => False) v1 v2 := Ex.of_below hb
      have K_6 := Lib.hid (K_5.out.ex ee (fun h => h) (fun h => h))
      have O_6 := Lib.hid (O_5.out.ex ee (fun h => h) (fun h => h))
      have L_6 := Lib.hid (Ex.below L_5.out ee (fun k hk => hk.elim))
      clear ee K_5 O_5 L_5 hb
      go_wp2_with fail
      go_ret
      exact ⟨rfl, L_6.out⟩

/-- a spot's bank: so many words of noughts -/
theorem mul_small {words depth : Nat} (hw : words ≤ 64) (hd : depth ≤ 16) : words * depth ≤ 1024 := by
  calc words * depth ≤ 64 * depth := Nat.mul_le_mul_right _ hw
    _ ≤ 64 * 16 := Nat.mul_le_mul_left _ hd
    _ = 1024 := rfl
set_option maxRecDepth 100000 in
set_option maxHeartbeats 4000000 in
theorem spot_in (words depth : Nat) (hw : 1 ≤ words ∧ words ≤ 64) (hd : 2 ≤ depth ∧ depth ≤ 16) (w : World) :
    Calls Try.prog 23 #[.int .i64 words, .int .i64 depth] w fun e w' => ∃ g h, e = .returned (.tuple #[.agg #[.int .i64 0, .int .i64 1, .int .i64 2, .int .i64 words, .int .i64 depth], .pointer (some ⟨g, 0, none⟩), .bool true]) ∧ BankAt w' g h (zeros (2 + words * depth)) 0 ∧ w.heap.size ≤ h ∧ h < g ∧ g < w'.heap.size ∧ Below w.heap.size w w' := by
  have hm := mul_small hw.2 hd.2
  have he : wrap64 (2 + wrap64 ((words : Int) * (depth : Int))) = ((2 + words * depth : Nat) : Int) := by
    rw [← Int.natCast_mul, wrap64_in ((words * depth : Nat) : Int) (by omega), wrap64_in _ (by omega)]
    omega
  have HE := Lib.hid he
  have HM := Lib.hid hm
  have k1 : decide ((words : Int) < 1) = false := decide_eq_false (by omega)
  have k2 : decide ((words : Int) > 64) = false := decide_eq_false (by omega)
  have k3 : decide ((depth : Int) < 2) = false := decide_eq_false (by omega)
  have k4 : decide ((depth : Int) > 16) = false := decide_eq_false (by omega)
  have BA := Lib.hid ((Blk.new w 23 #[.int .i64 0, .int .i64 0, .int .i64 0, .int .i64 0, .int .i64 0]).alloc (.cells #[.int .i64 0, .int .i64 1, .int .i64 2, .int .i64 words, .int .i64 depth] 23))
  have BB := Lib.hid (Blk.new (w.alloc (.cells #[.int .i64 0, .int .i64 0, .int .i64 0, .int .i64 0, .int .i64 0] 23)) 23 #[.int .i64 0, .int .i64 1, .int .i64 2, .int .i64 words, .int .i64 depth])
  have L0 := Lib.hid (((Below.refl w.heap.size w).alloc (Nat.le_refl _) (.cells #[.int .i64 0, .int .i64 0, .int .i64 0, .int .i64 0, .int .i64 0] 23)).alloc (by simp) (.cells #[.int .i64 0, .int .i64 1, .int .i64 2, .int .i64 words, .int .i64 depth] 23))
  clear hm he
  go_enter Try.func23, Try.ntmps23
  go_wp2_with fail
  rw [HE.out]
  refine (BNew_ex _ (by omega) (by have := HM.out; omega) _).mono ?_; rintro e w1 ⟨g, h, rfl, hk, h1, h2, h3, hl⟩
  have HK := Lib.hid hk
  have HL := Lib.hid hl
  simp only [World.size_alloc] at h1
  have H1 := Lib.hid h1
  have H2 := Lib.hid h2
  have H3 := Lib.hid h3
  have BA1 := Lib.hid (BA.out.bl hl)
  have BB1 := Lib.hid (BB.out.bl hl)
  have L1 := Lib.hid (L0.out.trans (hl.mono (by simp; omega)))
  clear hk hl h1 h2 h3 BA BB L0
  have a0 := BA1.out.cell 0
  have a1 := BA1.out.cell 1
  have a2 := BA1.out.cell 2
  have a3 := BA1.out.cell 3
  have a4 := BA1.out.cell 4
  have f0 := BA1.out.frozen 0
  have f1 := BA1.out.frozen 1
  have f2 := BA1.out.frozen 2
  have f3 := BA1.out.frozen 3
  have f4 := BA1.out.frozen 4
  have b0 := BB1.out.cell 0
  have b1 := BB1.out.cell 1
  have b2 := BB1.out.cell 2
  have b3 := BB1.out.cell 3
  have b4 := BB1.out.cell 4
  simp only [List.getElem?_toArray, List.getElem?_cons_succ, List.getElem?_cons_zero] at a0 a1 a2 a3 a4 b0 b1 b2 b3 b4
  simp only [World.size_alloc] at b0 b1 b2 b3 b4
  have bb := ((((BA1.out.set_ 0 (.int .i64 0)).set_ 1 (.int .i64 1)).set_ 2 (.int .i64 2)).set_ 3 (.int .i64 words)).set_ 4 (.int .i64 depth)
  simp only [List.setIfInBounds_toArray, List.set_cons_succ, List.set_cons_zero] at bb
  have ee := (((((Ex.refl (fun k => k = w.heap.size) w1).setCell (q := ⟨w.heap.size, 0, none⟩) (.inl rfl) (.int .i64 0)).setCell (q := ⟨w.heap.size, 1, none⟩) (.inl rfl) (.int .i64 1)).setCell (q := ⟨w.heap.size, 2, none⟩) (.inl rfl) (.int .i64 2)).setCell (q := ⟨w.heap.size, 3, none⟩) (.inl rfl) (.int .i64 words)).setCell (q := ⟨w.heap.size, 4, none⟩) (.inl rfl) (.int .i64 depth)
  have HBB := Lib.hid bb
  have HK2 := Lib.hid (HK.out.ex ee (by have := H1.out; have := H2.out; omega) (by have := H1.out; omega))
  have L2 := Lib.hid (Ex.below L1.out ee (fun k hk => by have hk : k = w.heap.size := hk; omega))
  have H4 := Lib.hid (Nat.lt_of_lt_of_le H3.out ee.size)
  clear bb ee
  go_wp2_with fail
  refine bodyPost_ret (res_cell_tmp2 (fn := Try.f23) rfl _ _ w.heap.size _ _ _ _ rfl HBB.out Try.underlying23 rfl (by kernel_rfl)) rfl ⟨g, h, rfl, HK2.out, by have := H1.out; omega, H2.out, H4.out, L2.out⟩
end Go.Proofs.Ytpfjadgcnaffgaa.Bank
