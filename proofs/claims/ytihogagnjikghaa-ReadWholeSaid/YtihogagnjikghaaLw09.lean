/-
  What the laws of chapter 8 share, for another law's package. Printed by wip/tools/mkspot.py. Conditions stand at each. By an AI agent.
-/
import Derived.Test.YtihogagnjikghaaWrA
import Derived.Test.YtihogagnjikghaaClone
import Derived.Laws.ResultCell
namespace Go.Proofs.Ytihogagnjikghaa.Bank
set_option linter.unusedVariables false
set_option linter.unusedSimpArgs false
open Go Go.RowKit Go.Proofs.Ytihogagnjikghaa.Base

theorem BNew_ex (n : Nat) (h1 : 1 ≤ n) (h2 : n ≤ 1048576) (w : World) :
    Calls Try.prog 8 #[.int .i64 n] w fun e w' => ∃ g h, e = .returned (.tuple #[.pointer (some ⟨g, 0, none⟩), .int .i64 0]) ∧ BankAt w' g h (zeros n) 0 ∧ w.heap.size ≤ h ∧ h < g ∧ g < w'.heap.size ∧ Below w.heap.size w w' :=
  (New_in n h1 h2 w).mono fun e w' ⟨he, hb, hl, hs⟩ => ⟨_, _, he, hb, Nat.le_refl _, by omega, by omega, hl⟩
theorem res_cell_tmp2 {P : Program} {fn : Func} {p q r : Tmp} {ty : TypeId} (h : fn.results = #[.cell p ty, .tmp q, .tmp r]) (tmps : Array Value) (w : World) (g : Nat) (t : TypeId) (cs : Array Value) (fr : Nat × Nat) (d : TypeDesc)
    (hp : tmps.getD p undef = .pointer (some ⟨g, 0, none⟩)) (hg : w.heap[g]? = some (.cells cs t fr))
    (hu : P.underlying ty = some d) (hd : (match d with | .struct _ | .array _ _ => true | _ => false) = true) (hi : (P.info? ty).map (·.size) = some cs.size) :
    (results fn tmps).run P w = .ok (.tuple #[.agg cs, tmps.getD q undef, tmps.getD r undef]) w := by
  have hp' : tmps[p]?.getD undef = .pointer (some ⟨g, 0, none⟩) := by simpa using hp
  simp [results, h, hp', asAddr, run_loadVar_row w g t ty cs fr d hg hu hd hi]
/-- a spot with a bank of its own -/
def spotOf (words depth : Int) : Spot := ⟨0, 1, 2, words, depth⟩
/-- a spot's bank: so many words of noughts -/
theorem mul_small {words depth : Nat} (hw : words ≤ 64) (hd : depth ≤ 16) : words * depth ≤ 1024 := by
  calc words * depth ≤ 64 * depth := Nat.mul_le_mul_right _ hw
    _ ≤ 64 * 16 := Nat.mul_le_mul_left _ hd
    _ = 1024 := rfl
set_option maxRecDepth 100000 in
set_option maxHeartbeats 4000000 in
theorem spot_in (words depth : Nat) (hw : 1 ≤ words ∧ words ≤ 64) (hd : 2 ≤ depth ∧ depth ≤ 16) (w : World) :
    Calls Try.prog 22 #[.int .i64 words, .int .i64 depth] w fun e w' => ∃ g h, e = .returned (.tuple #[.agg #[.int .i64 0, .int .i64 1, .int .i64 2, .int .i64 words, .int .i64 depth], .pointer (some ⟨g, 0, none⟩), .bool true]) ∧ BankAt w' g h (zeros (2 + words * depth)) 0 ∧ w.heap.size ≤ h ∧ h < g ∧ g < w'.heap.size ∧ Below w.heap.size w w' := by
  have hm := mul_small hw.2 hd.2
  have he : wrap64 (2 + wrap64 ((words : Int) * (depth : Int))) = ((2 + words * depth : Nat) : Int) := by
    rw [← Int.natCast_mul, wrap64_in ((words * depth : Nat) : Int) (by omega), wrap64_in _ (by omega)]
    omega
  have HE := Lib.hid he
  have HM := Lib.hid hm
  have k1 : decide ((words : Int) < 1) = false := decide_eq_false (by omega)
  have k2 : decide ((words : Int) > 64) = false := decide_eq_false (by omega)
  have k3 : decide ((depth : Int) < 2) = false := decide_eq_false (by omega)
  have k4 : decide ((depth : Int) > 16) = false := decide_eq_false (by omega)
  have BA := Lib.hid ((Blk.new w 23 #[.int .i64 0, .int .i64 0, .int .i64 0, .int .i64 0, .int .i64 0]).alloc (.cells #[.int .i64 0, .int .i64 1, .int .i64 2, .int .i64 words, .int .i64 depth] 23))
  have BB := Lib.hid (Blk.new (w.alloc (.cells #[.int .i64 0, .int .i64 0, .int .i64 0, .int .i64 0, .int .i64 0] 23)) 23 #[.int .i64 0, .int .i64 1, .int .i64 2, .int .i64 words, .int .i64 depth])
  have L0 := Lib.hid (((Below.refl w.heap.size w).alloc (Nat.le_refl _) (.cells #[.int .i64 0, .int .i64 0, .int .i64 0, .int .i64 0, .int .i64 0] 23)).alloc (by simp) (.cells #[.int .i64 0, .int .i64 1, .int .i64 2, .int .i64 words, .int .i64 depth] 23))
  clear hm he
  go_enter Try.func22, Try.ntmps22
  go_wp2_with fail
  rw [HE.out]
  refine (BNew_ex _ (by omega) (by have := HM.out; omega) _).mono ?_; rintro e w1 ⟨g, h, rfl, hk, h1, h2, h3, hl⟩
  have HK := Lib.hid hk
  have HL := Lib.hid hl
  simp only [World.size_alloc] at h1
  have H1 := Lib.hid h1
  have H2 := Lib.hid h2
  have H3 := Lib.hid h3
  have BA1 := Lib.hid (BA.out.bl hl)
  have BB1 := Lib.hid (BB.out.bl hl)
  have L1 := Lib.hid (L0.out.trans (hl.mono (by simp; omega)))
  clear hk hl h1 h2 h3 BA BB L0
  have a0 := BA1.out.cell 0
  have a1 := BA1.out.cell 1
  have a2 := BA1.out.cell 2
  have a3 := BA1.out.cell 3
  have a4 := BA1.out.cell 4
  have f0 := BA1.out.frozen 0
  have f1 := BA1.out.frozen 1
  have f2 := BA1.out.frozen 2
  have f3 := BA1.out.frozen 3
  have f4 := BA1.out.frozen 4
  have b0 := BB1.out.cell 0
  have b1 := BB1.out.cell 1
  have b2 := BB1.out.cell 2
  have b3 := BB1.out.cell 3
  have b4 := BB1.out.cell 4
  simp only [List.getElem?_toArray, List.getElem?_cons_succ, List.getElem?_cons_zero] at a0 a1 a2 a3 a4 b0 b1 b2 b3 b4
  simp only [World.size_alloc] at b0 b1 b2 b3 b4
  have bb := ((((BA1.out.set_ 0 (.int .i64 0)).set_ 1 (.int .i64 1)).set_ 2 (.int .i64 2)).set_ 3 (.int .i64 words)).set_ 4 (.int .i64 depth)
  simp only [List.setIfInBounds_toArray, List.set_cons_succ, List.set_cons_zero] at bb
  have ee := (((((Ex.refl (fun k => k = w.heap.size) w1).setCell (q := ⟨w.heap.size, 0, none⟩) (.inl rfl) (.int .i64 0)).setCell (q := ⟨w.heap.size, 1, none⟩) (.inl rfl) (.int .i64 1)).setCell (q := ⟨w.heap.size, 2, none⟩) (.inl rfl) (.int .i64 2)).setCell (q := ⟨w.heap.size, 3, none⟩) (.inl rfl) (.int .i64 words)).setCell (q := ⟨w.heap.size, 4, none⟩) (.inl rfl) (.int .i64 depth)
  have HBB := Lib.hid bb
  have HK2 := Lib.hid (HK.out.ex ee (by have := H1.out; have := H2.out; omega) (by have := H1.out; omega))
  have L2 := Lib.hid (Ex.below L1.out ee (fun k hk => by have hk : k = w.heap.size := hk; omega))
  have H4 := Lib.hid (Nat.lt_of_lt_of_le H3.out ee.size)
  clear bb ee
  go_wp2_with fail
  refine bodyPost_ret (res_cell_tmp2 (fn := Try.f22) rfl _ _ w.heap.size _ _ _ _ rfl HBB.out Try.underlying23 rfl (by kernel_rfl)) rfl ⟨g, h, rfl, HK2.out, by have := H1.out; omega, H2.out, H4.out, L2.out⟩
theorem aloneX_how (m k i : Nat) (hi : i ≤ m + 3) : (aloneX m k i).how = if i = m + 3 then 1 else 0 := by
  unfold aloneX WS.zero
  repeat' split
  all_goals first | rfl | omega
theorem aloneX_steps (m k i : Nat) (hi : i ≤ m + 3) : (aloneX m k i).steps = i := by
  unfold aloneX WS.zero
  repeat' split
  all_goals simp only <;> omega
theorem aloneX_gen (m k : Nat) (hk : k < 4611686018427387904) : (aloneX m k (m + 3)).gen = (k : Int) + 1 := by
  have e : aloneX m k (m + 3) = ⟨1, 3, 0, m + 3, 2 * k, m⟩ := by
    unfold aloneX
    rw [if_neg (by omega), if_neg (by omega), if_neg (by omega), if_neg (by omega)]
  rw [e]
  unfold WS.gen
  simp only [if_true]
  rw [show (2 * (k : Int)) / 2 + 1 = k + 1 by omega, u64_wrap_in (by omega)]
theorem alone_place {m d k : Nat} (hm : 1 ≤ m ∧ m ≤ 64) (hd : 2 ≤ d ∧ d ≤ 16) : atF (spotOf m d) ((k : Int) + 1) = ((2 + (k + 1) % d * m : Nat) : Int) ∧ 2 + (k + 1) % d * m + m ≤ 2 + m * d := by
  have h1 : (k + 1) % d < d := Nat.mod_lt _ (by omega)
  have h2 : ((k + 1) % d + 1) * m ≤ d * m := Nat.mul_le_mul_right _ h1
  rw [Nat.add_mul, Nat.one_mul, Nat.mul_comm d m] at h2
  refine ⟨?_, by omega⟩
  rw [atF_ok (by unfold Spot.AtOk spotOf; simp only; omega)]
  unfold spotOf
  simp only
  push_cast
  rfl
theorem spot_right {m d : Nat} (hm : 1 ≤ m ∧ m ≤ 64) (hd : 2 ≤ d ∧ d ≤ 16) (tries : Int) (ht : 1 ≤ tries ∧ tries ≤ 16) : mayF (spotOf m d) tries = true := by
  unfold mayF Spot.Right spotOf
  simp only
  exact decide_eq_true (by omega)
theorem alone_end {p k : Nat} {rec ws : List Int} (hl : 1 < ws.length) (hp : 1 < p) (hpl : p + rec.length ≤ ws.length) (hr : 1 ≤ rec.length) (j : Nat) :
    nth (aloneW 1 p rec k ws (rec.length + 3)) j = if j = 1 then 2 * (k : Int) + 2 else if p ≤ j ∧ j < p + rec.length then nth rec (j - p) else nth ws j := by
  unfold aloneW
  rw [if_neg (by omega), if_neg (by omega), nth_set _ _ _ _ (by rw [putN_len, List.length_set]; omega)]
  by_cases h1 : j = 1
  · rw [if_pos h1, if_pos h1]
  · rw [if_neg h1, if_neg h1, putN_nth _ _ _ _ (by rw [List.length_set]; omega)]
    by_cases h2 : p ≤ j ∧ j < p + rec.length
    · rw [if_pos h2, if_pos h2]
    · rw [if_neg h2, if_neg h2, nth_set _ _ _ _ hl, if_neg h1]
theorem aloneW_len {q p k : Nat} {rec ws : List Int} (i : Nat) : (aloneW q p rec k ws i).length = ws.length := by
  unfold aloneW
  split
  · rfl
  · split
    · rw [putN_len, List.length_set]
    · rw [List.length_set, putN_len, List.length_set]
theorem i64_wrap64 (x : Int) : IntKind.i64.wrap x = wrap64 x := by
  unfold wrap64 IntKind.wrap
  have e1 : (2 : Int) ^ IntKind.i64.bits = 18446744073709551616 := by decide
  have e2 : (2 : Int) ^ (IntKind.i64.bits - 1) = 9223372036854775808 := by decide
  have e3 : IntKind.i64.signed = true := rfl
  simp only [e1, e2, e3, Bool.true_and, decide_eq_true_eq]
  split <;> omega
theorem nth_zeros (n i : Nat) : nth (zeros n) i = 0 := by
  unfold nth zeros
  rw [List.getD_eq_getElem?_getD, List.getElem?_replicate]
  split <;> rfl
theorem Clone_ex (g h : Nat) (ws : List Int) (t : Int) (w : World) (hb : BankAt w g h ws t) :
    Calls Try.prog 28 #[.pointer (some ⟨g, 0, none⟩)] w fun e w' => ∃ g2 h2, e = .returned (.pointer (some ⟨g2, 0, none⟩)) ∧ BankAt w' g2 h2 ws t ∧ w.heap.size ≤ h2 ∧ h2 < g2 ∧ g2 < w'.heap.size ∧ Below w.heap.size w w' :=
  (Clone_any g h ws t w hb).mono fun e w' ⟨he, hk, hl⟩ => ⟨_, _, he, hk, Nat.le_refl _, by omega, hk.head.lt, hl⟩
set_option maxRecDepth 100000 in
/-- a spot that is none -/
theorem spot_out (words d : Int) (h : words < 1 ∨ 64 < words) (w : World) :
    Calls Try.prog 22 #[.int .i64 words, .int .i64 d] w fun e w' => e = .returned (.tuple #[.agg #[.int .i64 0, .int .i64 0, .int .i64 0, .int .i64 0, .int .i64 0], .pointer none, .bool false]) ∧ Below w.heap.size w w' := by
  have BA := Lib.hid ((Blk.new w 23 #[.int .i64 0, .int .i64 0, .int .i64 0, .int .i64 0, .int .i64 0]))
  have L0 := Lib.hid ((Below.refl w.heap.size w).alloc (Nat.le_refl _) (.cells #[.int .i64 0, .int .i64 0, .int .i64 0, .int .i64 0, .int .i64 0] 23))
  rcases h with h | h
  · have k1 : decide (words < 1) = true := decide_eq_true h
    clear h
    go_enter Try.func22, Try.ntmps22
    go_wp2_with fail
    exact bodyPost_ret (res_cell_tmp2 (fn := Try.f22) rfl _ _ w.heap.size _ _ _ _ rfl BA.out Try.underlying23 rfl (by kernel_rfl)) rfl ⟨rfl, L0.out⟩
  · have k1 : decide (words < 1) = false := decide_eq_false (by omega)
    have k2 : decide (words > 64) = true := decide_eq_true h
    clear h
    go_enter Try.func22, Try.ntmps22
    go_wp2_with fail
    exact bodyPost_ret (res_cell_tmp2 (fn := Try.f22) rfl _ _ w.heap.size _ _ _ _ rfl BA.out Try.underlying23 rfl (by kernel_rfl)) rfl ⟨rfl, L0.out⟩
theorem wordF_setF {ws : List Int} {a x : Int} (h : inW ws a) : wordF (setF ws a x) a = x := by
  have h2 : inW (setF ws a x) a := by unfold inW; rw [setF_len]; exact h
  rw [wordF_in h2, setF_in h, nth_set _ _ _ _ (by have := h.1; have := h.2; omega), if_pos rfl]
theorem nil_place {m : Nat} (hm : 1 ≤ m ∧ m ≤ 64) (nn : Int) : placeF (spotOf m 2) 0 nn = 2 + m + nn := by
  unfold placeF
  have hok : (spotOf m 2).AtOk := by unfold Spot.AtOk spotOf; simp only; omega
  rw [show IntKind.u64.wrap ((0 : Int) / 2 + 1) = 1 by decide, atF_ok hok]
  unfold spotOf
  simp only
  omega
theorem wordF_setF_ne {ws : List Int} {a b x : Int} (h : inW ws b) (ha : 0 ≤ a) (hn : a ≠ b) : wordF (setF ws b x) a = wordF ws a := by
  unfold wordF
  have hi : inW (setF ws b x) a ↔ inW ws a := by unfold inW; rw [setF_len]
  by_cases h2 : inW ws a
  · rw [if_pos (hi.2 h2), if_pos h2, setF_in h, nth_set _ _ _ _ (by have := h.1; have := h.2; omega), if_neg (by have := h.1; omega)]
  · rw [if_neg (fun h3 => h2 (hi.1 h3)), if_neg h2]
abbrev OX := Nat → Option (Nat × Nat × Nat × WS)
def updO (ox : OX) (k : Nat) (y : Option (Nat × Nat × Nat × WS)) : OX := fun j => if j = k then y else ox j
theorem updO_self (ox : OX) (k : Nat) (y) : updO ox k y k = y := if_pos rfl
theorem updO_ne (ox : OX) {k j : Nat} (y) (h : j ≠ k) : updO ox k y j = ox j := if_neg h
def plc (m d gen : Nat) : Nat := 2 + gen % d * m
def Same (ws ws' : List Int) : Prop := ∀ j : Nat, 2 ≤ j → nth ws' j = nth ws j
theorem spotOf_in {m d : Nat} (hm : 1 ≤ m ∧ m ≤ 64) (hd : 2 ≤ d ∧ d ≤ 16) {ws : List Int} (hl : ws.length = 2 + m * d) : inW ws 1 := by
  unfold inW
  have := Nat.mul_le_mul hm.1 hd.1
  omega
theorem wStep_len (s : Spot) (rec : List Int) (tries : Int) (x : WS) (ws : List Int) (t : Int) : (wStep s rec tries x ws t).2.1.length = ws.length := by
  unfold wStep
  repeat' split
  all_goals first | rfl | exact setF_len _ _ _
end Go.Proofs.Ytihogagnjikghaa.Bank
