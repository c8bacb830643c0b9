/-
  The laws' own small functions: the chapter's example, a publishing to its end, two rows of words. Printed by wip/tools/mkrl.py. No condition. By an AI agent.
-/
import Derived.Test.YtihogagnjikghaaRdS
import Derived.Test.YtihogagnjikghaaLw09
namespace Go.Proofs.Ytihogagnjikghaa.Bank
set_option linter.unusedVariables false
set_option linter.unusedSimpArgs false
open Go Go.RowKit Go.Proofs.Ytihogagnjikghaa.Base

def sR : Spot := ⟨9, 10, 11, 2, 3⟩
def rdN (s : Spot) (tries : Int) (ws : List Int) (t : Int) : Nat → RS × List Int × Int
  | 0 => (RS.zero, zeros s.words.toNat, t)
  | i + 1 => rdStep s tries (rdN s tries ws t i).1 (rdN s tries ws t i).2.1 ws (rdN s tries ws t i).2.2
theorem rdN_inv {s : Spot} {tries : Int} (hm : mayF s tries = true) (ws : List Int) (t : Int) (hf : ∀ y ∈ ws, 0 ≤ y ∧ y ≤ 18446744073709551615) : ∀ i, RInv s tries (rdN s tries ws t i).1 (rdN s tries ws t i).2.1
  | 0 => RInv.zero_ hm
  | i + 1 => (rdN_inv hm ws t hf i).step ws _ hf
theorem rA_may : mayF sR 1 = true := by decide +kernel
theorem rA_busy : ∀ i, i < 4 → (rdN sR 1 (zeros 20) 0 i).1.how = 0 := by decide +kernel
theorem rA_len : (rdN sR 1 (zeros 20) 0 4).2.1 = [0, 0] := by decide +kernel
theorem rA_end : (rdN sR 1 (zeros 20) 0 4).1.how = 1 ∧ (rdN sR 1 (zeros 20) 0 4).1.gen = 0 ∧ (rdN sR 1 (zeros 20) 0 4).1.begun = 1 ∧ (rdN sR 1 (zeros 20) 0 4).1.steps = 4 := by decide +kernel
set_option maxRecDepth 100000 in
set_option maxHeartbeats 4000000 in
theorem awake_any (w : World) : Calls Try.prog 7 #[] w fun e w' => e = .returned (.bool true) ∧ Below w.heap.size w w' := by
  go_enter Try.func7, Try.ntmps7
  go_wp2_with fail
  refine (BNew_ex 20 (by omega) (by omega) _).mono ?_; rintro e w1 ⟨g, h, rfl, hk, h1, h2, h3, hl⟩
  have OR0 := Lib.hid (show w.heap.size ≤ h ∧ h < g ∧ g < w1.heap.size from ⟨h1, h2, h3⟩)
  have K0 := Lib.hid hk
  have L0 := Lib.hid hl
  clear hk hl h1 h2 h3
  have HN := Lib.hid (RNew_in sR 1 w1 rA_may)
  unfold Spot.val sR at HN
  simp only at HN
  go_wp2_with fail
  refine HN.out.mono ?_; rintro e w2 ⟨o, r, rfl, ho, h1, h2, hl⟩
  have ORD := Lib.hid (show w.heap.size ≤ h ∧ h < g ∧ g < r ∧ r < o from ⟨OR0.out.1, OR0.out.2.1, by have := OR0.out; omega, h2⟩)
  clear HN h1 h2 OR0
  have ee : Ex (fun _ => False) w1 w2 := Ex.of_below hl
  have K_1 := Lib.hid (K0.out.ex ee (fun h => h) (fun h => h))
  have L_1 := Lib.hid (Ex.below L0.out ee (fun k hk => hk.elim))
  have O_1 := Lib.hid (ho)
  clear ee K0 L0 ho hl
  go_wp2_with fail
  go_loopw [5] (fun iv wr => ∃ i : Nat, i ≤ 3 ∧ iv = .int .i64 i ∧ BankAt wr g h (zeros 20) (rdN sR 1 (zeros 20) 0 i).2.2 ∧ RdAt wr o r sR 1 (rdN sR 1 (zeros 20) 0 i).1 (rdN sR 1 (zeros 20) 0 i).2.1 ∧ Below w.heap.size w wr) (fun iv _ => 3 - (intOf iv).toNat)
  case atStart => exact ⟨0, by omega, rfl, K_1.out, O_1.out, L_1.out⟩
  case round =>
    clear K_1 O_1 L_1
    obtain ⟨i, hi, rfl, hk, ho, hl⟩ := hrel
    have K0 := Lib.hid hk
    have O0 := Lib.hid ho
    have L0 := Lib.hid hl
    clear hk ho hl
    by_cases hlt : i < 3
    · have kd : decide ((i : Int) < 3) = true := decide_eq_true (by omega)
      go_wp2_with fail
      have HB_ := Lib.hid (rA_busy (i + 1) (by omega))
      have HI_ := Lib.hid (rdN_inv rA_may (zeros 20) 0 (zeros_fit 20) i)
      refine (RStep_any g h o r _ _ sR 1 _ _ _ K0.out O0.out HI_.out (by have o_ := ORD.out; omega)).mono ?_; rintro e w3 ⟨rfl, hk, ho, hx⟩
      have ee : Ex (fun k => k = g ∨ k = h ∨ k = o ∨ k = r) wr w3 := hx
      have L_2 := Lib.hid (Ex.below L0.out ee (fun k hk => by have o_ := ORD.out; have hk : k = g ∨ k = h ∨ k = o ∨ k = r := hk; omega))
      have K_2 := Lib.hid (show BankAt w3 g h (zeros 20) (rdN sR 1 (zeros 20) 0 (i + 1)).2.2 from hk)
      have O_2 := Lib.hid (show RdAt w3 o r sR 1 (rdN sR 1 (zeros 20) 0 (i + 1)).1 (rdN sR 1 (zeros 20) 0 (i + 1)).2.1 from ho)
      clear ee K0 O0 L0 hk ho hx HI_
      rw [show (rdStep sR 1 (rdN sR 1 (zeros 20) 0 i).1 (rdN sR 1 (zeros 20) 0 i).2.1 (zeros 20) (rdN sR 1 (zeros 20) 0 i).2.2).1.how = 0 from HB_.out]
      go_wp2_with fail
      go_roundw
      case rel => exact ⟨i + 1, by omega, by go_num, K_2.out, O_2.out, L_2.out⟩
      case measure => simp [intOf]; omega
    · obtain rfl : i = 3 := by omega
      have kd : decide (((3 : Nat) : Int) < 3) = false := by decide
      go_wp2_with fail
      have HI_ := Lib.hid (rdN_inv rA_may (zeros 20) 0 (zeros_fit 20) 3)
      refine (RStep_any g h o r _ _ sR 1 _ _ _ K0.out O0.out HI_.out (by have o_ := ORD.out; omega)).mono ?_; rintro e w3 ⟨rfl, hk, ho, hx⟩
      have ee : Ex (fun k => k = g ∨ k = h ∨ k = o ∨ k = r) wr w3 := hx
      have L_2 := Lib.hid (Ex.below L0.out ee (fun k hk => by have o_ := ORD.out; have hk : k = g ∨ k = h ∨ k = o ∨ k = r := hk; omega))
      have K_2 := Lib.hid (show BankAt w3 g h (zeros 20) (rdN sR 1 (zeros 20) 0 (3 + 1)).2.2 from hk)
      have O_2 := Lib.hid (show RdAt w3 o r sR 1 (rdN sR 1 (zeros 20) 0 (3 + 1)).1 (rdN sR 1 (zeros 20) 0 (3 + 1)).2.1 from ho)
      clear ee K0 O0 L0 hk ho hx HI_
      rw [show (rdStep sR 1 (rdN sR 1 (zeros 20) 0 3).1 (rdN sR 1 (zeros 20) 0 3).2.1 (zeros 20) (rdN sR 1 (zeros 20) 0 3).2.2).1.how = 1 from rA_end.1]
      go_wp2_with fail
      have HI_ := Lib.hid (rdN_inv rA_may (zeros 20) 0 (zeros_fit 20) 4)
      refine (RGot_done o r sR 1 _ _ _ O_2.out HI_.out rA_end.1).mono ?_; rintro e w4 ⟨q, rfl, hq, hqs, hb⟩
      rw [show (rdN sR 1 (zeros 20) 0 (3 + 1)).2.1 = [0, 0] from rA_len] at hq ⊢
      rw [show (rdN sR 1 (zeros 20) 0 (3 + 1)).1.gen = 0 from rA_end.2.1]
      clear HI_ hqs
      have ee : Ex (fun _ => False) w3 w4 := Ex.of_below hb
      have K_3 := Lib.hid (K_2.out.ex ee (fun h => h) (fun h => h))
      have O_3 := Lib.hid (O_2.out.ex ee (fun h => h) (fun h => h))
      have L_3 := Lib.hid (Ex.below L_2.out ee (fun k hk => hk.elim))
      have Q_3 := Lib.hid (hq)
      clear ee K_2 O_2 L_2 hb hq
      have qq0 := Q_3.out.word (i := 0) (by decide)
      have qq1 := Q_3.out.word (i := 1) (by decide)
      simp only [nth, List.getD_cons_zero, List.getD_cons_succ] at qq0 qq1
      go_wp2_with fail
      refine (RAt_any o r sR 1 _ _ _ O_3.out).mono ?_; rintro e w5 ⟨rfl, rfl⟩
      rw [show (if (rdN sR 1 (zeros 20) 0 (3 + 1)).1.how = 1 then (rdN sR 1 (zeros 20) 0 (3 + 1)).1.begun else 0) = 1 by decide +kernel]
      go_wp2_with fail
      refine (RSteps_any o r sR 1 _ _ _ O_3.out).mono ?_; rintro e w5 ⟨rfl, rfl⟩
      rw [show (rdN sR 1 (zeros 20) 0 (3 + 1)).1.steps = 4 from rA_end.2.2.2]
      go_wp2_with fail
      go_ret
      exact ⟨rfl, L_3.out⟩
theorem Row.ints {w : World} {q : Nat} {xs : List Int} (h : Row w q xs) (hl : xs.length ≤ maxLen) : Ints w .u64 (.slice (some ⟨q, 0, none⟩) xs.length xs.length) xs :=
  ⟨_, _, rfl, hl, fun _ => ⟨q, 0, rfl, h.lt, fun i hi => by rw [Nat.zero_add]; exact h.word hi⟩⟩
theorem eq_of_nth {xs ys : List Int} (hl : xs.length = ys.length) (h : ∀ i, i < xs.length → nth xs i = nth ys i) : xs = ys := by
  refine List.ext_getElem hl fun i h1 h2 => ?_
  have := h i h1
  simpa [nth, List.getD_eq_getElem?_getD, List.getElem?_eq_getElem h1, List.getElem?_eq_getElem h2] using this
set_option maxHeartbeats 2000000 in
theorem words_any (v1 v2 : Value) (xs ys : List Int) (w : World) (h1 : Ints w .u64 v1 xs) (h2 : Ints w .u64 v2 ys) (hs : xs.length ≤ 1000) :
    Calls Try.prog 19 #[v1, v2] w fun e w' => e = .returned (.bool (decide (xs = ys))) ∧ Below w.heap.size w w' := by
  obtain ⟨A1, c1, rfl, -, hf1⟩ := h1.form
  obtain ⟨A2, c2, rfl, -, hf2⟩ := h2.form
  have HF1 := Lib.hid hf1
  have HF2 := Lib.hid hf2
  clear h1 h2 hf1 hf2
  by_cases hl : xs.length = ys.length
  · have HE := Lib.hid (fun h : ∀ i, i < xs.length → nth xs i = nth ys i => eq_of_nth hl h)
    have HNE := Lib.hid (fun i (h : nth xs i ≠ nth ys i) => show ¬ xs = ys from fun e => h (by rw [e]))
    have HLY := Lib.hid hl
    have ho : ((xs.length : Int) != (ys.length : Int)) = false := by rw [hl]; simp
    obtain ⟨dd, hdd⟩ : ∃ dd, decide (xs = ys) = dd := ⟨_, rfl⟩
    rw [hdd]
    have HDT := Lib.hid (fun h : xs = ys => show dd = true by rw [← hdd]; exact decide_eq_true h)
    have HDF := Lib.hid (fun h : ¬ xs = ys => show dd = false by rw [← hdd]; exact decide_eq_false h)
    clear hdd hl
    generalize hn : xs.length = n at *
    generalize hm : ys.length = m at *
    have HLM := Lib.hid hm
    have HN := Lib.hid hn
    clear hn hm
    go_enter Try.func19, Try.ntmps19
    go_wp2_with fail
    obtain ⟨w0, rfl⟩ : ∃ w0 : World, w0 = w := ⟨_, rfl⟩
    go_loopw [5] (fun iv wr => ∃ i : Nat, i ≤ n ∧ iv = .int .i64 i ∧ (∀ j, j < i → nth xs j = nth ys j) ∧ Below w0.heap.size w0 wr) (fun iv _ => n - (intOf iv).toNat)
    case atStart => exact ⟨0, by omega, rfl, fun j hj => by omega, Below.refl _ _⟩
    case round =>
      obtain ⟨i, hi, rfl, hp, hl⟩ := hrel
      have L0 := Lib.hid hl
      have HP := Lib.hid hp
      clear hp hl
      by_cases hlt : i < n
      · have kd : decide ((i : Int) < (n : Int)) = true := decide_eq_true (by omega)
        have ki0 : (0 : Int) ≤ (i : Int) := by omega
        have ki1 : (i : Int) < (n : Int) := by omega
        have ki2 : (i : Int) < (m : Int) := by have := HLY.out; omega
        have ki5 : (i : Int) ≤ 1000 := by omega
        obtain ⟨b1, o1, rfl, hb1, hc1⟩ := HF1.out (by intro hh; have := HN.out; rw [hh] at this; simp at this; omega)
        obtain ⟨b2, o2, rfl, hb2, hc2⟩ := HF2.out (by intro hh; have := HLY.out; have h9 := HLM.out; rw [hh] at h9; simp at h9; omega)
        go_upto_region 6 with fail
        have hne : Nonempty (Held (fun W => W = wr.drew)) := ⟨⟨_, rfl⟩⟩
        have p1 : ∀ y : Held (fun W => W = wr.drew), y.w.cell? ⟨b1, o1 + i, none⟩ = some (.int .u64 (nth xs i)) := fun y => by rw [y.ok]; exact (L0.out.drew.cell (p := ⟨b1, o1 + i, none⟩) hb1).trans (hc1 i hlt)
        have p2 : ∀ y : Held (fun W => W = wr.drew), y.w.cell? ⟨b2, o2 + i, none⟩ = some (.int .u64 (nth ys i)) := fun y => by rw [y.ok]; exact (L0.out.drew.cell (p := ⟨b2, o2 + i, none⟩) hb2).trans (hc2 i (by have := HLY.out; omega))
        refine drawn_bars (S := fun _ => True) [] [0, 1, 2, 3, 4, 5, 6, 7, 8] (by kernel_rfl) (by kernel_rfl) (by kernel_rfl) rfl trivial ?_
        refine Phased.end_ ?_
        simp only [pick, List.map_cons, List.map_nil, List.getElem?_cons_zero, List.getElem?_cons_succ, Option.getD_some]
        repeat (go_big_quiet_step (fail))
        refine wpQuiet_nil ?_
        clear hne p1 p2 hc1 hc2
        have L1 := Lib.hid L0.out.drew
        clear L0
        generalize wr.drew = w5 at *
        by_cases hq : nth xs i = nth ys i
        · have kq : (nth xs i != nth ys i) = false := by rw [hq]; simp
          have HQ := Lib.hid hq
          clear hq
          go_wp2_with fail
          go_roundw
          case rel => exact ⟨i + 1, by omega, by go_num, fun j hj => by
            by_cases h : j = i
            · rw [h]; exact HQ.out
            · exact HP.out j (by omega), L1.out⟩
          case measure => simp [intOf]; omega
        · have kq : (nth xs i != nth ys i) = true := by simpa using hq
          have hdf := HDF.out (HNE.out i hq)
          subst hdf
          clear hq
          go_wp2_with fail
          go_ret
          exact ⟨rfl, L1.out⟩
      · obtain rfl : i = n := by omega
        have kd : decide ((i : Int) < (i : Int)) = false := decide_eq_false (by omega)
        have hdt := HDT.out (HE.out (fun j hj => HP.out j hj))
        subst hdt
        go_wp2_with fail
        go_ret
        exact ⟨rfl, L0.out⟩
  · have hd : decide (xs = ys) = false := decide_eq_false (fun e => hl (by rw [e]))
    rw [hd]
    have ho : ((xs.length : Int) != (ys.length : Int)) = true := by rw [bne_iff_ne]; omega
    clear hl hd
    go_enter Try.func19, Try.ntmps19
    go_wp2_with fail
    go_ret
    exact ⟨rfl, Below.refl _ _⟩
set_option maxRecDepth 100000 in
set_option maxHeartbeats 4000000 in
theorem publish_any (g h : Nat) (ws : List Int) (t : Int) (m d k b off c : Nat) (rec : List Int) (w : World) (hm : 1 ≤ m ∧ m ≤ 64) (hd : 2 ≤ d ∧ d ≤ 16) (hk : k ≤ 100) (hl : rec.length = m) (hf : ∀ y ∈ rec, 0 ≤ y ∧ y ≤ 18446744073709551615) (hb : BankAt w g h ws t) (hlen : ws.length = 2 + m * d) (h1 : nth ws 1 = 2 * (k : Int)) (hbl : b < w.heap.size) (hgh : g < w.heap.size ∧ h < w.heap.size)
    (hc : ∀ i : Nat, i < m → w.cell? ⟨b, off + i, none⟩ = some (.int .u64 (nth rec i))) :
    Calls Try.prog 26 #[.pointer (some ⟨g, 0, none⟩), (spotOf m d).val, .slice (some ⟨b, off, none⟩) m c] w fun e w' => e = .returned (.bool true) ∧ BankAt w' g h (aloneW 1 (plc m d (k + 1)) rec k ws (m + 3)) (tickN t (m + 3)) ∧ Ex (fun b => b = g ∨ b = h) w w' := by
  have HB := Lib.hid (show (1 ≤ m ∧ m ≤ 64) ∧ (2 ≤ d ∧ d ≤ 16) ∧ k ≤ 100 from ⟨hm, hd, hk⟩)
  have hmay : mayF (spotOf m d) 1 = true := spot_right hm hd 1 (by omega)
  have HMAY := Lib.hid hmay
  have HBX := Lib.hid (Blk.new w 23 #[.int .i64 0, .int .i64 1, .int .i64 2, .int .i64 m, .int .i64 d])
  have ea := (Ex.refl (fun b => b = g ∨ b = h) w).alloc (.cells #[.int .i64 0, .int .i64 1, .int .i64 2, .int .i64 m, .int .i64 d] 23)
  have eb : Ex (fun _ => False) w (w.alloc (.cells #[.int .i64 0, .int .i64 1, .int .i64 2, .int .i64 m, .int .i64 d] 23)) := (Ex.refl _ w).alloc _
  have HN := Lib.hid (WNew_in (spotOf m d) 1 b off m c rec (w.alloc (.cells #[.int .i64 0, .int .i64 1, .int .i64 2, .int .i64 m, .int .i64 d] 23)) hmay rfl hl (Nat.lt_of_lt_of_le hbl eb.size) (fun i hi => (eb.cell (hc i hi) (fun h => h))))
  have HL := Lib.hid hl
  have hin := spotOf_in hm hd hlen
  have hpl := alone_place (k := k) hm hd
  have hst := fun i hi => alone_step (s := spotOf m d) (rec := rec) (tries := 1) (k := k) (p := plc m d (k + 1)) (ws := ws) (q := 1) (t := t) (by rw [hl]; exact hm.1) rfl (by have := hin.2; omega) h1 (by omega) hpl.1 (by rw [hl, hlen]; exact hpl.2) (by unfold plc; omega) i hi
  rw [hl] at hst
  have HST := Lib.hid hst
  have K0 := Lib.hid (hb.ex eb (fun h => h) (fun h => h))
  have X0 := Lib.hid ea
  have SZ := Lib.hid (show g < w.heap.size ∧ h < w.heap.size ∧ w.heap.size < (w.alloc (.cells #[.int .i64 0, .int .i64 1, .int .i64 2, .int .i64 m, .int .i64 d] 23)).heap.size from ⟨hgh.1, hgh.2, by simp⟩)
  have HWI0 := Lib.hid (WInv.zero_ (s := spotOf m d) (rec := rec) hmay (by rw [hl]; rfl) hf)
  clear hm hd hk hl hf hb hlen h1 hbl hgh hc hmay ea eb hin hpl hst
  unfold Spot.val spotOf at HN ⊢
  simp only at HN ⊢
  generalize plc m d (k + 1) = p at *
  go_enter Try.func26, Try.ntmps26
  have Sq0 := (HBX.out).cell 0
  have Sq1 := (HBX.out).cell 1
  have Sq2 := (HBX.out).cell 2
  have Sq3 := (HBX.out).cell 3
  have Sq4 := (HBX.out).cell 4
  simp only [List.getElem?_toArray, List.getElem?_cons_succ, List.getElem?_cons_zero] at Sq0 Sq1 Sq2 Sq3 Sq4
  go_wp2_with fail
  clear Sq0 Sq1 Sq2 Sq3 Sq4
  generalize w.alloc (.cells #[.int .i64 0, .int .i64 1, .int .i64 2, .int .i64 m, .int .i64 d] 23) = w1 at *
  refine HN.out.mono ?_; rintro e w2 ⟨o, r, cc, rfl, ho, q1, q2, hl⟩
  have ORD := Lib.hid (show g < w.heap.size ∧ h < w.heap.size ∧ w.heap.size < r ∧ r < o from ⟨SZ.out.1, SZ.out.2.1, Nat.lt_of_lt_of_le SZ.out.2.2 q1, q2⟩)
  clear HN q1 q2 HBX
  have ee : Ex (fun _ => False) w1 w2 := Ex.of_below hl
  have K1 := Lib.hid (K0.out.ex ee (fun h => h) (fun h => h))
  have O1 := Lib.hid ho
  have X1 := Lib.hid (show Ex (fun b => b = g ∨ b = h ∨ b = o) w w2 from (X0.out.mono (fun b hb => hb.elim .inl (fun h => .inr (.inl h)))).trans (Ex.of_below hl))
  clear ee K0 X0 ho hl
  go_wp2_with fail
  obtain ⟨wk, rfl⟩ : ∃ wk : World, wk = w2 := ⟨_, rfl⟩
  have km : wrap64 ((m : Int) + 3) = (m : Int) + 3 := wrap64_in _ (by have := HB.out; omega)
  go_loopw [9] (fun iv wr => ∃ i : Nat, i ≤ m + 3 ∧ iv = .int .i64 i ∧ BankAt wr g h (aloneW 1 p rec k ws i) (tickN t i) ∧ OpAt wr o r cc (spotOf m d) rec 1 (aloneX m k i) ∧ WInv (spotOf m d) rec 1 (aloneX m k i) ∧ Ex (fun b => b = g ∨ b = h ∨ b = o) w wr) (fun iv _ => m + 3 - (intOf iv).toNat)
  case atStart => exact ⟨0, by omega, rfl, K1.out, O1.out, HWI0.out, X1.out⟩
  case round =>
    clear K1 O1 HWI0 X1
    obtain ⟨i, hi, rfl, hk, ho, hwi, hx⟩ := hrel
    have K0 := Lib.hid hk
    have O0 := Lib.hid ho
    have WI := Lib.hid hwi
    have X0 := Lib.hid hx
    clear hk ho hwi hx
    by_cases hlt : i < m + 3
    · have kd : decide ((i : Int) < (m : Int) + 3) = true := decide_eq_true (by omega)
      have ki5 : (i : Int) ≤ 67 := by have := HB.out; omega
      have HS := Lib.hid (HST.out i (by omega))
      have HW := Lib.hid (WI.out.step (aloneW 1 p rec k ws i) (tickN t i) K0.out.fit)
      rw [HS.out] at HW
      go_wp2_with fail
      refine (WStep_any g h o r cc _ _ (spotOf m d) rec 1 (aloneX m k i) _ K0.out O0.out WI.out (by have := ORD.out; omega)).mono ?_; rintro e w6 ⟨rfl, hk6, ho6, hx6⟩
      rw [HS.out] at hk6 ho6
      have K2 := Lib.hid hk6
      have O2 := Lib.hid ho6
      have X2 := Lib.hid (X0.out.trans hx6)
      clear hk6 ho6 hx6 K0 O0 X0
      go_wp2_with fail
      go_roundw
      case rel => exact ⟨i + 1, by omega, by go_num, K2.out, O2.out, HW.out, X2.out⟩
      case measure => simp [intOf]; omega
    · obtain rfl : i = m + 3 := by omega
      have kd : decide ((((m + 3 : Nat) : Int)) < (m : Int) + 3) = false := decide_eq_false (by omega)
      have kd2 : decide ((m : Int) + 3 < (m : Int) + 3) = false := decide_eq_false (by omega)
      have HG := Lib.hid (aloneX_gen m k (by have := HB.out; omega))
      have kg : decide ((k : Int) + 1 > 0) = true := decide_eq_true (by omega)
      go_wp2_with fail
      refine (WGen_any o r cc (spotOf m d) rec 1 _ _ O0.out).mono ?_; rintro e w6 ⟨rfl, rfl⟩
      rw [HG.out]
      go_wp2_with fail
      go_ret
      exact ⟨rfl, K0.out, X0.out.mono' (fun b hlt hb => by have hb : b = g ∨ b = h ∨ b = o := hb; have := ORD.out; omega)⟩
end Go.Proofs.Ytihogagnjikghaa.Bank
