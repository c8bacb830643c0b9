/-
  PollAlone, walked. Printed by wip/tools/mkpoz.py. Conditions stand at each. By an AI agent.
-/
import Derived.Test.YthcaagkgddeabaaPoV
import Derived.Test.YthcaagkgddeabaaPoAl
import Derived.Deep.CutRange
import Derived.Deep.CutBlock
namespace Go.Proofs.Ythcaagkgddeabaa.Bank
set_option linter.unusedVariables false
set_option linter.unusedSimpArgs false
open Go Go.RowKit Go.Proofs.Ythcaagkgddeabaa.Base Go.Deep Go.ChangeShapes Go.WideShapes Go.Proofs.Ythcaagkgddeabaa.Queue
/-- none of the first k subscriptions has the i-th one's topic -/
def firstB (l : Nat → Queue.Sub) (i : Nat) : Nat → Bool
  | 0 => true
  | k + 1 => firstB l i k && ((l k).topic != (l i).topic)
theorem firstB_iff (l : Nat → Queue.Sub) (i k : Nat) : firstB l i k = true ↔ ∀ j, j < k → (l j).topic ≠ (l i).topic := by
  induction k with
  | zero => exact ⟨fun _ j hj => absurd hj (by omega), fun _ => rfl⟩
  | succ k ih =>
    unfold firstB
    rw [Bool.and_eq_true, ih, bne_iff_ne]
    exact ⟨fun h j hj => by
      by_cases e : j = k
      · rw [e]; exact h.2
      · exact h.1 j (by omega), fun h => ⟨fun j hj => h j (by omega), h k (by omega)⟩⟩
theorem firstB_tops (l : Nat → Queue.Sub) (s : Nat → Spot) (i : Nat) : (topsL l s (i + 1)).length = (topsL l s i).length + (if firstB l i i then 1 else 0) := by
  rw [topsL_succ]
  by_cases h : (topsL l s i).any (fun t => t.n == (l i).topic) = true
  · rw [if_pos h, if_neg]
    · rfl
    · intro hf
      obtain ⟨t, ht, he⟩ := List.any_eq_true.1 h
      obtain ⟨j, hj, rfl⟩ := topsL_mem l s i t ht
      exact (firstB_iff l i i).1 hf j hj (by simpa using he)
  · rw [if_neg h, if_pos]
    · simp
    · rw [firstB_iff]
      intro j hj e
      obtain ⟨t, ht, he⟩ := topsL_has l s i j hj
      exact h (List.any_eq_true.2 ⟨t, ht, by simpa using he.trans e⟩)
theorem i64_tick {t : Nat} (h : t ≤ 100000) : IntKind.i64.wrap ((t : Int) + 1) = ((t + 1 : Nat) : Int) := by simp [IntKind.wrap, IntKind.bits, IntKind.signed]; omega
theorem topsL_T (n : Nat) (l : Nat → Queue.Sub) (s : Nat → Spot) : (topsL l s n).length = (cOf n l s).T := (topsS_perm l s n).length_eq.symm
set_option maxRecDepth 100000 in
set_option maxHeartbeats 30000000 in
theorem PollAlone_walk (v0 v1 : Value) (c : Cs) (ws0 : List Int) (w : World) (hc : CsAt w v0 c) (hsz : c.n * 48 ≤ 140737488351232) (hws : Ints w .u64 v1 ws0) (hfit : (∀ y ∈ ws0, 0 ≤ y ∧ y ≤ 18446744073709551615)) :
    Calls Try.prog 5 #[v0, v1] w fun e w' => e = .returned (.bool true) ∧ Below w.heap.size w w' := by
  obtain ⟨va, vb, n, m, l, s, tries⟩ := c
  obtain ⟨hv0, hsub, hsps, hcfit⟩ := hc
  simp only at hv0 hsub hsps hcfit hsz
  subst hv0
  obtain ⟨A1, c1, rfl, hnc⟩ := hsub.cap
  obtain ⟨A2, c2, rfl, hm, _⟩ := hsps.form
  obtain ⟨A3, c3, rfl, hlen3, hf3⟩ := hws.form
  have HSUB := Lib.hid hsub
  have HSPS := Lib.hid hsps
  have HCF := Lib.hid hcfit
  have HF3 := Lib.hid hf3
  have HFIT := Lib.hid hfit
  have HSZ := Lib.hid hsz
  obtain ⟨len, hlen⟩ : ∃ len, ws0.length = len := ⟨_, rfl⟩
  have HLEN := Lib.hid hlen
  rw [hlen]
  clear hcfit hsub hsps hws hf3 hfit hnc hm hlen3 hlen hsz
  have L0 := Lib.hid (Below.refl w.heap.size w)
  go_enter Try.func5, Try.ntmps5
  go_upto_region 1 with fail
  have hn := Blk.new w 25 #[.slice A1 n c1, .slice A2 m c2, .int .i64 tries]
  obtain ⟨cb, hnb⟩ : ∃ cb, w.heap.size = cb := ⟨_, rfl⟩
  have hlo_ : w.heap.size ≤ cb := hnb ▸ L0.out.size
  simp only [hnb] at hn ⊢
  have ORD1 := Lib.hid (show w.heap.size ≤ cb from by omega)
  have ee : Ex (fun _ => False) w (w.alloc (.cells #[.slice A1 n c1, .slice A2 m c2, .int .i64 tries] 25)) := (Ex.refl _ w).alloc (.cells #[.slice A1 n c1, .slice A2 m c2, .int .i64 tries] 25)
  have L2 := Lib.hid (Ex.below L0.out ee (fun k hk => hk.elim))
  have C2 := Lib.hid (hn)
  clear ee L0 hn hnb  hlo_
  generalize w.alloc (.cells #[.slice A1 n c1, .slice A2 m c2, .int .i64 tries] 25) = w1 at *
  go_wp2_with fail
  refine (New_in 60 (by decide) (by decide) w1).mono ?_; rintro e w2 ⟨rfl, hb, hl, hsz⟩
  have hb : BankAt w2 (w1.heap.size + 1) w1.heap.size (zeros 60) 0 := hb
  obtain ⟨h, hrr⟩ : ∃ h, w1.heap.size = h := ⟨_, rfl⟩
  have hlt_cb : cb < h := hrr ▸ C2.out.lt
  have hlo_ : w.heap.size ≤ h := hrr ▸ L2.out.size
  simp only [hrr] at hb ⊢
  obtain ⟨g, hg⟩ : ∃ g, h + 1 = g := ⟨_, rfl⟩
  simp only [hg] at hb ⊢
  have ORD3 := Lib.hid (show w.heap.size ≤ cb ∧ cb < h ∧ w.heap.size ≤ h ∧ h + 1 = g from by have o_ := ORD1.out; omega)
  clear ORD1
  have ee : Ex (fun _ => False) w1 w2 := Ex.of_below hl
  have L4 := Lib.hid (Ex.below L2.out ee (fun k hk => hk.elim))
  have C4 := Lib.hid (C2.out.ex ee (fun h => h))
  have K4 := Lib.hid (hb)
  clear ee L2 C2 hb hl hsz hrr hg hlt_cb hlo_
  have cq0 := C4.out.cell 0
  have cq1 := C4.out.cell 1
  have cq2 := C4.out.cell 2
  simp only [List.getElem?_toArray, List.getElem?_cons_succ, List.getElem?_cons_zero] at cq0 cq1 cq2
  by_cases hf : Fits n m l s
  rotate_left
  · have HW := Lib.hid (fun W (hb : Below w.heap.size w W) => PNew_unfit _ _ n m l s tries W (HSUB.out.below hb) (HSPS.out.below hb) hf)
    clear hf
    go_wp2_with fail
    refine (HW.out w2 L4.out).mono ?_; rintro e w3 ⟨rfl, hb⟩
    clear cq0 cq1 cq2
    have ee : Ex (fun _ => False) w2 w3 := Ex.of_below hb
    have L5 := Lib.hid (Ex.below L4.out ee (fun k hk => hk.elim))
    have C5 := Lib.hid (C4.out.ex ee (fun h => h))
    have K5 := Lib.hid (K4.out.ex ee (fun h => h) (fun h => h))
    clear ee L4 C4 K4 hb
    have cq0 := C5.out.cell 0
    simp only [List.getElem?_toArray, List.getElem?_cons_succ, List.getElem?_cons_zero] at cq0
    have ke : ((1 : Int) != 0) = true := rfl
    have kf : ((1 : Int) == 0) = false := rfl
    have k0 : ((0 : Int) != 0) = false := rfl
    by_cases h8 : n ≤ 8
    · have k8 : decide ((n : Int) > 8) = false := decide_eq_false (by omega)
      clear h8
      go_wp2_with fail
      clear cq0 k8 ke kf k0
      refine (awake_any w3).mono ?_; rintro e wz ⟨rfl, hbz⟩
      have ee : Ex (fun _ => False) w3 wz := Ex.of_below hbz
      have L6 := Lib.hid (Ex.below L5.out ee (fun k hk => hk.elim))
      have C6 := Lib.hid (C5.out.ex ee (fun h => h))
      have K6 := Lib.hid (K5.out.ex ee (fun h => h) (fun h => h))
      clear ee L5 C5 K5 hbz
      go_wp2_with fail
      go_ret
      exact ⟨rfl, L6.out⟩
    · have k8 : decide ((n : Int) > 8) = true := decide_eq_true (by omega)
      clear h8
      go_wp2_with fail
      clear cq0 k8 ke kf k0
      refine (awake_any w3).mono ?_; rintro e wz ⟨rfl, hbz⟩
      have ee : Ex (fun _ => False) w3 wz := Ex.of_below hbz
      have L6 := Lib.hid (Ex.below L5.out ee (fun k hk => hk.elim))
      have C6 := Lib.hid (C5.out.ex ee (fun h => h))
      have K6 := Lib.hid (K5.out.ex ee (fun h => h) (fun h => h))
      clear ee L5 C5 K5 hbz
      go_wp2_with fail
      go_ret
      exact ⟨rfl, L6.out⟩
  by_cases ht : 1 ≤ tries ∧ tries ≤ 16
  rotate_left
  · have HW := Lib.hid (fun W (hb : Below w.heap.size w W) => PNew_range _ _ n m l s tries W (HSUB.out.below hb) (HSPS.out.below hb) hf ht)
    clear hf ht
    go_wp2_with fail
    refine (HW.out w2 L4.out).mono ?_; rintro e w3 ⟨rfl, hb⟩
    clear cq0 cq1 cq2
    have ee : Ex (fun _ => False) w2 w3 := Ex.of_below hb
    have L5 := Lib.hid (Ex.below L4.out ee (fun k hk => hk.elim))
    have C5 := Lib.hid (C4.out.ex ee (fun h => h))
    have K5 := Lib.hid (K4.out.ex ee (fun h => h) (fun h => h))
    clear ee L4 C4 K4 hb
    have cq0 := C5.out.cell 0
    simp only [List.getElem?_toArray, List.getElem?_cons_succ, List.getElem?_cons_zero] at cq0
    have ke : ((10 : Int) != 0) = true := rfl
    have kf : ((10 : Int) == 0) = false := rfl
    have k0 : ((0 : Int) != 0) = false := rfl
    by_cases h8 : n ≤ 8
    · have k8 : decide ((n : Int) > 8) = false := decide_eq_false (by omega)
      clear h8
      go_wp2_with fail
      clear cq0 k8 ke kf k0
      refine (awake_any w3).mono ?_; rintro e wz ⟨rfl, hbz⟩
      have ee : Ex (fun _ => False) w3 wz := Ex.of_below hbz
      have L6 := Lib.hid (Ex.below L5.out ee (fun k hk => hk.elim))
      have C6 := Lib.hid (C5.out.ex ee (fun h => h))
      have K6 := Lib.hid (K5.out.ex ee (fun h => h) (fun h => h))
      clear ee L5 C5 K5 hbz
      go_wp2_with fail
      go_ret
      exact ⟨rfl, L6.out⟩
    · have k8 : decide ((n : Int) > 8) = true := decide_eq_true (by omega)
      clear h8
      go_wp2_with fail
      clear cq0 k8 ke kf k0
      refine (awake_any w3).mono ?_; rintro e wz ⟨rfl, hbz⟩
      have ee : Ex (fun _ => False) w3 wz := Ex.of_below hbz
      have L6 := Lib.hid (Ex.below L5.out ee (fun k hk => hk.elim))
      have C6 := Lib.hid (C5.out.ex ee (fun h => h))
      have K6 := Lib.hid (K5.out.ex ee (fun h => h) (fun h => h))
      clear ee L5 C5 K5 hbz
      go_wp2_with fail
      go_ret
      exact ⟨rfl, L6.out⟩
  have HW := Lib.hid (fun W (hb : Below w.heap.size w W) => BNew_in _ _ n m l s tries W (HSUB.out.below hb) (HSPS.out.below hb) HSZ.out hf ht)
  have HFT := Lib.hid hf
  have HTR := Lib.hid ht
  clear hf ht
  go_wp2_with fail
  refine (HW.out w2 L4.out).mono ?_; rintro e w3 ⟨o, rfl, hp, ho, hb⟩
  obtain ⟨N, hN⟩ : ∃ N, w2.heap.size = N := ⟨_, rfl⟩
  have hlt_cb : cb < N := hN ▸ C4.out.lt
  have hlt_g : g < N := hN ▸ K4.out.head.lt
  have hlt_h : h < N := hN ▸ K4.out.row.lt
  have hlo_ : w.heap.size ≤ N := hN ▸ L4.out.size
  rw [hN] at hp ho
  have ORD5 := Lib.hid (show w.heap.size ≤ cb ∧ cb < h ∧ w.heap.size ≤ h ∧ h + 1 = g ∧ cb < N ∧ g < N ∧ h < N ∧ w.heap.size ≤ N ∧ N ≤ o from by have o_ := ORD3.out; omega)
  clear ORD3
  clear cq0 cq1 cq2
  have ee : Ex (fun _ => False) w2 w3 := Ex.of_below hb
  have L6 := Lib.hid (Ex.below L4.out ee (fun k hk => hk.elim))
  have C6 := Lib.hid (C4.out.ex ee (fun h => h))
  have K6 := Lib.hid (K4.out.ex ee (fun h => h) (fun h => h))
  have A6 := Lib.hid (hp)
  clear ee L4 C4 K4 hb hp ho hN hlo_ hlt_cb hlt_g hlt_h
  have cq0 := C6.out.cell 0
  simp only [List.getElem?_toArray, List.getElem?_cons_succ, List.getElem?_cons_zero] at cq0
  have k0 : ((0 : Int) != 0) = false := rfl
  have k00 : ((0 : Int) == 0) = true := rfl
  by_cases h8 : n ≤ 8
  rotate_left
  · have k8 : decide ((n : Int) > 8) = true := decide_eq_true (by omega)
    clear h8
    go_wp2_with fail
    clear cq0 k8 k0 k00
    refine (awake_any w3).mono ?_; rintro e wz ⟨rfl, hbz⟩
    have ee : Ex (fun _ => False) w3 wz := Ex.of_below hbz
    have L7 := Lib.hid (Ex.below L6.out ee (fun k hk => hk.elim))
    have C7 := Lib.hid (C6.out.ex ee (fun h => h))
    have K7 := Lib.hid (K6.out.ex ee (fun h => h) (fun h => h))
    clear ee L6 C6 K6 hbz
    go_wp2_with fail
    go_ret
    exact ⟨rfl, L7.out⟩
  have k8 : decide ((n : Int) > 8) = false := decide_eq_false (by omega)
  go_upto_region 8 with fail
  clear cq0
  have HMN := Lib.hid (show n = m from HFT.out.2.1)
  have hmn := HMN.out
  subst hmn
  have H8 := Lib.hid h8
  have HPG := Lib.hid (x0F_good HFT.out (by omega) (fun i hi => HSUB.out.subs.ok i hi) HTR.out)
  have HPOS := Lib.hid (show 0 < n by have h := HFT.out.1; omega)
  clear k8 k0 k00 h8
  obtain ⟨A_, c_, hv_, _, hgs⟩ := HSUB.out.subs.form
  obtain ⟨b, off, hA1, hb1, hcs1⟩ := hgs HPOS.out
  simp only [Value.slice.injEq, true_and] at hv_
  obtain ⟨rfl, rfl⟩ := hv_
  subst hA1
  obtain ⟨A_, c_, hv_, _, hgs2⟩ := HSPS.out.form
  obtain ⟨b2, off2, hA2, hb2, hcs2⟩ := hgs2 HPOS.out
  simp only [Value.slice.injEq, true_and] at hv_
  obtain ⟨rfl, rfl⟩ := hv_
  subst hA2
  have HC1 := Lib.hid (show ∀ W, Below w.heap.size w W → ∀ i, i < n → W.cell? ⟨b, off + i * 6, none⟩ = some (.int .i64 (l i).topic) ∧ W.cell? ⟨b, off + i * 6 + 2, none⟩ = some (.int .u64 (l i).cur.next) from fun W hW i hi => ⟨(hW.cell (p := ⟨b, _, none⟩) hb1).trans (hcs1 i hi).1, (hW.cell (p := ⟨b, _, none⟩) hb1).trans (hcs1 i hi).2.2.1⟩)
  have HC2 := Lib.hid (show ∀ W, Below w.heap.size w W → ∀ i, i < n → W.cell? ⟨b2, off2 + i * 5, none⟩ = some (.int .i64 (s i).owners) ∧ W.cell? ⟨b2, off2 + i * 5 + 1, none⟩ = some (.int .i64 (s i).seq) ∧ W.cell? ⟨b2, off2 + i * 5 + 2, none⟩ = some (.int .i64 (s i).first) ∧ W.cell? ⟨b2, off2 + i * 5 + 3, none⟩ = some (.int .i64 (s i).words) ∧ W.cell? ⟨b2, off2 + i * 5 + 4, none⟩ = some (.int .i64 (s i).depth) from fun W hW i hi => by
    obtain ⟨x0, x1, x2, x3, x4⟩ := hcs2 i hi
    exact ⟨(hW.cell (p := ⟨b2, _, none⟩) hb2).trans x0, (hW.cell (p := ⟨b2, _, none⟩) hb2).trans x1, (hW.cell (p := ⟨b2, _, none⟩) hb2).trans x2, (hW.cell (p := ⟨b2, _, none⟩) hb2).trans x3, (hW.cell (p := ⟨b2, _, none⟩) hb2).trans x4⟩)
  clear hgs hgs2 hcs1 hcs2 hb1 hb2
  go_wp2_with fail
  have V0 := Lib.hid (Ex.refl (fun _ => False) w3)
  go_loopw [9, 10, 11, 12, 13] (fun s9 s10 s11 s12 s13 wr => ∃ i : Nat, i ≤ n ∧ s10 = .int .i64 i ∧ s9 = .int .i64 ((topsL l s i).length : Nat) ∧ (∀ j, j < i → ((0 ≤ (s j).seq ∧ (s j).seq ≤ 59) ∧ (s j).first + (s j).words * (s j).depth ≤ 60)) ∧ Ex (fun _ => False) w3 wr) (fun s9 s10 s11 s12 s13 _ => n - (intOf s10).toNat)
  case atStart => exact ⟨0, by omega, rfl, rfl, fun j hj => absurd hj (by omega), V0.out⟩
  case round =>
    obtain ⟨i, hi, rfl, rfl, hgd, hy⟩ := hrel
    have HGD := Lib.hid hgd
    have V1 := Lib.hid hy
    have HTL := Lib.hid (show (topsL l s i).length ≤ 8 from Nat.le_trans (topsL_len l s i) (by have h1 := H8.out; omega))
    obtain ⟨tc, htc⟩ : ∃ tc, (topsL l s i).length = tc := ⟨_, rfl⟩
    have HTC := Lib.hid htc
    rw [htc] at HTL ⊢
    clear hgd htc
    have ee : Ex (fun _ => False) w3 wr := hy
    have L7 := Lib.hid (Ex.below L6.out ee (fun k hk => hk.elim))
    have C7 := Lib.hid (C6.out.ex ee (fun h => h))
    have K7 := Lib.hid (K6.out.ex ee (fun h => h) (fun h => h))
    have A7 := Lib.hid (A6.out.ex ee (fun _ h => h.elim))
    have V7 := Lib.hid (V1.out)
    clear ee L6 C6 K6 A6 hy V0 V1
    have cq0 := C7.out.cell 0
    have cq1 := C7.out.cell 1
    simp only [List.getElem?_toArray, List.getElem?_cons_succ, List.getElem?_cons_zero] at cq0 cq1
    by_cases hlt : i < n
    · have kd : decide ((i : Int) < (n : Int)) = true := decide_eq_true (by omega)
      have kd2 : decide (i < n) = true := decide_eq_true hlt
      have ki0 : (0 : Int) ≤ (i : Int) := by omega
      have ki1 : (i : Int) < (n : Int) := by omega
      have HI := Lib.hid hlt
      have HM := Lib.hid (turn_no i n hlt (by have h1 := H8.out; unfold maxLen; omega))
      clear hi hlt
      obtain ⟨x0, x1, x2, x3, x4⟩ := HC2.out wr L7.out i HI.out
      go_upto_region 12 with fail
      clear x0 x1 x2 x3 x4
      have hn := Blk.new wr 48 #[.int .i64 (s i).owners, .int .i64 (s i).seq, .int .i64 (s i).first, .int .i64 (s i).words, .int .i64 (s i).depth]
      clear cq0 cq1
      obtain ⟨xb, hnb⟩ : ∃ xb, wr.heap.size = xb := ⟨_, rfl⟩
      have hlt_cb : cb < xb := hnb ▸ C7.out.lt
      have hlt_g : g < xb := hnb ▸ K7.out.head.lt
      have hlt_h : h < xb := hnb ▸ K7.out.row.lt
      have hlt_o : o < xb := hnb ▸ A7.out.lt
      have hlo_ : w.heap.size ≤ xb := hnb ▸ L7.out.size
      simp only [hnb] at hn ⊢
      have ORD8 := Lib.hid (show w.heap.size ≤ cb ∧ cb < h ∧ w.heap.size ≤ h ∧ h + 1 = g ∧ cb < N ∧ g < N ∧ h < N ∧ w.heap.size ≤ N ∧ N ≤ o ∧ cb < xb ∧ g < xb ∧ h < xb ∧ o < xb ∧ w.heap.size ≤ xb from by have o_ := ORD5.out; omega)
      clear ORD5
      have ee : Ex (fun _ => False) wr (wr.alloc (.cells #[.int .i64 (s i).owners, .int .i64 (s i).seq, .int .i64 (s i).first, .int .i64 (s i).words, .int .i64 (s i).depth] 48)) := (Ex.refl _ wr).alloc (.cells #[.int .i64 (s i).owners, .int .i64 (s i).seq, .int .i64 (s i).first, .int .i64 (s i).words, .int .i64 (s i).depth] 48)
      have L9 := Lib.hid (Ex.below L7.out ee (fun k hk => hk.elim))
      have C9 := Lib.hid (C7.out.ex ee (fun h => h))
      have K9 := Lib.hid (K7.out.ex ee (fun h => h) (fun h => h))
      have A9 := Lib.hid (A7.out.ex ee (fun _ h => h.elim))
      have V9 := Lib.hid (V7.out.trans ee)
      have X9 := Lib.hid (hn)
      clear ee L7 C7 K7 A7 V7 hn hnb hlt_cb hlt_g hlt_h hlt_o hlo_
      generalize wr.alloc (.cells #[.int .i64 (s i).owners, .int .i64 (s i).seq, .int .i64 (s i).first, .int .i64 (s i).words, .int .i64 (s i).depth] 48) = wa at *
      have xq1 := X9.out.cell 1
      have xq2 := X9.out.cell 2
      have xq3 := X9.out.cell 3
      have xq4 := X9.out.cell 4
      simp only [List.getElem?_toArray, List.getElem?_cons_succ, List.getElem?_cons_zero] at xq1 xq2 xq3 xq4
      have HAK := Lib.hid (show (s i).AtOk from (HFT.out.2.2 i HI.out).1)
      have hwd : wrap64 ((s i).words * (s i).depth) = (s i).words * (s i).depth ∧ wrap64 ((s i).first + (s i).words * (s i).depth) = (s i).first + (s i).words * (s i).depth := by
        have h := HAK.out
        have h1 : 0 ≤ (s i).words * (s i).depth := Int.mul_nonneg (by have := h.1; omega) (by have := h.2.1; omega)
        have h2 : (s i).words * (s i).depth ≤ 64 * 16 := Int.mul_le_mul h.1.2 h.2.1.2 (by have := h.2.1; omega) (by decide)
        have h3 := h.2.2
        exact ⟨wrap64_in _ (by omega), wrap64_in _ (by omega)⟩
      have HWD := Lib.hid hwd
      clear hwd
      obtain ⟨bad, hbad⟩ : ∃ bad, decide ((s i).seq < 0 ∨ (s i).seq > 59 ∨ (s i).first > 59 ∨ (s i).first + (s i).words * (s i).depth > 60) = bad := ⟨_, rfl⟩
      have HBAD := Lib.hid hbad
      clear hbad
      go_cut [91] from 68 to 91 (fun v wx => v = .bool bad ∧ wx = wa)
      case first =>
        have hb := HBAD.out
        have kw1 := HWD.out.1
        have kw2 := HWD.out.2
        by_cases t0 : (s i).seq < 0
        · have u0 : decide ((s i).seq < 0) = true := decide_eq_true t0
          rw [decide_eq_true (.inl t0)] at hb
          subst hb
          clear t0
          go_wp2_with fail
          go_meet
          exact ⟨rfl, rfl⟩
        have u0 : decide ((s i).seq < 0) = false := decide_eq_false t0
        by_cases t1 : (s i).seq > 59
        · have u1 : decide ((s i).seq > 59) = true := decide_eq_true t1
          rw [decide_eq_true (.inr (.inl t1))] at hb
          subst hb
          clear t0 t1
          go_wp2_with fail
          go_meet
          exact ⟨rfl, rfl⟩
        have u1 : decide ((s i).seq > 59) = false := decide_eq_false t1
        by_cases t2 : (s i).first > 59
        · have u2 : decide ((s i).first > 59) = true := decide_eq_true t2
          rw [decide_eq_true (.inr (.inr (.inl t2)))] at hb
          subst hb
          clear t0 t1 t2
          go_wp2_with fail
          go_meet
          exact ⟨rfl, rfl⟩
        have u2 : decide ((s i).first > 59) = false := decide_eq_false t2
        by_cases t3 : (s i).first + (s i).words * (s i).depth > 60
        · have u3 : decide (60 < wrap64 ((s i).first + wrap64 ((s i).words * (s i).depth))) = true := by rw [kw1, kw2]; exact decide_eq_true t3
          rw [decide_eq_true (.inr (.inr (.inr t3)))] at hb
          subst hb
          clear t0 t1 t2 t3 kw1 kw2
          go_wp2_with fail
          go_meet
          exact ⟨rfl, rfl⟩
        · have u3 : decide (60 < wrap64 ((s i).first + wrap64 ((s i).words * (s i).depth))) = false := by rw [kw1, kw2]; exact decide_eq_false t3
          rw [decide_eq_false (show ¬ ((s i).seq < 0 ∨ (s i).seq > 59 ∨ (s i).first > 59 ∨ (s i).first + (s i).words * (s i).depth > 60) from fun h => h.elim t0 (fun h => h.elim t1 (fun h => h.elim t2 t3)))] at hb
          subst hb
          clear t0 t1 t2 t3 kw1 kw2
          go_wp2_with fail
          go_meet
          exact ⟨rfl, rfl⟩
      case rest =>
        obtain ⟨rfl, hwc⟩ := hcut
        subst hwc
        clear xq1 xq2 xq3 xq4
        cases bad with
        | true =>
          clear kd kd2
          go_wp2_with fail
          refine (awake_any wc).mono ?_; rintro e wz ⟨rfl, hbz⟩
          have ee : Ex (fun _ => False) wc wz := Ex.of_below hbz
          have L10 := Lib.hid (Ex.below L9.out ee (fun k hk => hk.elim))
          clear ee L9 hbz
          go_wp2_with fail
          go_ret
          exact ⟨rfl, L10.out⟩
        | false =>
          have HGI := Lib.hid (show ((0 ≤ (s i).seq ∧ (s i).seq ≤ 59) ∧ (s i).first + (s i).words * (s i).depth ≤ 60) from by
            have h := of_decide_eq_false HBAD.out
            refine ⟨⟨?_, ?_⟩, ?_⟩
            · rcases Int.lt_or_le (s i).seq 0 with h1 | h1
              · exact absurd (.inl h1) h
              · exact h1
            · rcases Int.lt_or_le 59 (s i).seq with h1 | h1
              · exact absurd (.inr (.inl h1)) h
              · exact h1
            · rcases Int.lt_or_le 60 ((s i).first + (s i).words * (s i).depth) with h1 | h1
              · exact absurd (.inr (.inr (.inr h1))) h
              · exact h1)
          clear HBAD kd kd2
          clear X9
          go_wp2_with fail
          have V4 := Lib.hid (Ex.refl (fun _ => False) wc)
          go_loopw [12, 13] (fun s12 s13 wr => ∃ k : Nat, k ≤ i ∧ s13 = .int .i64 k ∧ s12 = .bool (firstB l i k) ∧ Ex (fun _ => False) wc wr) (fun s12 s13 _ => i - (intOf s13).toNat)
          case atStart => exact ⟨0, by omega, rfl, rfl, V4.out⟩
          case round =>
            obtain ⟨k, hk, rfl, rfl, hy⟩ := hrel
            have V5 := Lib.hid hy
            clear hy V4
            have ee : Ex (fun _ => False) wc wr := V5.out
            have L10 := Lib.hid (Ex.below L9.out ee (fun k hk => hk.elim))
            have C10 := Lib.hid (C9.out.ex ee (fun h => h))
            have K10 := Lib.hid (K9.out.ex ee (fun h => h) (fun h => h))
            have A10 := Lib.hid (A9.out.ex ee (fun _ h => h.elim))
            have V10 := Lib.hid (V9.out.trans ee)
            clear ee L9 C9 K9 A9 V9
            by_cases hlt : k < i
            · have kd : decide ((k : Int) < (i : Int)) = true := decide_eq_true (by omega)
              have kd2 : decide (k < i) = true := decide_eq_true hlt
              have kk0 : (0 : Int) ≤ (k : Int) := by omega
              have HK := Lib.hid hlt
              have kk1 : (k : Int) < (n : Int) := by have h1 := HI.out; omega
              have HM2 := Lib.hid (turn_no k i hlt (by have h1 := H8.out; have h2 := HI.out; unfold maxLen; omega))
              clear hk hlt
              go_upto_region 18 with fail
              have hne : Nonempty (Held (fun W => W = wr.drew)) := ⟨⟨_, rfl⟩⟩
              have p0 : ∀ y : Held (fun W => W = wr.drew), y.w.cell? ⟨cb, 0, none⟩ = some (.slice (some ⟨b, off, none⟩) n c1) := fun y => by rw [y.ok]; exact C10.out.cell 0
              have p1 : ∀ y : Held (fun W => W = wr.drew), y.w.cell? ⟨b, off + k * 6, none⟩ = some (.int .i64 (l k).topic) := fun y => by rw [y.ok]; exact (HC1.out wr L10.out k (by have h1 := HK.out; have h2 := HI.out; omega)).1
              have p2 : ∀ y : Held (fun W => W = wr.drew), y.w.cell? ⟨b, off + i * 6, none⟩ = some (.int .i64 (l i).topic) := fun y => by rw [y.ok]; exact (HC1.out wr L10.out i HI.out).1
              obtain ⟨tb, htb⟩ : ∃ tb, ((l k).topic != (l i).topic) = tb := ⟨_, rfl⟩
              have HFB := Lib.hid (show firstB l i (k + 1) = (firstB l i k && tb) from by rw [← htb]; rfl)
              obtain ⟨fb, hfb⟩ : ∃ fb, firstB l i k = fb := ⟨_, rfl⟩
              rw [hfb] at HFB ⊢
              clear hfb
              cases fb
              · refine drawn_bars (S := fun _ => True) [] [0, 1, 2, 3, 4, 5, 6, 7, 8, 9, 10, 11, 12, 13, 14, 15, 16] (by kernel_rfl) (by kernel_rfl) (by kernel_rfl) rfl trivial ?_
                refine Phased.end_ ?_
                simp only [pick, List.map_cons, List.map_nil, List.getElem?_cons_zero, List.getElem?_cons_succ, Option.getD_some]
                repeat (go_big_quiet_step (fail))
                refine wpQuiet_nil ?_
                clear hne p0 p1 p2
                have V6 := Lib.hid V5.out.drew
                generalize wr.drew = wy at *
                go_wp2_with fail
                go_roundw
                case rel => exact ⟨k + 1, HK.out, HM2.out.1, by rw [HFB.out]; try rfl, V6.out⟩
                case measure => exact HM2.out.2
              · refine drawn_bars (S := fun _ => True) [] [0, 1, 2, 3, 4, 5, 6, 7, 8, 9, 10, 11, 12, 13, 14, 15, 16] (by kernel_rfl) (by kernel_rfl) (by kernel_rfl) rfl trivial ?_
                refine Phased.end_ ?_
                simp only [pick, List.map_cons, List.map_nil, List.getElem?_cons_zero, List.getElem?_cons_succ, Option.getD_some]
                repeat (go_big_quiet_step (fail))
                refine wpQuiet_nil ?_
                clear hne p0 p1 p2
                have V6 := Lib.hid V5.out.drew
                generalize wr.drew = wy at *
                go_wp2_with fail
                go_roundw
                case rel => exact ⟨k + 1, HK.out, HM2.out.1, by rw [HFB.out]; try rfl, V6.out⟩
                case measure => exact HM2.out.2
            · obtain rfl : k = i := by omega
              have kd : decide ((k : Int) < (k : Int)) = false := decide_eq_false (by omega)
              have kd2 : decide (k < k) = false := decide_eq_false (by omega)
              clear hk hlt
              have HFT2 := Lib.hid (firstB_tops l s k)
              obtain ⟨fb, hfb⟩ : ∃ fb, firstB l k k = fb := ⟨_, rfl⟩
              rw [hfb] at HFT2 ⊢
              clear hfb
              have hnw : wrap64 ((tc : Int) + 1) = ((tc + 1 : Nat) : Int) := by rw [wrap64_in _ (by have h1 := HTL.out; omega)]; rfl
              have HNW := Lib.hid hnw
              have VV := Lib.hid (show Ex (fun _ => False) w3 wr from V10.out)
              clear hnw
              cases fb
              · go_wp2_with fail
                go_roundw
                case rel => exact ⟨k + 1, HI.out, HM.out.1, by rw [HFT2.out, HTC.out]; rfl, fun j hj => by
                  by_cases e : j = k
                  · rw [e]; exact HGI.out
                  · exact HGD.out j (by omega), VV.out⟩
                case measure => exact HM.out.2
              · go_wp2_with fail
                go_roundw
                case rel => exact ⟨k + 1, HI.out, HM.out.1, by rw [HFT2.out, HTC.out]; exact congrArg (Value.int .i64) HNW.out, fun j hj => by
                  by_cases e : j = k
                  · rw [e]; exact HGI.out
                  · exact HGD.out j (by omega), VV.out⟩
                case measure => exact HM.out.2
    · obtain rfl : n = i := by omega
      have kd : decide ((n : Int) < (n : Int)) = false := decide_eq_false (by omega)
      have kd2 : decide (n < n) = false := decide_eq_false (by omega)
      clear hi hlt
      go_wp2_with fail
      clear kd kd2
      obtain ⟨wA, rfl⟩ : ∃ W : World, W = wr := ⟨_, rfl⟩
      clear cq0 cq1
      have Y0 := Lib.hid (Ex.refl (fun k => k = g ∨ k = h) wA)
      go_loopw [14] (fun s14 wr => ∃ i : Nat, i ≤ 60 ∧ s14 = .int .i64 i ∧ (∃ (WS : List Int), BankAt wr g h WS (i : Int) ∧ WS.length = 60) ∧ Ex (fun k => k = g ∨ k = h) wA wr) (fun s14 _ => 60 - (intOf s14).toNat)
      case atStart => exact ⟨0, by omega, rfl, ⟨_, K7.out, by simp [zeros]⟩, Y0.out⟩
      case round =>
        obtain ⟨i, hi, rfl, ⟨WS, hk, hwl⟩, hy⟩ := hrel
        have KK := Lib.hid hk
        have HWL := Lib.hid hwl
        have Y1 := Lib.hid hy
        have HI6 := Lib.hid hi
        clear hk hwl hi
        have ee : Ex (fun k => k = g ∨ k = h) wA wr := hy
        have L8 := Lib.hid (Ex.below L7.out ee (fun k hk => by have hk : k = g ∨ k = h := hk; have o_ := ORD5.out; omega))
        have C8 := Lib.hid (C7.out.ex ee (fun hT => by have hT : cb = g ∨ cb = h := hT; have o_ := ORD5.out; omega))
        have A8 := Lib.hid (A7.out.ex ee (fun k hk => by rw [LB_lt (by have hk : k = g ∨ k = h := hk; have o_ := ORD5.out; omega)]; decide))
        have K8 := Lib.hid (KK.out)
        clear ee L7 C7 A7 hy KK
        go_upto_region 22 with fail
        obtain ⟨cf, hcf⟩ : ∃ cf, decide ((i < 60) ∧ (i < len)) = cf := ⟨_, rfl⟩
        have Hcf := Lib.hid hcf
        clear hcf
        obtain ⟨wq, rfl⟩ : ∃ W : World, W = wr := ⟨_, rfl⟩
        go_cut [124] from 117 to 124 (fun v wx => v = .bool cf ∧ wx = wq)
        case first =>
          by_cases t0 : i < 60
          · have u0_0 : decide ((i : Int) < 60) = true := by first | exact decide_eq_true (by omega) | simpa using t0
            have u0_1 : decide (i < 60) = true := by first | exact decide_eq_true (by omega) | simpa using t0
            by_cases t1 : i < len
            · have u1_0 : decide ((i : Int) < (len : Int)) = true := by first | exact decide_eq_true (by omega) | simpa using t1
              have u1_1 : decide (i < len) = true := by first | exact decide_eq_true (by omega) | simpa using t1
              have hh := Hcf.out
              rw [decide_eq_true (show (i < 60) ∧ (i < len) from ⟨t0, t1⟩)] at hh
              subst hh
              clear t0 t1
              go_wp2_with fail
              go_meet
              exact ⟨rfl, rfl⟩
            · have u1_0 : decide ((i : Int) < (len : Int)) = false := by first | exact decide_eq_false (by omega) | simpa using t1
              have u1_1 : decide (i < len) = false := by first | exact decide_eq_false (by omega) | simpa using t1
              have hh := Hcf.out
              rw [decide_eq_false (show ¬ ((i < 60) ∧ (i < len)) from fun h => t1 h.2)] at hh
              subst hh
              clear t0 t1
              go_wp2_with fail
              go_meet
              exact ⟨rfl, rfl⟩
          · have u0_0 : decide ((i : Int) < 60) = false := by first | exact decide_eq_false (by omega) | simpa using t0
            have u0_1 : decide (i < 60) = false := by first | exact decide_eq_false (by omega) | simpa using t0
            have hh := Hcf.out
            rw [decide_eq_false (show ¬ ((i < 60) ∧ (i < len)) from fun h => t0 h.1)] at hh
            subst hh
            clear t0
            go_wp2_with fail
            go_meet
            exact ⟨rfl, rfl⟩
        case rest =>
          obtain ⟨rfl, hwc⟩ := hcut
          subst hwc
          cases cf with
          | true =>
            have hh := of_decide_eq_true Hcf.out
            have HI := Lib.hid hh
            have ki0 : (0 : Int) ≤ (i : Int) := by omega
            have ki1 : (i : Int) < (len : Int) := by omega
            have HM := Lib.hid (turn_no i 60 hh.1 (by decide))
            obtain ⟨b3, o3, rfl, hb3, hc3⟩ := HF3.out (by intro hz; have h1 := HLEN.out; rw [hz] at h1; simp at h1; omega)
            have hcell := (L8.out.cell (p := ⟨b3, o3 + i, none⟩) hb3).trans (hc3 i (by rw [HLEN.out]; omega))
            have hvf := HFIT.out _ (nth_mem (xs := ws0) (i := i) (by rw [HLEN.out]; omega))
            obtain ⟨vv, hvv⟩ : ∃ vv, nth ws0 i = vv := ⟨_, rfl⟩
            rw [hvv] at hcell hvf
            have HV := Lib.hid hvf
            clear hvf hvv hb3 hc3 hh
            go_wp2_with fail
            refine (Store_any g h WS (i : Int) (i : Int) vv wc K8.out HV.out).mono ?_; rintro e wd ⟨rfl, hk, hx⟩
            clear hcell
            have hinw : inW WS (i : Int) := by unfold inW; rw [HWL.out]; have := HI.out; omega
            rw [errF_in hinw]
            rw [tickF_in hinw, i64_tick (by have := HI.out; omega)] at hk
            have YX := Lib.hid (Y1.out.trans (Ex.of_ex2 (T := fun k => k = g ∨ k = h) hx (.inl rfl) (.inr rfl)))
            have KX := Lib.hid hk
            have HWX := Lib.hid (show (setF WS (i : Int) vv).length = 60 from by unfold setF; split <;> simp [HWL.out])
            clear hk hx hinw
            have ke : ((0 : Int) != 0) = false := rfl
            go_wp2_with fail
            go_roundw
            case rel => exact ⟨i + 1, by have := HI.out; omega, HM.out.1, ⟨_, KX.out, HWX.out⟩, YX.out⟩
            case measure => exact HM.out.2
          | false =>
            clear Hcf Y1 Y0
            go_wp2_with fail
            refine (Touches_any g h WS (i : Int) wc K8.out).mono ?_; rintro e wd ⟨rfl, rfl⟩
            go_wp2_with fail
            obtain ⟨wB, rfl⟩ : ∃ W : World, W = wc := ⟨_, rfl⟩
            obtain ⟨cc, hcc⟩ : ∃ cc, cOf n l s = cc := ⟨_, rfl⟩
            have HCC := Lib.hid hcc
            obtain ⟨x0, hx0⟩ : ∃ x0, x0F n l s tries = x0 := ⟨_, rfl⟩
            have HX0 := Lib.hid (show x0.how = 0 ∧ x0.round = 1 ∧ x0.next = 0 ∧ x0.steps = 0 ∧ x0.left = tries from by rw [← hx0]; exact ⟨rfl, rfl, rfl, rfl, rfl⟩)
            have hpa := A8.out
            rw [hcc, hx0] at HPG
            rw [hcc, hx0] at hpa
            have AA := Lib.hid hpa
            have HTT := Lib.hid (show tc = cc.T from by rw [← HTC.out, ← hcc]; exact topsL_T n l s)
            have HLI := Lib.hid (show Lies cc WS from by
              rw [← hcc]
              refine ⟨H8.out, HWL.out, K8.out.fit, fun a ha => ?_, fun a ha => ?_⟩
              · obtain ⟨j, hj, e⟩ := cOf_mem ha
                rw [e]
                exact (HGD.out j hj).1
              · obtain ⟨j, hj, e⟩ := cOf_mem ha
                rw [e]
                exact (HGD.out j hj).2)
            have HAS := Lib.hid (show AInv cc (fun i => (l i).cur) WS tries x0 0 from by
              have h := AInv.start (WS := WS) HPG.out ⟨HX0.out.1, HX0.out.2.1, HX0.out.2.2.1, HX0.out.2.2.2.1⟩
              rw [HX0.out.2.2.2.2] at h
              exact h)
            clear hpa hcc hx0 A8
            have Y0 := Lib.hid (Ex.refl (fun k => k = g ∨ k = h ∨ N ≤ k) wB)
            have KZ := Lib.hid (show BankAt wB g h WS ((i + 0 : Nat) : Int) from K8.out)
            go_loopw [16, 17] (fun s16 s17 wr => ∃ (j : Nat) (x : PX), j ≤ 100 ∧ s16 = .int .i64 x.how ∧ s17 = .int .i64 j ∧ AInv cc (fun i => (l i).cur) WS tries x j ∧ PLive wr (LB N) 1 o cc x ∧ BankAt wr g h WS ((i + j : Nat) : Int) ∧ Ex (fun k => k = g ∨ k = h ∨ N ≤ k) wB wr) (fun s16 s17 _ => 100 - (intOf s17).toNat)
            case atStart => exact ⟨0, x0, by omega, by rw [HX0.out.1], rfl, HAS.out, AA.out, KZ.out, Y0.out⟩
            case round =>
              obtain ⟨j, x, hj, rfl, rfl, hai, hp, hk, hy⟩ := hrel
              have AI := Lib.hid hai
              have PP := Lib.hid hp
              have KK := Lib.hid hk
              have Y1 := Lib.hid hy
              have HJ0 := Lib.hid hj
              clear hai hp hk KZ hj
              have ee : Ex (fun k => k = g ∨ k = h ∨ N ≤ k) wB wr := hy
              have L9 := Lib.hid (Ex.below L8.out ee (fun k hk => by have hk : k = g ∨ k = h ∨ N ≤ k := hk; have o_ := ORD5.out; omega))
              have C9 := Lib.hid (C8.out.ex ee (fun hT => by have hT : cb = g ∨ cb = h ∨ N ≤ cb := hT; have o_ := ORD5.out; omega))
              have K9 := Lib.hid (KK.out)
              have A9 := Lib.hid (PP.out)
              clear ee L8 C8 hy KK PP
              obtain ⟨how, hhow⟩ : ∃ how, x.how = how := ⟨_, rfl⟩
              have HHW := Lib.hid hhow
              rw [hhow]
              clear hhow
              go_upto_region 29 with fail
              obtain ⟨cg, hcg⟩ : ∃ cg, decide ((j < 100) ∧ (how = 0)) = cg := ⟨_, rfl⟩
              have Hcg := Lib.hid hcg
              clear hcg
              obtain ⟨wq, rfl⟩ : ∃ W : World, W = wr := ⟨_, rfl⟩
              go_cut [142] from 137 to 142 (fun v wx => v = .bool cg ∧ wx = wq)
              case first =>
                by_cases t0 : j < 100
                · have u0_0 : decide ((j : Int) < 100) = true := by first | exact decide_eq_true (by omega) | simpa using t0
                  have u0_1 : decide (j < 100) = true := by first | exact decide_eq_true (by omega) | simpa using t0
                  by_cases t1 : how = 0
                  · have u1_0 : (how == 0) = true := by first | exact decide_eq_true (by omega) | simpa using t1
                    have hh := Hcg.out
                    rw [decide_eq_true (show (j < 100) ∧ (how = 0) from ⟨t0, t1⟩)] at hh
                    subst hh
                    clear t0 t1
                    go_wp2_with fail
                    go_meet
                    exact ⟨rfl, rfl⟩
                  · have u1_0 : (how == 0) = false := by first | exact decide_eq_false (by omega) | simpa using t1
                    have hh := Hcg.out
                    rw [decide_eq_false (show ¬ ((j < 100) ∧ (how = 0)) from fun h => t1 h.2)] at hh
                    subst hh
                    clear t0 t1
                    go_wp2_with fail
                    go_meet
                    exact ⟨rfl, rfl⟩
                · have u0_0 : decide ((j : Int) < 100) = false := by first | exact decide_eq_false (by omega) | simpa using t0
                  have u0_1 : decide (j < 100) = false := by first | exact decide_eq_false (by omega) | simpa using t0
                  have hh := Hcg.out
                  rw [decide_eq_false (show ¬ ((j < 100) ∧ (how = 0)) from fun h => t0 h.1)] at hh
                  subst hh
                  clear t0
                  go_wp2_with fail
                  go_meet
                  exact ⟨rfl, rfl⟩
              case rest =>
                obtain ⟨rfl, hwc⟩ := hcut
                subst hwc
                cases cg with
                | true =>
                  have hh := of_decide_eq_true Hcg.out
                  have HJ := Lib.hid hh.1
                  have HH0 := Lib.hid (HHW.out.trans hh.2)
                  clear hh
                  have HM := Lib.hid (turn_no j 100 HJ.out (by decide))
                  go_wp2_with fail
                  refine (BStep_any N g h o WS _ cc x wc K9.out A9.out (fun h => AI.out.good.inv (by have h1 := HJ.out; omega) h) (by have h1 := A9.out.lt; have o_ := ORD5.out; omega) (by have o_ := ORD5.out; omega) (by have o_ := ORD5.out; omega)).mono ?_; rintro e wd ⟨rfl, hk, hl, hx⟩
                  rw [AI.out.tick HLI.out HH0.out (by have h1 := HJ.out; have h2 := HI6.out; omega)] at hk
                  have AI2 := Lib.hid (AI.out.step HLI.out HH0.out)
                  have K2 := Lib.hid (show BankAt wd g h WS ((i + (j + 1) : Nat) : Int) from hk)
                  have P2 := Lib.hid hl
                  have Y2 := Lib.hid (Y1.out.trans hx)
                  clear hk hl hx Y1 Y0 AI K9 A9
                  generalize pStepF cc WS x = x' at *
                  go_wp2_with fail
                  go_roundw
                  case rel => exact ⟨j + 1, x', HJ.out, rfl, HM.out.1, AI2.out, P2.out, K2.out, Y2.out⟩
                  case measure => exact HM.out.2
                | false =>
                  have hh := of_decide_eq_false Hcg.out
                  have HDN := Lib.hid (show x.how = 1 ∧ (j : Int) = 2 * cc.T + x.size ∧ gOk cc WS x cc.T ∧ x.begun = (cc.T : Int) ∧ wOk WS x from by
                    have hne : x.how ≠ 0 := fun h => hh ⟨(AI.out.busy HLI.out h).2, HHW.out.symm.trans h⟩
                    rcases AI.out.way with ⟨h, _⟩ | ⟨h, _⟩ | ⟨h, _⟩ | h
                    · exact absurd h hne
                    · exact absurd h hne
                    · exact absurd h hne
                    · exact h)
                  clear hh Hcg Y1 Y0
                  obtain rfl : how = 1 := HHW.out.symm.trans HDN.out.1
                  have HE := Lib.hid (AI.out.told HLI.out HDN.out.1 HDN.out.2.2.1 HDN.out.2.2.2.2)
                  have HST := Lib.hid (show x.steps = (j : Int) from AI.out.steps)
                  have HBG := Lib.hid (show x.begun = (tc : Int) from by rw [HDN.out.2.2.2.1, HTT.out])
                  have HJN := Lib.hid (show (j : Int) = 2 * (tc : Int) + x.size from by rw [HTT.out]; exact HDN.out.2.1)
                  have HH1 := Lib.hid HDN.out.1
                  have HL64 := Lib.hid (AI.out.good.len HDN.out.1)
                  have HCN := Lib.hid (show cc.n = n from by rw [← HCC.out]; rfl)
                  have HSP := Lib.hid (show ∀ k, k < n → (cc.tp (cc.ix k)).spot = s k from fun k hk => by rw [← HCC.out]; exact cOf_spot HFT.out hk)
                  clear HDN AI HHW
                  go_wp2_with fail
                  refine (LGot_any (LB N) 1 o cc x wc A9.out HH1.out HL64.out).mono ?_; rintro e wd ⟨v5, rfl, hown, hb⟩
                  obtain ⟨A5, c5, rfl, _, hf5⟩ := (ints_of_own hown (by have h1 := HL64.out; unfold maxLen; omega)).form
                  have HF5 := Lib.hid hf5
                  clear hf5
                  have ee : Ex (fun _ => False) wc wd := Ex.of_below hb
                  have L10 := Lib.hid (Ex.below L9.out ee (fun k hk => hk.elim))
                  have C10 := Lib.hid (C9.out.ex ee (fun h => h))
                  have K10 := Lib.hid (K9.out.ex ee (fun h => h) (fun h => h))
                  have A10 := Lib.hid (A9.out.ex ee (fun _ h => h.elim))
                  clear ee L9 C9 K9 A9 hb hown
                  have V0 := Lib.hid (Ex.refl (fun _ => False) wd)
                  obtain ⟨mf, hmf⟩ : ∃ mf, mostF n s tries = mf := ⟨_, rfl⟩
                  have HMF := Lib.hid hmf
                  have HLE := Lib.hid (show (j : Int) ≤ mf from by
                    rw [HJN.out, ← hmf, ← HTC.out]
                    refine most_ge HFT.out HTR.out ?_
                    have hat : ∀ i, i < n → (s i).AtOk := fun i hi => (HFT.out.2.2 i hi).1
                    rcases HE.out with ⟨_, _, _, e⟩ | ⟨k, hk, _, _, e, _⟩
                    · rw [e]; exact ⟨Int.le_refl 0, (maxW_range s n hat).1⟩
                    · rw [HCN.out] at hk
                      rw [e, HSP.out k hk]
                      exact ⟨by have := (hat k hk).1; omega, maxW_ge s hk⟩)
                  clear hmf
                  have HN2 := Lib.hid (show wrap64 (2 * (tc : Int)) = 2 * (tc : Int) from wrap64_in _ (by have h1 := HTC.out; have h2 := topsL_len l s n; have h3 := H8.out; omega))
                  have he := HE.out
                  clear HE
                  obtain ⟨pk, hpk⟩ : ∃ pk, x.pick = pk := ⟨_, rfl⟩
                  obtain ⟨gen, hgen⟩ : ∃ gen, x.gen = gen := ⟨_, rfl⟩
                  obtain ⟨ws, hws⟩ : ∃ ws, x.words = ws := ⟨_, rfl⟩
                  obtain ⟨sz, hsz⟩ : ∃ sz, x.size = sz := ⟨_, rfl⟩
                  have HXW := Lib.hid hws
                  rw [hpk, hgen, hws, hsz] at he
                  rw [hws] at HF5 HL64
                  rw [hsz] at HJN
                  obtain ⟨lw, hlw⟩ : ∃ lw, ws.length = lw := ⟨_, rfl⟩
                  have HLW := Lib.hid hlw
                  rw [hlw] at he HL64
                  try simp only [hlw] at he
                  simp only [hpk, hgen, hws]
                  try simp only [hlw]
                  clear hpk hgen hws hsz HXW hlw
                  rcases he with ⟨rfl, rfl, he3, rfl⟩ | ⟨k, hk, rfl, he3, he4, he5, he6, he7, he8, he9⟩
                  · have kk : decide ((-1 : Int) ≥ 0) = false := rfl
                    have kk2 : decide ((0 : Int) ≤ -1) = false := rfl
                    have kn : ((-1 : Int) != -1) = false := rfl
                    have kg : ((0 : Int) != 0) = false := rfl
                    have kw : ((lw : Int) != 0) = false := by rw [he3]; rfl
                    have hnn : wrap64 (2 * (tc : Int)) = (j : Int) := by rw [HN2.out, HJN.out]; omega
                    have HNN := Lib.hid hnn
                    clear he3 hnn
                    go_upto_region 45 with fail
                    rw [HNN.out]
                    clear kk kk2 kn kg kw
                    have hwj : wrap64 ((i : Int) + (j : Int)) = ((i + j : Nat) : Int) := by rw [wrap64_in _ (by have h1 := HI6.out; have h2 := HJ0.out; omega)]; omega
                    obtain ⟨tt, htt⟩ : ∃ tt : Int, ((i + j : Nat) : Int) = tt := ⟨_, rfl⟩
                    rw [htt] at hwj K10
                    clear htt
                    have kT : (tt == tt) = true := beq_self_eq_true _
                    have kT2 : (tt == wrap64 ((i : Int) + (j : Int))) = true := by rw [hwj]; exact kT
                    have kJ : ((j : Int) == (j : Int)) = true := beq_self_eq_true _
                    have kC : ((tc : Int) == (tc : Int)) = true := beq_self_eq_true _
                    have kM : decide ((j : Int) ≤ mf) = true := decide_eq_true HLE.out
                    have HWJ := Lib.hid hwj
                    clear hwj
                    have cq1 := C10.out.cell 1
                    have cq2 := C10.out.cell 2
                    simp only [List.getElem?_toArray, List.getElem?_cons_succ, List.getElem?_cons_zero] at cq1 cq2

                    go_wp2_with fail
                    refine (LSteps_any (LB N) 1 o cc x wd A10.out).mono ?_; rintro e we ⟨rfl, rfl⟩
                    rw [HST.out]
                    go_wp2_with fail
                    refine (LAt_any (LB N) 1 o cc x wd A10.out).mono ?_; rintro e we ⟨rfl, rfl⟩
                    rw [if_pos HH1.out, HBG.out]
                    go_wp2_with fail
                    refine (Touches_any g h WS tt wd K10.out).mono ?_; rintro e we ⟨rfl, rfl⟩
                    go_wp2_with fail
                    refine (Most_any _ n s tries wd (HSPS.out.below L10.out) (by have := H8.out; omega)).mono ?_; rintro e we ⟨rfl, hb⟩
                    rw [HMF.out]
                    clear cq1 cq2
                    have ee : Ex (fun _ => False) wd we := Ex.of_below hb
                    have L11 := Lib.hid (Ex.below L10.out ee (fun k hk => hk.elim))
                    have C11 := Lib.hid (C10.out.ex ee (fun h => h))
                    have K11 := Lib.hid (K10.out.ex ee (fun h => h) (fun h => h))
                    have A11 := Lib.hid (A10.out.ex ee (fun _ h => h.elim))
                    have V11 := Lib.hid (V0.out.trans ee)
                    clear ee L10 C10 K10 A10 V0 hb
                    go_wp2_with fail
                    refine (LDone_any (LB N) 1 o cc x _ we A11.out (by rw [HH1.out]; decide)).mono ?_; rintro e wf ⟨rfl, rfl⟩
                    rw [HH1.out]
                    have k11 : ((1 : Int) == 1) = true := rfl
                    go_wp2_with fail
                    refine (Touches_any g h WS tt we K11.out).mono ?_; rintro e wf ⟨rfl, rfl⟩
                    go_wp2_with fail
                    refine (awake_any we).mono ?_; rintro e wz ⟨rfl, hbz⟩
                    have ee : Ex (fun _ => False) we wz := Ex.of_below hbz
                    have L12 := Lib.hid (Ex.below L11.out ee (fun k hk => hk.elim))
                    have C12 := Lib.hid (C11.out.ex ee (fun h => h))
                    have K12 := Lib.hid (K11.out.ex ee (fun h => h) (fun h => h))
                    have A12 := Lib.hid (A11.out.ex ee (fun _ h => h.elim))
                    have V12 := Lib.hid (V11.out.trans ee)
                    clear ee L11 C11 K11 A11 V11 hbz
                    go_wp2_with fail
                    go_ret
                    exact ⟨rfl, L12.out⟩
                  · rw [HCN.out] at hk
                    rw [HSP.out k hk] at he3 he4 he6 he8 he9
                    have hnn : wrap64 (2 * (tc : Int) + (s k).words) = (j : Int) := by
                      rw [HJN.out, ← he4, wrap64_in _ (by have h1 := HTC.out; have h2 := topsL_len l s n; have h3 := H8.out; have h4 := he8.1; omega)]
                    have HNN := Lib.hid hnn
                    have HK := Lib.hid hk
                    have HGE := Lib.hid he7
                    have HAK := Lib.hid he8
                    have HWS := Lib.hid he9
                    have HAT := Lib.hid (fun W => At_any (s k) gen W he7 he8)
                    unfold Spot.val at HAT
                    have ki0 : (0 : Int) ≤ (k : Int) := by omega
                    have ki1 : (k : Int) < (n : Int) := by omega
                    have kk : decide ((k : Int) ≥ 0) = true := decide_eq_true ki0
                    have kk2 : decide ((k : Int) < (n : Int)) = true := decide_eq_true ki1
                    have kk3 : decide (k < n) = true := decide_eq_true hk
                    have kw : ((lw : Int) != (s k).words) = false := by rw [he3]; exact bne_self_eq_false _
                    have kg : decide (gen < (l k).cur.next) = false := decide_eq_false (by omega)
                    have hq : IntKind.u64.wrap ((wordF WS (s k).seq).tdiv 2) = wordF WS (s k).seq / 2 := by
                      have h9 := wordF_fit HLI.out.fit (s k).seq
                      rw [Int.tdiv_eq_ediv_of_nonneg h9.1]
                      simp [IntKind.wrap, IntKind.bits, IntKind.signed]
                      omega
                    have kp3 : decide (IntKind.u64.wrap ((wordF WS (s k).seq).tdiv 2) < gen) = false := by rw [hq]; exact decide_eq_false (by omega)
                    have kp : decide (gen > wordF WS (s k).seq / 2) = false := decide_eq_false (by omega)
                    have kp2 : decide (wordF WS (s k).seq / 2 < gen) = false := decide_eq_false (by omega)
                    have HE3 := Lib.hid he3
                    clear he3 he4 he5 he6 he7 he8 he9 hnn hk hq
                    have cq0 := C10.out.cell 0
                    have cq1 := C10.out.cell 1
                    simp only [List.getElem?_toArray, List.getElem?_cons_succ, List.getElem?_cons_zero] at cq0 cq1
                    obtain ⟨x0, x1, x2, x3, x4⟩ := HC2.out wd L10.out k HK.out
                    obtain ⟨y0, y2⟩ := HC1.out wd L10.out k HK.out
                    go_wp2_with fail
                    refine (Peek_any g h WS _ (s k).seq wd K10.out).mono ?_; rintro e we ⟨rfl, hb⟩
                    clear cq0 cq1 x0 x1 x2 x3 x4 y0 y2
                    have ee : Ex (fun _ => False) wd we := Ex.of_below hb
                    have L11 := Lib.hid (Ex.below L10.out ee (fun k hk => hk.elim))
                    have C11 := Lib.hid (C10.out.ex ee (fun h => h))
                    have K11 := Lib.hid (K10.out.ex ee (fun h => h) (fun h => h))
                    have A11 := Lib.hid (A10.out.ex ee (fun _ h => h.elim))
                    have V11 := Lib.hid (V0.out.trans ee)
                    clear ee L10 C10 K10 A10 V0 hb

                    go_wp2_with fail
                    clear kk kk2 kk3 kw kg kp kp2 kp3
                    have V9 := Lib.hid (Ex.refl (fun _ => False) we)
                    go_loopw [22] (fun s22 wr => ∃ i2 : Nat, i2 ≤ lw ∧ s22 = .int .i64 i2 ∧ Ex (fun _ => False) we wr) (fun s22 _ => lw - (intOf s22).toNat)
                    case atStart => exact ⟨0, by omega, rfl, V9.out⟩
                    case round =>
                      obtain ⟨i2, hi2, rfl, hy⟩ := hrel
                      have V8 := Lib.hid hy
                      have ee : Ex (fun _ => False) we wr := hy
                      have L12 := Lib.hid (Ex.below L11.out ee (fun k hk => hk.elim))
                      have C12 := Lib.hid (C11.out.ex ee (fun h => h))
                      have K12 := Lib.hid (K11.out.ex ee (fun h => h) (fun h => h))
                      have A12 := Lib.hid (A11.out.ex ee (fun _ h => h.elim))
                      have V12 := Lib.hid (V11.out.trans ee)
                      clear ee L11 C11 K11 A11 V11 hy V9
                      by_cases hlt : i2 < lw
                      · have kd : decide ((i2 : Int) < (lw : Int)) = true := decide_eq_true (by omega)
                        have kd2 : decide (i2 < lw) = true := decide_eq_true hlt
                        have zi0 : (0 : Int) ≤ (i2 : Int) := by omega
                        have zi1 : (i2 : Int) < (lw : Int) := by omega
                        have HI2 := Lib.hid hlt
                        have HM3 := Lib.hid (turn_no i2 lw hlt (by have h1 := HL64.out; unfold maxLen; omega))
                        clear hi2 hlt
                        obtain ⟨b5, o5, hA5, hb5, hc5⟩ := HF5.out (by intro hz; have h1 := HLW.out; rw [hz] at h1; have h2 := HI2.out; simp at h1; omega)
                        subst hA5
                        rw [HLW.out] at hc5
                        obtain ⟨heq, hat0, hat1⟩ := HWS.out i2 HI2.out
                        obtain ⟨a0, ha0⟩ : ∃ a0, atF (s k) gen = a0 := ⟨_, rfl⟩
                        have HA0 := Lib.hid ha0
                        rw [ha0] at heq hat0 hat1 HAT
                        have hwa : wrap64 (a0 + (i2 : Int)) = a0 + (i2 : Int) := wrap64_in _ (by omega)
                        have HWA := Lib.hid hwa
                        obtain ⟨vv, hvv⟩ : ∃ vv, nth ws i2 = vv := ⟨_, rfl⟩
                        rw [hvv] at heq
                        have HEQ := Lib.hid heq
                        have kv : (vv != vv) = false := bne_self_eq_false _
                        clear heq hat0 hat1 ha0 hwa
                        go_upto_region 41 with fail
                        have hne : Nonempty (Held (Ex (fun _ => False) wr)) := ⟨⟨wr, Ex.refl _ _⟩⟩
                        have q1 : ∀ y : Held (Ex (fun _ => False) wr), y.w.cell? ⟨cb, 1, none⟩ = some (.slice (some ⟨b2, off2, none⟩) n c2) := fun y => (C12.out.ex y.ok (fun h => h)).cell 1
                        have q2 : ∀ y : Held (Ex (fun _ => False) wr), y.w.cell? ⟨b5, o5 + i2, none⟩ = some (.int .u64 vv) := fun y => by rw [← hvv]; exact (V12.out.trans y.ok).cell (hc5 i2 HI2.out) (fun h => h)
                        have HQ := Lib.hid (show ∀ y : Held (Ex (fun _ => False) wr), _ from fun y => HC2.out y.w (Ex.below L12.out y.ok (fun _ h => h.elim)) k HK.out)
                        have p0 := fun y => (HQ.out y).1
                        have p1 := fun y => (HQ.out y).2.1
                        have p2 := fun y => (HQ.out y).2.2.1
                        have p3 := fun y => (HQ.out y).2.2.2.1
                        have p4 := fun y => (HQ.out y).2.2.2.2
                        clear hvv hc5 hb5
                        have VY := Lib.hid ((Ex.refl (fun _ => False) wr).drew)
                        refine drawn_bars (S := (Ex (fun _ => False) wr)) [([0, 1, 2, 3, 4, 5, 6, 7, 8, 9, 10, 12], 11), ([13], 14)] [15] (by kernel_rfl) (by kernel_rfl) (by kernel_rfl) rfl (Ex.refl _ _).drew ?_
                        refine Phased.go ?_
                        simp only [pick, List.map_cons, List.map_nil, List.getElem?_cons_zero, List.getElem?_cons_succ, Option.getD_some]
                        repeat (go_big_quiet_step (fail))
                        refine wpQuiet_nil ?_
                        have ee : Ex (fun _ => False) wr wr.drew := (Ex.refl _ wr).drew
                        have L13 := Lib.hid (Ex.below L12.out ee (fun k hk => hk.elim))
                        have C13 := Lib.hid (C12.out.ex ee (fun h => h))
                        have K13 := Lib.hid (K12.out.ex ee (fun h => h) (fun h => h))
                        have A13 := Lib.hid (A12.out.ex ee (fun _ h => h.elim))
                        have V13 := Lib.hid (V12.out.trans ee)
                        clear ee L12 C12 K12 A12 V12
                        generalize wr.drew = wy at *
                        go_wp2_with fail
                        refine (HAT.out wy).mono ?_; rintro e wz ⟨rfl, hb⟩
                        have VZ := Lib.hid (VY.out.trans (Ex.of_below hb))
                        clear VY
                        have ee : Ex (fun _ => False) wy wz := Ex.of_below hb
                        have L14 := Lib.hid (Ex.below L13.out ee (fun k hk => hk.elim))
                        have C14 := Lib.hid (C13.out.ex ee (fun h => h))
                        have K14 := Lib.hid (K13.out.ex ee (fun h => h) (fun h => h))
                        have A14 := Lib.hid (A13.out.ex ee (fun _ h => h.elim))
                        have V14 := Lib.hid (V13.out.trans ee)
                        clear ee L13 C13 K13 A13 V13 hb
                        go_wp2_with fail
                        refine behind_normal ⟨(Ex (fun _ => False) wr), fun W h => h, VZ.out, ?_⟩
                        refine Phased.go ?_
                        simp only [pick, List.map_cons, List.map_nil, List.getElem?_cons_zero, List.getElem?_cons_succ, Option.getD_some]
                        repeat (go_big_quiet_step (fail))
                        refine wpQuiet_nil ?_
                        rw [HWA.out]
                        go_wp2_with fail
                        refine (Peek_any g h WS _ (a0 + (i2 : Int)) wz K14.out).mono ?_; rintro e wu ⟨rfl, hb⟩
                        rw [← HEQ.out]
                        have VU := Lib.hid (VZ.out.trans (Ex.of_below hb))
                        clear VZ
                        have ee : Ex (fun _ => False) wz wu := Ex.of_below hb
                        have L15 := Lib.hid (Ex.below L14.out ee (fun k hk => hk.elim))
                        have C15 := Lib.hid (C14.out.ex ee (fun h => h))
                        have K15 := Lib.hid (K14.out.ex ee (fun h => h) (fun h => h))
                        have A15 := Lib.hid (A14.out.ex ee (fun _ h => h.elim))
                        have V15 := Lib.hid (V14.out.trans ee)
                        clear ee L14 C14 K14 A14 V14 hb
                        go_wp2_with fail
                        refine behind_normal ⟨(Ex (fun _ => False) wr), fun W h => h, VU.out, ?_⟩
                        refine Phased.end_ ?_
                        have hne5 : Nonempty (Held (fun W => W = wu)) := ⟨⟨_, rfl⟩⟩
                        simp only [pick, List.map_cons, List.map_nil, List.getElem?_cons_zero, List.getElem?_cons_succ, Option.getD_some]
                        repeat (go_big_quiet_step (fail))
                        refine wpQuiet_nil ?_
                        clear hne hne5 q1 q2 p0 p1 p2 p3 p4
                        go_wp2_with fail
                        go_roundw
                        case rel => exact ⟨i2 + 1, HI2.out, HM3.out.1, V8.out.trans VU.out⟩
                        case measure => exact HM3.out.2
                      · obtain rfl : i2 = lw := by omega
                        have kd : decide ((i2 : Int) < (i2 : Int)) = false := decide_eq_false (by omega)
                        have kd2 : decide (i2 < i2) = false := decide_eq_false (by omega)
                        clear hi2 hlt HAT V8
                        go_upto_region 45 with fail
                        rw [HN2.out, HNN.out]
                        clear kd kd2 ki0 ki1
                        have hwj : wrap64 ((i : Int) + (j : Int)) = ((i + j : Nat) : Int) := by rw [wrap64_in _ (by have h1 := HI6.out; have h2 := HJ0.out; omega)]; omega
                        obtain ⟨tt, htt⟩ : ∃ tt : Int, ((i + j : Nat) : Int) = tt := ⟨_, rfl⟩
                        rw [htt] at hwj K12
                        clear htt
                        have kT : (tt == tt) = true := beq_self_eq_true _
                        have kT2 : (tt == wrap64 ((i : Int) + (j : Int))) = true := by rw [hwj]; exact kT
                        have kJ : ((j : Int) == (j : Int)) = true := beq_self_eq_true _
                        have kC : ((tc : Int) == (tc : Int)) = true := beq_self_eq_true _
                        have kM : decide ((j : Int) ≤ mf) = true := decide_eq_true HLE.out
                        have HWJ := Lib.hid hwj
                        clear hwj
                        have cq1 := C12.out.cell 1
                        have cq2 := C12.out.cell 2
                        simp only [List.getElem?_toArray, List.getElem?_cons_succ, List.getElem?_cons_zero] at cq1 cq2

                        go_wp2_with fail
                        refine (LSteps_any (LB N) 1 o cc x wr A12.out).mono ?_; rintro e we ⟨rfl, rfl⟩
                        rw [HST.out]
                        go_wp2_with fail
                        refine (LAt_any (LB N) 1 o cc x wr A12.out).mono ?_; rintro e we ⟨rfl, rfl⟩
                        rw [if_pos HH1.out, HBG.out]
                        go_wp2_with fail
                        refine (Touches_any g h WS tt wr K12.out).mono ?_; rintro e we ⟨rfl, rfl⟩
                        go_wp2_with fail
                        refine (Most_any _ n s tries wr (HSPS.out.below L12.out) (by have := H8.out; omega)).mono ?_; rintro e we ⟨rfl, hb⟩
                        rw [HMF.out]
                        clear cq1 cq2
                        have ee : Ex (fun _ => False) wr we := Ex.of_below hb
                        have L13 := Lib.hid (Ex.below L12.out ee (fun k hk => hk.elim))
                        have C13 := Lib.hid (C12.out.ex ee (fun h => h))
                        have K13 := Lib.hid (K12.out.ex ee (fun h => h) (fun h => h))
                        have A13 := Lib.hid (A12.out.ex ee (fun _ h => h.elim))
                        have V13 := Lib.hid (V12.out.trans ee)
                        clear ee L12 C12 K12 A12 V12 hb
                        go_wp2_with fail
                        refine (LDone_any (LB N) 1 o cc x _ we A13.out (by rw [HH1.out]; decide)).mono ?_; rintro e wf ⟨rfl, rfl⟩
                        rw [HH1.out]
                        have k11 : ((1 : Int) == 1) = true := rfl
                        go_wp2_with fail
                        refine (Touches_any g h WS tt we K13.out).mono ?_; rintro e wf ⟨rfl, rfl⟩
                        go_wp2_with fail
                        refine (awake_any we).mono ?_; rintro e wz ⟨rfl, hbz⟩
                        have ee : Ex (fun _ => False) we wz := Ex.of_below hbz
                        have L14 := Lib.hid (Ex.below L13.out ee (fun k hk => hk.elim))
                        have C14 := Lib.hid (C13.out.ex ee (fun h => h))
                        have K14 := Lib.hid (K13.out.ex ee (fun h => h) (fun h => h))
                        have A14 := Lib.hid (A13.out.ex ee (fun _ h => h.elim))
                        have V14 := Lib.hid (V13.out.trans ee)
                        clear ee L13 C13 K13 A13 V13 hbz
                        go_wp2_with fail
                        go_ret
                        exact ⟨rfl, L14.out⟩
end Go.Proofs.Ythcaagkgddeabaa.Bank
