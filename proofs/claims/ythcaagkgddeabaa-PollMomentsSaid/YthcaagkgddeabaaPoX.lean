/-
  Law 12: how many steps a poll may do at most. Printed by wip/tools/mkpox.py. Conditions stand at each. By an AI agent.
-/
import Derived.Test.YthcaagkgddeabaaPoU
namespace Go.Proofs.Ythcaagkgddeabaa.Bank
set_option linter.unusedVariables false
set_option linter.unusedSimpArgs false
open Go Go.RowKit Go.Proofs.Ythcaagkgddeabaa.Base Go.Deep Go.ChangeShapes Go.WideShapes Go.Proofs.Ythcaagkgddeabaa.Queue
theorem IndexI_any (v : Value) (xs : List Int) (x : Int) (w : World) (h : Ints w .i64 v xs) :
    Calls Try.prog 74 #[v, .int .i64 x] w fun e w' => ∃ z : Int, e = .returned (.int .i64 z) ∧ (0 ≤ z ↔ x ∈ xs) ∧ w = w' := by
  obtain ⟨A, c, rfl, hn, hg⟩ := h.form
  obtain ⟨n, hnn⟩ : ∃ n, xs.length = n := ⟨_, rfl⟩
  rw [hnn] at hn ⊢
  have HG := Lib.hid hg
  have HN := Lib.hid hn
  have HNN := Lib.hid hnn
  clear h hn hg hnn
  go_enter Try.func74, Try.ntmps74
  go_wp2_with fail
  go_loopw [5, 8] (fun s5 s8 wr => ∃ i : Nat, i ≤ n ∧ s8 = .int .i64 i ∧ (∀ j, j < i → nth xs j ≠ x) ∧ w = wr) (fun s5 s8 _ => n - (intOf s8).toNat)
  case atStart => exact ⟨0, by omega, rfl, fun j hj => absurd hj (by omega), rfl⟩
  case round =>
    obtain ⟨i, hi, rfl, hs, rfl⟩ := hrel
    have HS := Lib.hid hs
    clear hs
    by_cases hlt : i < n
    · have kd : decide ((i : Int) < (n : Int)) = true := decide_eq_true (by omega)
      have ki0 : (0 : Int) ≤ (i : Int) := by omega
      have ki1 : (i : Int) < (n : Int) := by omega
      have HI := Lib.hid hlt
      have HM := Lib.hid (turn_no i n hlt HN.out)
      clear hi hlt
      obtain ⟨b, o, rfl, hb, hc⟩ := HG.out (by intro e; have h1 := HNN.out; have h2 := HI.out; rw [e] at h1; simp at h1; omega)
      have hcell := hc i (by have h1 := HNN.out; have h2 := HI.out; omega)
      have HMEM := Lib.hid (nth_mem (xs := xs) (i := i) (by have h1 := HNN.out; have h2 := HI.out; omega))
      clear hb hc
      by_cases hq : nth xs i = x
      · have kq : (x == nth xs i) = true := by simpa using hq.symm
        have HQ := Lib.hid hq
        clear hq
        go_wp2_with fail
        go_ret
        exact ⟨_, rfl, ⟨fun _ => HQ.out ▸ HMEM.out, fun _ => ki0⟩, rfl⟩
      · have kq : (x == nth xs i) = false := by simpa using fun e => hq e.symm
        have HQ := Lib.hid hq
        clear hq
        go_wp2_with fail
        go_roundw
        case rel => exact ⟨i + 1, HI.out, HM.out.1, fun j hj => by
          by_cases e : j = i
          · rw [e]; exact HQ.out
          · exact HS.out j (by omega), trivial⟩
        case measure => exact HM.out.2
    · obtain rfl : i = n := by omega
      have kd : decide ((i : Int) < (i : Int)) = false := decide_eq_false (by omega)
      go_wp2_with fail
      go_ret
      refine ⟨_, rfl, ⟨fun h => absurd h (by decide), fun h => ?_⟩, rfl⟩
      obtain ⟨j, hj, e⟩ := List.mem_iff_getElem.1 h
      refine absurd ?_ (HS.out j (by have h1 := HNN.out; omega))
      simpa [nth, List.getD_eq_getElem?_getD, List.getElem?_eq_getElem hj] using e
theorem ContainsI_any (v : Value) (xs : List Int) (x : Int) (w : World) (h : Ints w .i64 v xs) :
    Calls Try.prog 54 #[v, .int .i64 x] w fun e w' => e = .returned (.bool (decide (x ∈ xs))) ∧ w = w' := by
  have HH := Lib.hid (IndexI_any v xs x w h)
  clear h
  go_enter Try.func54, Try.ntmps54
  go_wp2_with fail
  refine HH.out.mono ?_; rintro e w' ⟨z, rfl, hz, rfl⟩
  have HZ := Lib.hid hz
  clear hz
  go_wp2_with fail
  go_ret
  refine ⟨?_, rfl⟩
  show Ending.returned (Value.bool (decide (0 ≤ z))) = _
  rw [decide_eq_decide.2 HZ.out]
/-- the sequences of the first so many spots, each once; the greatest number of words among them -/
def seqsL (s : Nat → Spot) : Nat → List Int
  | 0 => []
  | k + 1 => if (s k).seq ∈ seqsL s k then seqsL s k else seqsL s k ++ [(s k).seq]
def maxW (s : Nat → Spot) : Nat → Int
  | 0 => 0
  | k + 1 => max (maxW s k) (s k).words
theorem seqsL_succ (s : Nat → Spot) (k : Nat) : seqsL s (k + 1) = if (s k).seq ∈ seqsL s k then seqsL s k else seqsL s k ++ [(s k).seq] := rfl
theorem seqsL_len (s : Nat → Spot) (k : Nat) : (seqsL s k).length ≤ k := by
  induction k with
  | zero => exact Nat.le_refl _
  | succ k ih =>
    unfold seqsL
    split
    · omega
    · simp; omega
theorem maxW_range (s : Nat → Spot) (k : Nat) (h : ∀ i, i < k → (s i).AtOk) : 0 ≤ maxW s k ∧ maxW s k ≤ 64 := by
  induction k with
  | zero => exact ⟨Int.le_refl 0, by show (0 : Int) ≤ 64; decide⟩
  | succ k ih =>
    have h1 := ih (fun i hi => h i (by omega))
    have h2 := (h k (by omega)).1
    show 0 ≤ max (maxW s k) (s k).words ∧ max (maxW s k) (s k).words ≤ 64
    omega
def mostF (m : Nat) (s : Nat → Spot) (tries : Int) : Int := if m ≠ 0 ∧ (1 ≤ tries ∧ tries ≤ 16) ∧ (∀ i, i < m → (s i).AtOk) then tries * (2 * ((seqsL s m).length : Int) + maxW s m) else 0
theorem int_info : (Try.prog.info? 3).map (fun i => (i.zero, i.size, i.bytes)) = some (some (.int .i64 0), 1, 8) := by kernel_rfl
theorem onei_new (w : World) (v : Int) : ∀ j u, [Value.int .i64 v][j]? = some u → (w.alloc (.cells #[.int .i64 v] 3)).cell? ((⟨w.heap.size, 0, none⟩ : Addr).add j) = some u := by
  have hbn := Blk.new w 3 #[.int .i64 v]
  intro j u hj
  match j, hj with
  | 0, hj => simp at hj; subst hj; exact hbn.cell 0
theorem onei_oc (v : Int) : ∀ u ∈ [Value.int .i64 v], u.oneCell' = true := by
  intro u hu
  simp only [List.mem_cons, List.not_mem_nil, or_false] at hu
  subst hu; rfl
set_option maxRecDepth 100000 in
set_option maxHeartbeats 8000000 in
theorem Most_any (v : Value) (m : Nat) (s : Nat → Spot) (tries : Int) (w : World) (hs : Sps w v m s) (hm : m ≤ 64) :
    Calls Try.prog 22 #[v, .int .i64 tries] w fun e w' => e = .returned (.int .i64 (mostF m s tries)) ∧ Below w.heap.size w w' := by
  obtain ⟨A, c, rfl, _, hg⟩ := hs.form
  have HG := Lib.hid hg
  have HM0 := Lib.hid hm
  clear hs hg hm
  by_cases h0 : m = 0
  · have HR := Lib.hid (show mostF m s tries = 0 from if_neg (fun h => h.1 h0))
    have kz : ((m : Int) == 0) = true := by simpa using h0
    subst h0
    go_enter Try.func22, Try.ntmps22
    go_wp2_with fail
    go_ret
    exact ⟨by show Ending.returned (Value.int .i64 0) = _; rw [HR.out], Below.refl _ _⟩
  have kz : ((m : Int) == 0) = false := by simpa using h0
  have HZ := Lib.hid h0
  clear h0
  by_cases ht : 1 ≤ tries ∧ tries ≤ 16
  rotate_left
  · have HR := Lib.hid (show mostF m s tries = 0 from if_neg (fun h => ht h.2.1))
    have HT := Lib.hid (show decide (1 ≤ tries ∧ tries ≤ 16) = false from decide_eq_false ht)
    clear ht
    go_enter Try.func22, Try.ntmps22
    go_wp2_with fail
    refine (pmay_any tries w).mono ?_; rintro e w' ⟨rfl, rfl⟩
    rw [HT.out]
    go_wp2_with fail
    go_ret
    exact ⟨by show Ending.returned (Value.int .i64 0) = _; rw [HR.out], Below.refl _ _⟩
  have HT := Lib.hid (show decide (1 ≤ tries ∧ tries ≤ 16) = true from decide_eq_true ht)
  have HTR := Lib.hid ht
  clear ht
  go_enter Try.func22, Try.ntmps22
  go_wp2_with fail
  refine (pmay_any tries w).mono ?_; rintro e w' ⟨rfl, rfl⟩
  rw [HT.out]
  go_wp2_with fail
  clear kz
  go_loopw [5, 6, 8, 19] (fun s5 s6 s8 s19 wr => ∃ i : Nat, i ≤ m ∧ s19 = .int .i64 i ∧ s6 = .int .i64 (maxW s i) ∧ (∀ j, j < i → (s j).AtOk) ∧ wr.ownsRow w.heap.size 3 1 s5 (seqsL s i).length ((seqsL s i).map (Value.int .i64)) ∧ Below w.heap.size w wr) (fun s5 s6 s8 s19 _ => m - (intOf s19).toNat)
  case atStart => exact ⟨0, by omega, rfl, rfl, fun j hj => absurd hj (by omega), World.ownsRow_nil _ _ _ _, Below.refl _ _⟩
  case round =>
    obtain ⟨i, hi, rfl, rfl, hok, hown, hl⟩ := hrel
    obtain ⟨ra, rc, rfl⟩ := own_form hown
    have HOK := Lib.hid hok
    have HO := Lib.hid hown
    have L0 := Lib.hid hl
    have HSL := Lib.hid (show (seqsL s i).length ≤ 64 from Nat.le_trans (seqsL_len s i) (by have h1 := HM0.out; omega))
    obtain ⟨mw, hmw⟩ : ∃ mw, maxW s i = mw := ⟨_, rfl⟩
    have HMW := Lib.hid hmw
    rw [hmw]
    clear hok hown hl hmw
    by_cases hlt : i < m
    · have kd : decide ((i : Int) < (m : Int)) = true := decide_eq_true (by omega)
      have ki0 : (0 : Int) ≤ (i : Int) := by omega
      have ki1 : (i : Int) < (m : Int) := by omega
      have HI := Lib.hid hlt
      have HM := Lib.hid (turn_no i m hlt (by have h1 := HM0.out; unfold maxLen; omega))
      clear hi hlt
      obtain ⟨b, off, rfl, hb, hc⟩ := HG.out (by have h1 := HI.out; omega)
      obtain ⟨x0, x1, x2, x3, x4⟩ := hc i HI.out
      replace x0 := (L0.out.cell (p := ⟨b, off + i * 5, none⟩) hb).trans x0
      replace x1 := (L0.out.cell (p := ⟨b, off + i * 5 + 1, none⟩) hb).trans x1
      replace x2 := (L0.out.cell (p := ⟨b, off + i * 5 + 2, none⟩) hb).trans x2
      replace x3 := (L0.out.cell (p := ⟨b, off + i * 5 + 3, none⟩) hb).trans x3
      replace x4 := (L0.out.cell (p := ⟨b, off + i * 5 + 4, none⟩) hb).trans x4
      clear hb hc
      go_upto_region 8 with fail
      clear x0 x1 x2 x3 x4
      have hn := Blk.new wr 48 #[.int .i64 (s i).owners, .int .i64 (s i).seq, .int .i64 (s i).first, .int .i64 (s i).words, .int .i64 (s i).depth]
      have hb := (Below.refl wr.heap.size wr).alloc (Nat.le_refl _) (.cells #[.int .i64 (s i).owners, .int .i64 (s i).seq, .int .i64 (s i).first, .int .i64 (s i).words, .int .i64 (s i).depth] 48)
      obtain ⟨xb, hxb⟩ : ∃ xb, wr.heap.size = xb := ⟨_, rfl⟩
      have HNX := Lib.hid (show ∀ k, (Value.slice ra (seqsL s i).length rc).ownBlock = some k → k < xb from fun k hk => by have := World.ownsRow.lt HO.out k hk; omega)
      have HWX := Lib.hid (show w.heap.size ≤ xb from by rw [← hxb]; exact L0.out.size)
      have HO1 := Lib.hid (World_ownsRow_bl HO.out hb)
      have L1 := Lib.hid (bl L0.out hb)
      simp only [hxb] at hn ⊢
      generalize wr.alloc (.cells #[.int .i64 (s i).owners, .int .i64 (s i).seq, .int .i64 (s i).first, .int .i64 (s i).words, .int .i64 (s i).depth] 48) = w1 at *
      have XB := Lib.hid hn
      clear hn hb hxb HO L0
      have c0 := XB.out.cell 0
      have c1 := XB.out.cell 1
      have c2 := XB.out.cell 2
      have c3 := XB.out.cell 3
      have c4 := XB.out.cell 4
      simp only [List.getElem?_toArray, List.getElem?_cons_zero, List.getElem?_cons_succ] at c0 c1 c2 c3 c4
      by_cases hat : (s i).AtOk
      rotate_left
      · have HR := Lib.hid (show mostF m s tries = 0 from if_neg (fun h => hat (h.2.2 i HI.out)))
        have HAT := Lib.hid (fun W => At_out (s i) 0 W hat)
        unfold Spot.val at HAT
        clear hat
        go_wp2_with fail
        refine (HAT.out _).mono ?_; rintro e w2 ⟨rfl, hb3⟩
        have L2 := Lib.hid (bl L1.out hb3)
        clear hb3 c0 c1 c2 c3 c4
        have k1 : decide ((-1 : Int) < 0) = true := rfl
        go_wp2_with fail
        go_ret
        exact ⟨by show Ending.returned (Value.int .i64 0) = _; rw [HR.out], L2.out⟩
      have HAOK := Lib.hid hat
      have HAT := Lib.hid (fun W => At_any (s i) 0 W ⟨by decide, by decide⟩ hat)
      rw [at0 hat] at HAT
      unfold Spot.val at HAT
      have k1 : decide ((s i).first < 0) = false := decide_eq_false (by have := hat.2.2; omega)
      clear hat
      go_wp2_with fail
      refine (HAT.out _).mono ?_; rintro e w2 ⟨rfl, hb3⟩
      have L2 := Lib.hid (bl L1.out hb3)
      have HO2 := Lib.hid (World_ownsRow_bl HO1.out hb3)
      have XB2 := Lib.hid (XB.out.bl hb3)
      clear hb3 c0 c1 c2 c3 c4 L1 HO1 XB
      have c1 := XB2.out.cell 1
      have c3 := XB2.out.cell 3
      simp only [List.getElem?_toArray, List.getElem?_cons_zero, List.getElem?_cons_succ] at c1 c3
      have HII := Lib.hid (ints_of_own HO2.out (by have h1 := HSL.out; unfold maxLen; omega))
      go_wp2_with fail
      refine (ContainsI_any _ (seqsL s i) (s i).seq w2 HII.out).mono ?_; rintro e w' ⟨rfl, rfl⟩
      clear k1
      have HMX := Lib.hid (show maxW s (i + 1) = max mw (s i).words from by rw [← HMW.out]; rfl)
      by_cases hmem : (s i).seq ∈ seqsL s i
      · have HSQ := Lib.hid (show seqsL s (i + 1) = seqsL s i from by rw [seqsL_succ, if_pos hmem])
        rw [decide_eq_true hmem]
        clear hmem
        go_wp2_with fail
        go_roundw
        case rel => exact ⟨i + 1, HI.out, HM.out.1, by rw [HMX.out], fun j hj => by
          by_cases e : j = i
          · rw [e]; exact HAOK.out
          · exact HOK.out j (by omega), by rw [HSQ.out]; exact HO2.out, L2.out⟩
        case measure => exact HM.out.2
      · have HSQ := Lib.hid (show seqsL s (i + 1) = seqsL s i ++ [(s i).seq] from by rw [seqsL_succ, if_neg hmem])
        rw [decide_eq_false hmem]
        clear hmem
        obtain ⟨i0, hi0, hz0, hz1, hz2⟩ := info_parts int_info
        go_wp2_with (at_builtin; refine wpList_append_own _ rfl _ _ 55 rfl w.heap.size 3 i0 (.int .i64 0) 1 8 Try.underlying55 hi0 hz0 hz1 hz2 rfl (by decide) _ _ _ rfl (World.ownsRow.alloc HO2.out _) ⟨w2.heap.size, 0, none⟩ 1 1 [.int .i64 (s i).seq] rfl rfl (onei_new w2 (s i).seq) (onei_oc (s i).seq) ?c3 ?c4 ?c5 ?_)
        case c3 => have h1 := HSL.out; unfold maxLen; omega
        case c4 => have h1 := HSL.out; omega
        case c5 => have h1 := L2.out.size; simp; omega
        intro v' w3 hown' hgrow _
        have L3 := Lib.hid ((L2.out.alloc L2.out.size _).grown hgrow (by have h1 := L2.out.size; simp; omega) (fun k hk => (World.ownsRow.lt HO2.out k hk).1))
        have XB3 := Lib.hid ((XB2.out.alloc (.cells #[.int .i64 (s i).seq] 3)).grown hgrow (fun e => by have h1 := HNX.out xb e.symm; omega))
        have HO3 := Lib.hid (show w3.ownsRow w.heap.size 3 1 v' (seqsL s (i + 1)).length ((seqsL s (i + 1)).map (Value.int .i64)) from by rw [HSQ.out, List.map_append, List.length_append]; exact hown')
        obtain ⟨va, vc, hvf⟩ := own_form hown'
        subst hvf
        clear hown' hgrow i0 hi0 hz0 hz1 hz2 c1 c3 HO2 L2 XB2
        have c3 := XB3.out.cell 3
        simp only [List.getElem?_toArray, List.getElem?_cons_zero, List.getElem?_cons_succ] at c3
        go_wp2_with fail
        go_roundw
        case rel => exact ⟨i + 1, HI.out, HM.out.1, by rw [HMX.out], fun j hj => by
          by_cases e : j = i
          · rw [e]; exact HAOK.out
          · exact HOK.out j (by omega), HO3.out, L3.out⟩
        case measure => exact HM.out.2
    · obtain rfl : i = m := by omega
      have kd : decide ((i : Int) < (i : Int)) = false := decide_eq_false (by omega)
      have hw := maxW_range s i HOK.out
      rw [HMW.out] at hw
      have HR := Lib.hid (show mostF i s tries = tries * (2 * ((seqsL s i).length : Int) + mw) from by rw [← HMW.out]; exact if_pos ⟨HZ.out, HTR.out, HOK.out⟩)
      have hn1 : wrap64 (2 * ((seqsL s i).length : Int)) = 2 * ((seqsL s i).length : Int) := wrap64_in _ (by have h1 := HSL.out; omega)
      have hn2 : wrap64 (2 * ((seqsL s i).length : Int) + mw) = 2 * ((seqsL s i).length : Int) + mw := wrap64_in _ (by have h1 := HSL.out; omega)
      have hn3 : wrap64 (tries * (2 * ((seqsL s i).length : Int) + mw)) = tries * (2 * ((seqsL s i).length : Int) + mw) := wrap64_in _ (by
        have h1 := HSL.out
        have h2 := HTR.out
        have h3 : 0 ≤ tries * (2 * ((seqsL s i).length : Int) + mw) := Int.mul_nonneg (by omega) (by omega)
        have h4 : tries * (2 * ((seqsL s i).length : Int) + mw) ≤ 16 * (2 * ((seqsL s i).length : Int) + mw) := Int.mul_le_mul_of_nonneg_right h2.2 (by omega)
        omega)
      have HN123 := Lib.hid (And.intro hn1 (And.intro hn2 hn3))
      clear hn1 hn2 hn3 hw hi hlt
      go_wp2_with fail
      go_ret
      refine ⟨?_, L0.out⟩
      show Ending.returned (Value.int .i64 (wrap64 (tries * wrap64 (wrap64 (2 * ((seqsL s i).length : Int)) + mw)))) = _
      rw [HN123.out.1, HN123.out.2.1, HN123.out.2.2, HR.out]
end Go.Proofs.Ythcaagkgddeabaa.Bank
