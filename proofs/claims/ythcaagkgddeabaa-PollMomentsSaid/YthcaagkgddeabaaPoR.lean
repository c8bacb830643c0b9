/-
  Law 12: a poll that has not begun. Printed by wip/tools/mkpor.py. Conditions stand at each. By an AI agent.
-/
import Derived.Test.YthcaagkgddeabaaPoQ
import Derived.Test.YthcaagkgddeabaaTail
import Derived.Deep.DeepAppendWide
namespace Go.Proofs.Ythcaagkgddeabaa.Bank
set_option linter.unusedVariables false
set_option linter.unusedSimpArgs false
open Go Go.RowKit Go.Proofs.Ythcaagkgddeabaa.Base Go.Deep Go.ChangeShapes Go.WideShapes Go.Proofs.Ythcaagkgddeabaa.Queue
theorem top_info : (Try.prog.info? 106).map (fun i => (i.zero, i.size, i.bytes)) = some (some (.agg #[.int .i64 0, .int .i64 0, .int .i64 0, .int .i64 0, .int .i64 0, .int .i64 0, .int .u64 0]), 7, 56) := by kernel_rfl
theorem top_new (w : World) (t : Tp) : ∀ j u, (encT t)[j]? = some u → (w.alloc (.cells #[.int .i64 t.n, .int .i64 t.spot.owners, .int .i64 t.spot.seq, .int .i64 t.spot.first, .int .i64 t.spot.words, .int .i64 t.spot.depth, .int .u64 0] 106)).cell? ((⟨w.heap.size, 0, none⟩ : Addr).add j) = some u := by
  have hbn := Blk.new w 106 #[.int .i64 t.n, .int .i64 t.spot.owners, .int .i64 t.spot.seq, .int .i64 t.spot.first, .int .i64 t.spot.words, .int .i64 t.spot.depth, .int .u64 0]
  intro j u hj
  have e : (⟨w.heap.size, 0, none⟩ : Addr).add j = ⟨w.heap.size, j, none⟩ := by unfold Addr.add; split <;> simp_all
  rw [e, hbn.cell j]
  simpa [encT] using hj
theorem topsL_succ (l : Nat → Queue.Sub) (s : Nat → Spot) (k : Nat) : topsL l s (k + 1) = if (topsL l s k).any (fun t => t.n == (l k).topic) then topsL l s k else topsL l s k ++ [⟨(l k).topic, s k⟩] := rfl
theorem own_form {w : World} {base : Nat} {e : TypeId} {size : Nat} {v : Value} {n : Nat} {xs : List Value} (h : w.ownsRow base e size v n xs) : ∃ A c, v = .slice A n c := by
  rcases h.2 with ⟨rfl, h0⟩ | ⟨g, cap, cur, rfl, _⟩
  · exact ⟨none, 0, by rw [h0]⟩
  · exact ⟨_, _, rfl⟩
theorem ex_of_grown {a b : World} {r : Option Nat} (h : a.grownBy b r) : Ex (fun k => r = some k) a b := ⟨h.os, h.tape, h.output, h.size, fun k hk hn => h.block k hk (fun e => hn e.symm)⟩
def pcsT (rs n cs : Nat) (vt : Value) (tries : Int) : Array Value := #[.slice (some ⟨rs, 0, none⟩) n cs, vt, .int .i64 tries, .int .i64 1, .int .i64 0, .int .i64 (-1), .int .u64 0, .int .i64 0, .int .i64 0, .slice none 0 0, .int .i64 0, .int .i64 0, .int .i64 0]
theorem PNew_unfit (v1 v2 : Value) (n m : Nat) (l : Nat → Queue.Sub) (s : Nat → Spot) (tries : Int) (w : World) (hl : SubsC w v1 n l) (hs : Sps w v2 m s) (hf : ¬ Fits n m l s) :
    Calls Try.prog 15 #[v1, v2, .int .i64 tries] w fun e w' => e = .returned (.tuple #[.pointer none, .int .i64 1]) ∧ Below w.heap.size w w' := by
  have HF := Lib.hid (fits_any v1 v2 n m l s w hl hs)
  have HNF := Lib.hid hf
  obtain ⟨A, c, rfl, _⟩ := hl.cap
  obtain ⟨A2, c2, rfl, _⟩ := hs.form
  clear hl hs hf
  go_enter Try.func15, Try.ntmps15
  go_wp2_with fail
  refine HF.out.mono ?_; rintro e w1 ⟨qb, rfl, hq, hb1⟩
  have L1 := Lib.hid hb1
  obtain rfl : qb = false := by
    cases qb with
    | false => rfl
    | true => exact absurd (hq.1 rfl) HNF.out
  clear hq hb1 HF
  go_wp2_with fail
  go_ret2
  exact ⟨rfl, L1.out⟩
theorem PNew_range (v1 v2 : Value) (n m : Nat) (l : Nat → Queue.Sub) (s : Nat → Spot) (tries : Int) (w : World) (hl : SubsC w v1 n l) (hs : Sps w v2 m s) (hf : Fits n m l s) (ht : ¬ (1 ≤ tries ∧ tries ≤ 16)) :
    Calls Try.prog 15 #[v1, v2, .int .i64 tries] w fun e w' => e = .returned (.tuple #[.pointer none, .int .i64 10]) ∧ Below w.heap.size w w' := by
  have HF := Lib.hid (fits_any v1 v2 n m l s w hl hs)
  have HNF := Lib.hid hf
  have HT := Lib.hid (show decide (1 ≤ tries ∧ tries ≤ 16) = false from decide_eq_false ht)
  obtain ⟨A, c, rfl, _⟩ := hl.cap
  obtain ⟨A2, c2, rfl, _⟩ := hs.form
  clear hl hs hf ht
  go_enter Try.func15, Try.ntmps15
  go_wp2_with fail
  refine HF.out.mono ?_; rintro e w1 ⟨qb, rfl, hq, hb1⟩
  have L1 := Lib.hid hb1
  obtain rfl : qb = true := hq.2 HNF.out
  clear hq hb1 HF
  go_wp2_with fail
  refine (pmay_any tries w1).mono ?_; rintro e w' ⟨rfl, rfl⟩
  rw [HT.out]
  go_wp2_with fail
  go_ret2
  exact ⟨rfl, L1.out⟩
set_option maxRecDepth 100000 in
set_option maxHeartbeats 16000000 in
theorem PNew_in (v1 v2 : Value) (n m : Nat) (l : Nat → Queue.Sub) (s : Nat → Spot) (tries : Int) (w : World) (hl : SubsC w v1 n l) (hs : Sps w v2 m s) (h64 : n * 48 ≤ 140737488351232) (hf : Fits n m l s) (ht : 1 ≤ tries ∧ tries ≤ 16) :
    Calls Try.prog 15 #[v1, v2, .int .i64 tries] w fun e w' => ∃ o rs cs rt ct, e = .returned (.tuple #[.pointer (some ⟨o, 0, none⟩), .int .i64 0]) ∧ PAt w' o rs cs rt ct o (.slice none 0 0) (cOf n l s) ⟨tries, 1, 0, -1, 0, 0, 0, 0, 0, 0, [], zeros (cOf n l s).T, fun i => (l i).cur⟩ ∧ (w.heap.size ≤ o ∧ w.heap.size ≤ rs ∧ w.heap.size ≤ rt) ∧ Below w.heap.size w w' := by
  have HF := Lib.hid (fits_any v1 v2 n m l s w hl hs)
  have HFT := Lib.hid hf
  have HT := Lib.hid (show decide (1 ≤ tries ∧ tries ≤ 16) = true from decide_eq_true ht)
  have hnm := hf.2.1
  subst hnm
  have HPOS := Lib.hid (show 0 < n by have := hf.1; omega)
  have HCL := Lib.hid (fun W (hb : Below w.heap.size w W) => CloneQ_any v1 n l W (subs_below hl.subs hb) HPOS.out h64)
  have H64 := Lib.hid h64
  have HSUB := Lib.hid hl.subs
  obtain ⟨A, c, hv1, hcap⟩ := hl.cap
  obtain ⟨A', c', hv1', _, hg⟩ := hl.subs.form
  rw [hv1] at hv1'
  simp only [Value.slice.injEq, true_and] at hv1'
  obtain ⟨rfl, rfl⟩ := hv1'
  subst hv1
  obtain ⟨A2, c2, rfl, _, hg2⟩ := hs.form
  obtain ⟨b, off, rfl, hb, hc⟩ := hg HPOS.out
  obtain ⟨b2, off2, rfl, hb2, hc2⟩ := hg2 HPOS.out
  have HB := Lib.hid (And.intro hb hb2)
  have HC := Lib.hid hc
  have HC2 := Lib.hid hc2
  clear hl hs hf ht h64 hcap hg hg2 hb hb2 hc hc2
  go_enter Try.func15, Try.ntmps15
  go_wp2_with fail
  refine HF.out.mono ?_; rintro e w1 ⟨qb, rfl, hq, hb1⟩
  have L1 := Lib.hid hb1
  obtain rfl : qb = true := hq.2 HFT.out
  clear hq hb1 HF
  go_wp2_with fail
  refine (pmay_any tries w1).mono ?_; rintro e w' ⟨rfl, rfl⟩
  rw [HT.out]
  go_wp2_with fail
  refine (HCL.out w1 L1.out).mono ?_; rintro e w2 ⟨rs, cs, rfl, _, hrs, hin, hb2⟩
  have L2 := Lib.hid (bl L1.out hb2)
  have S2 := Lib.hid hin
  have HRS := Lib.hid (Nat.le_trans L1.out.size hrs)
  clear hrs hin hb2 HCL
  go_wp2_with fail
  have hn := Blk.new w2 101 (pcsT rs n cs (.slice none 0 0) tries)
  have hb := (Below.refl w2.heap.size w2).alloc (Nat.le_refl _) (.cells (pcsT rs n cs (.slice none 0 0) tries) 101)
  obtain ⟨o, ho⟩ : ∃ o, w2.heap.size = o := ⟨_, rfl⟩
  have HO := Lib.hid (show w.heap.size ≤ o ∧ rs < o from by rw [← ho]; exact ⟨L2.out.size, S2.out.lt⟩)
  unfold pcsT at hn hb
  simp only [ho] at hn ⊢
  generalize w2.alloc (.cells #[.slice (some ⟨rs, 0, none⟩) n cs, .slice none 0 0, .int .i64 tries, .int .i64 1, .int .i64 0, .int .i64 (-1), .int .u64 0, .int .i64 0, .int .i64 0, .slice none 0 0, .int .i64 0, .int .i64 0, .int .i64 0] 101) = w3 at *
  have B3 := Lib.hid (show Blk w3 o 101 (pcsT rs n cs (.slice none 0 0) tries) from hn)
  have S3 := Lib.hid (S2.out.bl hb)
  have L3 := Lib.hid (bl L2.out hb)
  clear hn hb ho S2 L2
  go_loopw [9, 10, 25] (fun s9 s10 s25 wr => ∃ i : Nat, i ≤ n ∧ s25 = .int .i64 i ∧ (∃ vt, Blk wr o 101 (pcsT rs n cs vt tries) ∧ wr.ownsRow (o + 1) 106 7 vt (topsL l s i).length (flatT (topsL l s i))) ∧ SubsIn wr rs n l ∧ Below w.heap.size w wr) (fun s9 s10 s25 _ => n - (intOf s25).toNat)
  case atStart => exact ⟨0, by omega, rfl, ⟨_, B3.out, World.ownsRow_nil _ _ _ _⟩, S3.out, L3.out⟩
  case round =>
    obtain ⟨i, hi, rfl, ⟨vt, hbb, hown⟩, hss, hll⟩ := hrel
    obtain ⟨ta, tc, rfl⟩ := own_form hown
    have HO1 := Lib.hid hown
    have B4 := Lib.hid hbb
    have S4 := Lib.hid hss
    have L4 := Lib.hid hll
    have HLN := Lib.hid (show (topsL l s i).length * 48 ≤ 140737488351232 from by have h1 := topsL_len l s i; have := H64.out; omega)
    clear hown hbb hss hll
    by_cases hlt : i < n
    · have kd : decide ((i : Int) < (n : Int)) = true := decide_eq_true (by omega)
      have ki0 : (0 : Int) ≤ (i : Int) := by omega
      have ki1 : (i : Int) < (n : Int) := by omega
      have HI := Lib.hid hlt
      have HM := Lib.hid (turn_no i n hlt (by have := H64.out; unfold maxLen; omega))
      clear hi hlt
      have HX := Lib.hid (HC.out i HI.out)
      have HY := Lib.hid (HC2.out i HI.out)
      have x0 := (L4.out.cell (p := ⟨b, off + i * 6, none⟩) HB.out.1).trans HX.out.1
      have x1 := (L4.out.cell (p := ⟨b, off + i * 6 + 1, none⟩) HB.out.1).trans HX.out.2.1
      have x2 := (L4.out.cell (p := ⟨b, off + i * 6 + 2, none⟩) HB.out.1).trans HX.out.2.2.1
      have x3 := (L4.out.cell (p := ⟨b, off + i * 6 + 3, none⟩) HB.out.1).trans HX.out.2.2.2.1
      have x4 := (L4.out.cell (p := ⟨b, off + i * 6 + 4, none⟩) HB.out.1).trans HX.out.2.2.2.2.1
      have x5 := (L4.out.cell (p := ⟨b, off + i * 6 + 5, none⟩) HB.out.1).trans HX.out.2.2.2.2.2
      have hna := Blk.new wr 46 #[.int .i64 (l i).topic, .int .i64 (l i).rank, .int .u64 (l i).cur.next, .int .i64 (l i).cur.cap, .int .u64 (l i).cur.got, .int .u64 (l i).cur.lost]
      have hba := (Below.refl wr.heap.size wr).alloc (Nat.le_refl _) (.cells #[.int .i64 (l i).topic, .int .i64 (l i).rank, .int .u64 (l i).cur.next, .int .i64 (l i).cur.cap, .int .u64 (l i).cur.got, .int .u64 (l i).cur.lost] 46)
      have b0 := (B4.out.bl hba).cell 0
      have b1 := (B4.out.bl hba).cell 1
      simp only [pcsT, List.getElem?_toArray, List.getElem?_cons_zero, List.getElem?_cons_succ] at b0 b1
      have X5 := Lib.hid hna
      have EA := Lib.hid hba
      clear hna hba
      go_wp2_with fail
      clear x0 x1 x2 x3 x4 x5
      obtain ⟨xb, hxb⟩ : ∃ xb, wr.heap.size = xb := ⟨_, rfl⟩
      have HXB := Lib.hid (show o < xb from by rw [← hxb]; exact B4.out.lt)
      have HNX := Lib.hid (show ∀ k, (Value.slice ta (topsL l s i).length tc).ownBlock = some k → o + 1 ≤ k ∧ k < xb from fun k hk => by have := World.ownsRow.lt HO1.out k hk; omega)
      simp only [hxb] at X5 EA ⊢
      clear b0 b1
      generalize wr.alloc (.cells #[.int .i64 (l i).topic, .int .i64 (l i).rank, .int .u64 (l i).cur.next, .int .i64 (l i).cur.cap, .int .u64 (l i).cur.got, .int .u64 (l i).cur.lost] 46) = w5 at *
      have EA2 := Lib.hid (show Below wr.heap.size wr w5 from by rw [hxb]; exact EA.out)
      have B5 := Lib.hid (B4.out.bl EA2.out)
      have S5 := Lib.hid (S4.out.bl EA2.out)
      have L5 := Lib.hid (bl L4.out EA2.out)
      have HO5 := Lib.hid (World_ownsRow_bl HO1.out EA2.out)
      clear B4 S4 L4 HO1 EA EA2 hxb
      refine (new1_contains _ (topsL l s i).length (fun k => (topsL l s i).getD k default) (zeros (topsL l s i).length) (l i).topic xb w5 (tps_of_own HO5.out rfl (by have := HLN.out; unfold maxLen; omega)) (fun j hj W hW => new1_any _ _ (l i).topic xb W ((hW.cell (p := ⟨xb, 0, none⟩) X5.out.lt).trans (X5.out.cell 0)))).mono ?_; rintro e w6 ⟨qc, rfl, hqc, hb6⟩
      have B6 := Lib.hid (B5.out.bl hb6)
      have S6 := Lib.hid (S5.out.bl hb6)
      have L6 := Lib.hid (bl L5.out hb6)
      have HO6 := Lib.hid (World_ownsRow_bl HO5.out hb6)
      have X6 := Lib.hid (X5.out.bl hb6)
      have HQ := Lib.hid (show qc = (topsL l s i).any (fun t => t.n == (l i).topic) from by
        rw [Bool.eq_iff_iff, hqc, List.any_eq_true]
        constructor
        · rintro ⟨k, hk, he⟩
          exact ⟨(topsL l s i)[k], List.getElem_mem hk, by simpa [List.getD_eq_getElem?_getD, List.getElem?_eq_getElem hk] using he⟩
        · rintro ⟨t, ht, he⟩
          obtain ⟨k, hk, rfl⟩ := List.mem_iff_getElem.1 ht
          exact ⟨k, hk, by simpa [List.getD_eq_getElem?_getD, List.getElem?_eq_getElem hk] using he⟩)
      clear hqc hb6 B5 S5 L5 HO5 X5
      cases qc with
      | true =>
        have HTL := Lib.hid (show topsL l s (i + 1) = topsL l s i from by rw [topsL_succ, if_pos HQ.out.symm])
        go_wp2_with fail
        go_roundw
        case rel => exact ⟨i + 1, HI.out, HM.out.1, ⟨_, B6.out, by rw [HTL.out]; exact HO6.out⟩, S6.out, L6.out⟩
        case measure => exact HM.out.2
      | false =>
        have HTL := Lib.hid (show topsL l s (i + 1) = topsL l s i ++ [(⟨(l i).topic, s i⟩ : Tp)] from by rw [topsL_succ, if_neg (by rw [← HQ.out]; decide)])
        obtain ⟨i0, hi0, hz0, hz1, hz2⟩ := info_parts top_info
        go_upto_region 10 with fail
        have hne : Nonempty (Held (Ex (fun k => (Value.slice ta (topsL l s i).length tc).ownBlock = some k) w6)) := ⟨⟨w6, Ex.refl _ _⟩⟩
        have p0 : ∀ y : Held (Ex (fun k => (Value.slice ta (topsL l s i).length tc).ownBlock = some k) w6), y.w.cell? ⟨o, 0, none⟩ = some (.slice (some ⟨rs, 0, none⟩) n cs) := fun y => (B6.out.ex y.ok (fun h => by have := HNX.out _ h; omega)).cell 0
        have p1 : ∀ y : Held (Ex (fun k => (Value.slice ta (topsL l s i).length tc).ownBlock = some k) w6), y.w.cell? ⟨o, 1, none⟩ = some (.slice ta (topsL l s i).length tc) := fun y => (B6.out.ex y.ok (fun h => by have := HNX.out _ h; omega)).cell 1
        have px : ∀ y : Held (Ex (fun k => (Value.slice ta (topsL l s i).length tc).ownBlock = some k) w6), y.w.cell? ⟨xb, 0, none⟩ = some (.int .i64 (l i).topic) := fun y => (X6.out.ex y.ok (fun h => by have := HNX.out _ h; omega)).cell 0
        have q0 : ∀ y : Held (Ex (fun k => (Value.slice ta (topsL l s i).length tc).ownBlock = some k) w6), y.w.cell? ⟨b2, off2 + i * 5, none⟩ = some (.int .i64 (s i).owners) := fun y => y.ok.cell ((L6.out.cell (p := ⟨b2, _, none⟩) HB.out.2).trans HY.out.1) (fun h => by have := HNX.out _ h; have h2 := HO.out; have h3 := HB.out.2; omega)
        have q1 : ∀ y : Held (Ex (fun k => (Value.slice ta (topsL l s i).length tc).ownBlock = some k) w6), y.w.cell? ⟨b2, off2 + i * 5 + 1, none⟩ = some (.int .i64 (s i).seq) := fun y => y.ok.cell ((L6.out.cell (p := ⟨b2, _, none⟩) HB.out.2).trans HY.out.2.1) (fun h => by have := HNX.out _ h; have h2 := HO.out; have h3 := HB.out.2; omega)
        have q2 : ∀ y : Held (Ex (fun k => (Value.slice ta (topsL l s i).length tc).ownBlock = some k) w6), y.w.cell? ⟨b2, off2 + i * 5 + 2, none⟩ = some (.int .i64 (s i).first) := fun y => y.ok.cell ((L6.out.cell (p := ⟨b2, _, none⟩) HB.out.2).trans HY.out.2.2.1) (fun h => by have := HNX.out _ h; have h2 := HO.out; have h3 := HB.out.2; omega)
        have q3 : ∀ y : Held (Ex (fun k => (Value.slice ta (topsL l s i).length tc).ownBlock = some k) w6), y.w.cell? ⟨b2, off2 + i * 5 + 3, none⟩ = some (.int .i64 (s i).words) := fun y => y.ok.cell ((L6.out.cell (p := ⟨b2, _, none⟩) HB.out.2).trans HY.out.2.2.2.1) (fun h => by have := HNX.out _ h; have h2 := HO.out; have h3 := HB.out.2; omega)
        have q4 : ∀ y : Held (Ex (fun k => (Value.slice ta (topsL l s i).length tc).ownBlock = some k) w6), y.w.cell? ⟨b2, off2 + i * 5 + 4, none⟩ = some (.int .i64 (s i).depth) := fun y => y.ok.cell ((L6.out.cell (p := ⟨b2, _, none⟩) HB.out.2).trans HY.out.2.2.2.2) (fun h => by have := HNX.out _ h; have h2 := HO.out; have h3 := HB.out.2; omega)
        refine drawn_tail (S := (Ex (fun k => (Value.slice ta (topsL l s i).length tc).ownBlock = some k) w6)) [16] [([0, 1, 2, 3, 4, 5, 6, 7, 8, 9, 10, 11], 12), ([], 13), ([], 14), ([], 15), ([], 16)] (by kernel_rfl) (by kernel_rfl) (by kernel_rfl) rfl (Ex.refl _ _).drew ?_
        refine PhasedT.go ?_
        simp only [pick, List.map_cons, List.map_nil, List.getElem?_cons_zero, List.getElem?_cons_succ, Option.getD_some]
        repeat (go_big_quiet_step (fail))
        refine wpQuiet_nil ?_
        clear hne p0 p1 px q0 q1 q2 q3 q4
        have EE0 := Lib.hid ((Ex.refl (fun k => (Value.slice ta (topsL l s i).length tc).ownBlock = some k) w6).drew)
        have hdb := (Below.refl w6.heap.size w6).drew
        have B7 := Lib.hid (B6.out.bl hdb)
        have S7 := Lib.hid (S6.out.bl hdb)
        have L7 := Lib.hid (bl L6.out hdb)
        have HO7 := Lib.hid (World_ownsRow_bl HO6.out hdb)
        clear hdb B6 S6 L6 HO6
        generalize w6.drew = w7 at *
        go_wp2_with fail
        refine behind_normal ⟨(Ex (fun k => (Value.slice ta (topsL l s i).length tc).ownBlock = some k) w6), fun W h => h, (by first | exact EE0.out.alloc _ | exact fun _ => EE0.out.alloc _), ?_⟩
        refine PhasedT.go ?_
        simp only [pick, List.map_cons, List.map_nil, List.getElem?_cons_zero, List.getElem?_cons_succ, Option.getD_some]
        repeat (go_big_quiet_step (fail))
        refine wpQuiet_nil ?_
        go_wp2_with (at_builtin; refine wpList_append_own_wide _ rfl _ _ 99 rfl (o + 1) 106 i0 (.agg #[.int .i64 0, .int .i64 0, .int .i64 0, .int .i64 0, .int .i64 0, .int .i64 0, .int .u64 0]) 7 56 Try.underlying99 hi0 hz0 hz1 hz2 rfl (by decide) _ _ _ rfl (World.ownsRow.alloc HO7.out _) ⟨w7.heap.size, 0, none⟩ 1 1 (encT (⟨(l i).topic, s i⟩ : Tp)) rfl rfl (top_new w7 (⟨(l i).topic, s i⟩ : Tp)) (encT_one (⟨(l i).topic, s i⟩ : Tp)) ?c3 ?c4 ?c5 ?_)
        case c3 => have h1 := HLN.out; unfold maxLen; omega
        case c4 => have h1 := HLN.out; omega
        case c5 => have h1 := B7.out.lt; simp; omega
        intro v' w8 hown' hgrow _
        have he : Ex (fun k => (Value.slice ta (topsL l s i).length tc).ownBlock = some k) w7 w8 := ((Ex.refl _ w7).alloc _).trans (ex_of_grown hgrow)
        have EE1 := Lib.hid (EE0.out.trans he)
        have B8 := Lib.hid (B7.out.ex he (fun h => by have := HNX.out _ h; omega))
        have S8 := Lib.hid (S7.out.ex he (fun h => by have := HNX.out _ h; have := HO.out; omega))
        have L8 := Lib.hid (Ex.below L7.out he (fun k hk => by have := HNX.out _ hk; have := HO.out; omega))
        have HO8 := Lib.hid (show w8.ownsRow (o + 1) 106 7 v' (topsL l s (i + 1)).length (flatT (topsL l s (i + 1))) from by rw [HTL.out, flatT_append, flatT_one, List.length_append]; exact hown')
        have HLN2 := Lib.hid (show (topsL l s (i + 1)).length = (topsL l s i).length + 1 from by rw [HTL.out, List.length_append]; rfl)
        obtain ⟨va, vc, hvf⟩ := own_form HO8.out
        rw [HLN2.out] at hvf
        subst hvf
        clear hown' hgrow he B7 S7 L7 HO7 i0 hi0 hz0 hz1 hz2
        refine behind_normal ⟨(Ex (fun k => (Value.slice ta (topsL l s i).length tc).ownBlock = some k) w6), fun W h => h, (by first | exact EE1.out | exact fun _ => EE1.out), ?_⟩
        refine PhasedT.go ?_
        simp only [pick, List.map_cons, List.map_nil, List.getElem?_cons_zero, List.getElem?_cons_succ, Option.getD_some]
        repeat (go_big_quiet_step (fail))
        refine wpQuiet_nil ?_
        have b0 := B8.out.cell 0
        have b1 := B8.out.cell 1
        simp only [pcsT, List.getElem?_toArray, List.getElem?_cons_zero, List.getElem?_cons_succ] at b0 b1
        have z1 := B8.out.frozen 1
        go_wp2_with fail
        clear b0 b1 z1
        refine behind_normal ⟨(Ex (fun k => (Value.slice ta (topsL l s i).length tc).ownBlock = some k) w6), fun W h => h, (by first | exact EE1.out | exact fun _ => EE1.out), ?_⟩
        refine PhasedT.go ?_
        simp only [pick, List.map_cons, List.map_nil, List.getElem?_cons_zero, List.getElem?_cons_succ, Option.getD_some]
        repeat (go_big_quiet_step (fail))
        refine wpQuiet_nil ?_
        have b0 := B8.out.cell 0
        have b1 := B8.out.cell 1
        simp only [pcsT, List.getElem?_toArray, List.getElem?_cons_zero, List.getElem?_cons_succ] at b0 b1
        have z1 := B8.out.frozen 1
        go_wp2_with fail
        clear b0 b1 z1
        refine behind_normal ⟨(Ex (fun k => (Value.slice ta (topsL l s i).length tc).ownBlock = some k) w6), fun W h => h, (by first | exact EE1.out | exact fun _ => EE1.out), ?_⟩
        refine PhasedT.go ?_
        simp only [pick, List.map_cons, List.map_nil, List.getElem?_cons_zero, List.getElem?_cons_succ, Option.getD_some]
        repeat (go_big_quiet_step (fail))
        refine wpQuiet_nil ?_
        have b0 := B8.out.cell 0
        have b1 := B8.out.cell 1
        simp only [pcsT, List.getElem?_toArray, List.getElem?_cons_zero, List.getElem?_cons_succ] at b0 b1
        have z1 := B8.out.frozen 1
        go_wp2_with fail
        clear b0 b1 z1
        have ee := (Ex.refl (fun k => k = o) w8).setCell (q := ⟨o, 1, none⟩) (.inl rfl) (.slice va ((topsL l s i).length + 1) vc)
        have bb : Blk (w8.setCell ⟨o, 1, none⟩ (.slice va ((topsL l s i).length + 1) vc)) o 101 (pcsT rs n cs (.slice va ((topsL l s i).length + 1) vc) tries) := B8.out.set_ 1 (.slice va ((topsL l s i).length + 1) vc)
        have B9 := Lib.hid bb
        have S9 := Lib.hid (S8.out.ex ee (by have := HO.out; omega))
        have HO9 := Lib.hid (ownsRow_ex HO8.out ee (fun k hk => by have h1 := (World.ownsRow.lt HO8.out k hk).1; show ¬ k = o; omega))
        have L9 := Lib.hid (Ex.below L8.out ee (fun k hk => by have hk : k = o := hk; have := HO.out; omega))
        clear ee bb B8 S8 HO8 L8
        generalize w8.setCell ⟨o, 1, none⟩ (.slice va ((topsL l s i).length + 1) vc) = w9 at *
        refine behind_normal ⟨(Ex (fun k => (Value.slice ta (topsL l s i).length tc).ownBlock = some k) w6), fun W h => h, (fun h => by cases h), ?_⟩
        refine PhasedT.end_ ?_
        go_wp2_with fail
        go_roundw
        case rel => exact ⟨i + 1, HI.out, HM.out.1, ⟨_, B9.out, HO9.out⟩, S9.out, L9.out⟩
        case measure => exact HM.out.2
    · obtain rfl : i = n := by omega
      have kd : decide ((i : Int) < (i : Int)) = false := decide_eq_false (by omega)
      have b0 := B4.out.cell 0
      have b1 := B4.out.cell 1
      simp only [pcsT, List.getElem?_toArray, List.getElem?_cons_zero, List.getElem?_cons_succ] at b0 b1
      go_wp2_with fail
      refine (SortT_any (o + 1) _ (topsL l s i) wr HO1.out (topsL_apart l s i) (by have := HLN.out; omega)).mono ?_; rintro e w5 ⟨rfl, d, hp, hu, hown, hg⟩
      have hd := topsS_only hp hu
      subst hd
      clear b0 b1
      have he := ex_of_grown hg
      have HNX := Lib.hid (show ∀ k, (Value.slice ta (topsL l s i).length tc).ownBlock = some k → o + 1 ≤ k from fun k hk => (World.ownsRow.lt HO1.out k hk).1)
      have B5 := Lib.hid (B4.out.ex he (fun h => by have := HNX.out _ h; omega))
      have S5 := Lib.hid (S4.out.ex he (fun h => by have := HNX.out _ h; have := HO.out; omega))
      have L5 := Lib.hid (Ex.below L4.out he (fun k hk => by have := HNX.out _ hk; have := HO.out; omega))
      have hT : (topsL l s i).length = (cOf i l s).T := (topsS_perm l s i).length_eq.symm
      have hT1 : 0 < (cOf i l s).T := by have := (cOf_ix (n := i) (l := l) (s := s) (i := 0) HPOS.out).1; omega
      rw [hT] at hown
      obtain ⟨rt, ct, hv, hrt, htop⟩ := topsIn_of_own hown rfl hT1
      try rw [hT] at hv
      simp only [Value.slice.injEq, true_and] at hv
      obtain ⟨rfl, rfl⟩ := hv
      have T5 := Lib.hid htop
      have HRT := Lib.hid hrt
      have HT5 := Lib.hid hT
      clear B4 S4 L4 HO1 hown hg he hp hu hT hT1 htop hrt
      go_wp2_with fail
      go_ret2
      refine ⟨o, rs, cs, rt, tc, rfl, ⟨?_, S5.out, T5.out, OwnR.nil _, B5.out.lt, ?_, fun k hk => by simp [Value.ownBlock] at hk⟩, ?_, L5.out⟩
      · have := B5.out
        unfold pcsT at this
        rw [HT5.out] at this
        exact this
      · have h1 := HO.out; have h2 := HRT.out; omega
      · have h1 := HO.out; have h2 := HRT.out; have h3 := HRS.out; omega
end Go.Proofs.Ythcaagkgddeabaa.Bank
