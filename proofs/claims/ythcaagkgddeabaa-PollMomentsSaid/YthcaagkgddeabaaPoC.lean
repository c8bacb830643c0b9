/-
  Law 12: a poll chooses the record that it loads. Printed by wip/tools/mkpoc.py. Conditions stand at each. By an AI agent.
-/
import Derived.Test.YthcaagkgddeabaaPoB
import Derived.Deep.CutRange
namespace Go.Proofs.Ythcaagkgddeabaa.Bank
set_option linter.unusedVariables false
set_option linter.unusedSimpArgs false
open Go Go.RowKit Go.Proofs.Ythcaagkgddeabaa.Base Go.Deep Go.ChangeShapes Go.WideShapes Go.Proofs.Ythcaagkgddeabaa.Queue
def pickF (c : PC) (x : PX) : Int := best (c.sub x.cu) (gensL c x.gl) c.n
def genF (c : PC) (x : PX) (k : Nat) : Int := takeX (x.cu k) (nth x.gl (c.ix k))
def chooseP (c : PC) (x : PX) : PX :=
  if pickF c x < 0 then { x with words := [], size := 0, gen := 0, begun := x.steps, pick := -1 }
  else { x with words := [], begun := x.steps, pick := pickF c x, gen := genF c x (pickF c x).toNat, place := atF (c.tp (c.ix (pickF c x).toNat)).spot (genF c x (pickF c x).toNat), size := (c.tp (c.ix (pickF c x).toNat)).spot.words }
/-- numbers are in their ranges -/
structure PFit (c : PC) (x : PX) : Prop where
  cu : ∀ i, i < c.n → (x.cu i).Right ∧ (x.cu i).Ok
  gl : ∀ v ∈ x.gl, 0 ≤ v ∧ v < 9223372036854775808
  glen : x.gl.length = c.T
theorem PFit.gens {c : PC} {x : PX} (h : PFit c x) (hc : c.Ok) : ∀ v ∈ gensL c x.gl, 0 ≤ v ∧ v < 9223372036854775808 := by
  intro v hv
  obtain ⟨i, hi, rfl⟩ := List.mem_map.1 hv
  have hi' : i < c.n := by simpa using hi
  exact h.gl _ (nth_mem (by rw [h.glen]; exact (hc.ix i hi').1))
theorem PFit.gen {c : PC} {x : PX} (h : PFit c x) (hc : c.Ok) {i : Nat} (hi : i < c.n) : 0 ≤ nth x.gl (c.ix i) ∧ nth x.gl (c.ix i) < 9223372036854775808 := h.gl _ (nth_mem (by rw [h.glen]; exact (hc.ix i hi).1))
theorem takeX_range {c : Cur} {g : Int} (hc : c.Ok) (hg : 0 ≤ g ∧ g < 9223372036854775808) : 0 ≤ takeX c g ∧ takeX c g ≤ 18446744073709551615 := by
  unfold takeX
  split
  · rename_i h0
    have hm : mayE c g = 0 := by
      unfold takeE at h0
      split at h0
      · assumption
      · exact h0
    obtain ⟨hr, hi⟩ := seeC_right hm
    exact (seen_ok hr hc hg.1 hi).next
  · omega
set_option maxRecDepth 100000 in
set_option maxHeartbeats 16000000 in
theorem choose_any (o rs cs rt ct q : Nat) (vw : Value) (c : PC) (x : PX) (w : World) (h : PAt w o rs cs rt ct q vw c x) (hc : c.Ok) (hf : PFit c x) :
    Calls Try.prog 39 #[.pointer (some ⟨o, 0, none⟩)] w fun e w' => e = .returned (.tuple #[]) ∧ PAt w' o rs cs rt ct q (.slice none 0 0) c (chooseP c x) ∧ Ex (fun k => k = o) w w' := by
  obtain ⟨n, T, tn, rk, tp, ix⟩ := c
  obtain ⟨left, round, next, pk, gen, place, size, how, steps, begun, words, gl, cu⟩ := x
  have HC := Lib.hid hc
  have HF := Lib.hid hf
  have HA := Lib.hid h.apart
  have QL := Lib.hid h.qlt
  have B0 : RowKit.Hid (Blk w o 101 (pcs rs n cs rt T ct vw left round next pk gen place size how steps begun)) := Lib.hid h.box
  have S0 : RowKit.Hid (SubsIn w rs n (PC.sub ⟨n, T, tn, rk, tp, ix⟩ cu)) := Lib.hid h.subs
  have P0 : RowKit.Hid (TopsIn w rt T tp gl) := Lib.hid h.tops
  have X0 := Lib.hid (Ex.refl (fun k => k = o) w)
  have ORD1 := Lib.hid (show rs ≠ o ∧ rt ≠ o ∧ rs ≠ rt from by have h1 := HA.out; omega)
  have HPF : RowKit.Hid (∃ k, pickF ⟨n, T, tn, rk, tp, ix⟩ ⟨left, round, next, pk, gen, place, size, how, steps, begun, words, gl, cu⟩ = k) := Lib.hid ⟨_, rfl⟩
  have N64 := Lib.hid (show n ≤ 64 from hc.n64)
  have T64 := Lib.hid (show T ≤ maxLen from by have h1 : T ≤ n := hc.tn; have := N64.out; unfold maxLen; omega)
  have HCU := Lib.hid (show ∀ i, i < n → (cu i).Right ∧ (cu i).Ok from hf.cu)
  have HGV := Lib.hid (show ∀ i, i < n → 0 ≤ nth gl (ix i) ∧ nth gl (ix i) < 9223372036854775808 from fun i hi => hf.gen hc hi)
  have HGN := Lib.hid (show ∀ i, i < n → nth (gensL ⟨n, T, tn, rk, tp, ix⟩ gl) i = nth gl (ix i) from fun i hi => gensL_nth ⟨n, T, tn, rk, tp, ix⟩ gl hi)
  have HGL := Lib.hid (show (gensL ⟨n, T, tn, rk, tp, ix⟩ gl).length = n from gensL_len ⟨n, T, tn, rk, tp, ix⟩ gl)
  have HGM := Lib.hid (show ∀ v ∈ gensL ⟨n, T, tn, rk, tp, ix⟩ gl, 0 ≤ v ∧ v < 9223372036854775808 from hf.gens hc)
  have HGE := Lib.hid (gens_any o rs cs rt ct q)
  clear h hc hf
  go_enter Try.func39, Try.ntmps39
  go_upto_region 1 with fail
  have hn := Blk.new w 27 #[.pointer (some ⟨o, 0, none⟩)]
  obtain ⟨bo, hnb⟩ : ∃ bo, w.heap.size = bo := ⟨_, rfl⟩
  have hlt_o : o < bo := hnb ▸ B0.out.lt
  have hlt_rs : rs < bo := hnb ▸ S0.out.lt
  have hlt_rt : rt < bo := hnb ▸ P0.out.lt
  simp only [hnb] at hn ⊢
  have ORD2 := Lib.hid (show rs ≠ o ∧ rt ≠ o ∧ rs ≠ rt ∧ o < bo ∧ rs < bo ∧ rt < bo from by have o_ := ORD1.out; omega)
  clear ORD1
  have ee : Ex (fun _ => False) w (w.alloc (.cells #[.pointer (some ⟨o, 0, none⟩)] 27)) := (Ex.refl _ w).alloc (.cells #[.pointer (some ⟨o, 0, none⟩)] 27)
  have B3 := Lib.hid (B0.out.ex ee (fun h => h))
  have S3 := Lib.hid (S0.out.ex ee (fun h => h))
  have P3 := Lib.hid (P0.out.ex ee (fun h => h))
  have X3 := Lib.hid (X0.out.trans (ee.mono (fun k hk => hk.elim)))
  have O3 := Lib.hid (hn)
  clear ee B0 S0 P0 X0 hn hnb hlt_o hlt_rs hlt_rt
  generalize w.alloc (.cells #[.pointer (some ⟨o, 0, none⟩)] 27) = w1 at *
  have D1 := Lib.hid (show ∀ W, (Ex (fun k => k = o) w1 W ∧ ∃ vw_ gen_ size_ begun_, Blk W o 101 (pcs rs n cs rt T ct vw_ left round next pk gen_ place size_ how steps begun_)) → W.cell? ⟨bo, 0, none⟩ = some (.pointer (some ⟨o, 0, none⟩)) ∧ W.cell? ⟨o, 0, none⟩ = some (.slice (some ⟨rs, 0, none⟩) n cs) ∧ W.cell? ⟨o, 11, none⟩ = some (.int .i64 steps) from fun W ⟨hx, _, _, _, _, hb⟩ => ⟨(O3.out.ex hx (by have o_ := ORD2.out; omega)).cell 0, hb.cell 0, hb.cell 11⟩)
  obtain ⟨SS, hSS⟩ : ∃ SS : World → Prop, SS = fun W => (Ex (fun k => k = o) w1 W ∧ ∃ vw_ gen_ size_ begun_, Blk W o 101 (pcs rs n cs rt T ct vw_ left round next pk gen_ place size_ how steps begun_)) := ⟨_, rfl⟩
  have HSS := Lib.hid (fun W (h : SS W) => D1.out W (by rw [hSS] at h; exact h))
  have HS2 := Lib.hid (fun W (h1 : Ex (fun k => k = o) w1 W) (h2 : ∃ vw_ gen_ size_ begun_, Blk W o 101 (pcs rs n cs rt T ct vw_ left round next pk gen_ place size_ how steps begun_)) => show SS W by rw [hSS]; exact ⟨h1, h2⟩)
  clear hSS D1
  have XW := Lib.hid (Ex.refl (fun k => k = o) w1)
  have hs0 : SS w1.drew := HS2.out _ (Ex.refl _ w1).drew ⟨_, _, _, _, B3.out.drew⟩
  have hne : Nonempty (Held SS) := ⟨⟨_, hs0⟩⟩
  have p0 : ∀ y : Held SS, y.w.cell? ⟨bo, 0, none⟩ = some (.pointer (some ⟨o, 0, none⟩)) := fun y => (HSS.out _ y.ok).1
  have p1 : ∀ y : Held SS, y.w.cell? ⟨o, 0, none⟩ = some (.slice (some ⟨rs, 0, none⟩) n cs) := fun y => (HSS.out _ y.ok).2.1
  have p2 : ∀ y : Held SS, y.w.cell? ⟨o, 11, none⟩ = some (.int .i64 steps) := fun y => (HSS.out _ y.ok).2.2
  refine drawn_bars (S := SS) [([0, 1, 2, 3, 4, 5, 6, 7, 8, 9], 10), ([11, 12], 13), ([14, 15], 16), ([17, 18], 19)] [] (by kernel_rfl) (by kernel_rfl) (by kernel_rfl) rfl hs0 ?_
  clear hs0
  have ee : Ex (fun _ => False) w1 w1.drew := (Ex.refl _ w1).drew
  have B4 := Lib.hid (B3.out.ex ee (fun h => h))
  have S4 := Lib.hid (S3.out.ex ee (fun h => h))
  have P4 := Lib.hid (P3.out.ex ee (fun h => h))
  have X4 := Lib.hid (X3.out.trans (ee.mono (fun k hk => hk.elim)))
  have O4 := Lib.hid (O3.out.ex ee (fun h => h))
  have W4 := Lib.hid (XW.out.trans (ee.mono (fun k hk => hk.elim)))
  clear ee B3 S3 P3 X3 O3 XW
  generalize w1.drew = w2 at *
  refine Phased.go ?_
  simp only [pick, List.map_cons, List.map_nil, List.getElem?_cons_zero, List.getElem?_cons_succ, Option.getD_some]
  repeat (go_big_quiet_step (fail))
  refine wpQuiet_nil ?_
  have b0 := B4.out.cell 0
  have b9 := B4.out.cell 9
  simp only [pcs, List.getElem?_toArray, List.getElem?_cons_zero, List.getElem?_cons_succ] at b0 b9
  have z9 := B4.out.frozen 9
  go_wp2_with fail
  have bb : Blk (w2.setCell ⟨o, 9, none⟩ (.slice none 0 0)) o 101 (pcs rs n cs rt T ct (.slice none 0 0) left round next pk gen place size how steps begun) := ((B4.out).set_ 9 (.slice none 0 0))
  clear b0 b9 z9
  have ee : Ex (fun k => k = o) w2 (w2.setCell ⟨o, 9, none⟩ (.slice none 0 0)) := ((Ex.refl (fun k => k = o) w2).setCell (q := ⟨o, 9, none⟩) (.inl rfl) (.slice none 0 0))
  have S5 := Lib.hid (S4.out.ex ee (by have o_ := ORD2.out; omega))
  have P5 := Lib.hid (P4.out.ex ee (by have o_ := ORD2.out; omega))
  have X5 := Lib.hid (X4.out.trans (ee.mono (fun k hk => by have hk : k = o := hk; omega)))
  have O5 := Lib.hid (O4.out.ex ee (by have o_ := ORD2.out; omega))
  have W5 := Lib.hid (W4.out.trans (ee.mono (fun k hk => by have hk : k = o := hk; omega)))
  have B5 := Lib.hid (bb)
  clear ee B4 S4 P4 X4 O4 W4 bb
  generalize (w2.setCell ⟨o, 9, none⟩ (.slice none 0 0)) = w3 at *
  refine behind_normal ⟨SS, fun W h => h, HS2.out _ W5.out ⟨_, _, _, _, B5.out⟩, ?_⟩
  refine Phased.go ?_
  simp only [pick, List.map_cons, List.map_nil, List.getElem?_cons_zero, List.getElem?_cons_succ, Option.getD_some]
  repeat (go_big_quiet_step (fail))
  refine wpQuiet_nil ?_
  have b0 := B5.out.cell 0
  have b8 := B5.out.cell 8
  simp only [pcs, List.getElem?_toArray, List.getElem?_cons_zero, List.getElem?_cons_succ] at b0 b8
  have z8 := B5.out.frozen 8
  go_wp2_with fail
  have bb : Blk (w3.setCell ⟨o, 8, none⟩ (.int .i64 0)) o 101 (pcs rs n cs rt T ct (.slice none 0 0) left round next pk gen place 0 how steps begun) := ((B5.out).set_ 8 (.int .i64 0))
  clear b0 b8 z8
  have ee : Ex (fun k => k = o) w3 (w3.setCell ⟨o, 8, none⟩ (.int .i64 0)) := ((Ex.refl (fun k => k = o) w3).setCell (q := ⟨o, 8, none⟩) (.inl rfl) (.int .i64 0))
  have S6 := Lib.hid (S5.out.ex ee (by have o_ := ORD2.out; omega))
  have P6 := Lib.hid (P5.out.ex ee (by have o_ := ORD2.out; omega))
  have X6 := Lib.hid (X5.out.trans (ee.mono (fun k hk => by have hk : k = o := hk; omega)))
  have O6 := Lib.hid (O5.out.ex ee (by have o_ := ORD2.out; omega))
  have W6 := Lib.hid (W5.out.trans (ee.mono (fun k hk => by have hk : k = o := hk; omega)))
  have B6 := Lib.hid (bb)
  clear ee B5 S5 P5 X5 O5 W5 bb
  generalize (w3.setCell ⟨o, 8, none⟩ (.int .i64 0)) = w4 at *
  refine behind_normal ⟨SS, fun W h => h, HS2.out _ W6.out ⟨_, _, _, _, B6.out⟩, ?_⟩
  refine Phased.go ?_
  simp only [pick, List.map_cons, List.map_nil, List.getElem?_cons_zero, List.getElem?_cons_succ, Option.getD_some]
  repeat (go_big_quiet_step (fail))
  refine wpQuiet_nil ?_
  have b0 := B6.out.cell 0
  have b6 := B6.out.cell 6
  simp only [pcs, List.getElem?_toArray, List.getElem?_cons_zero, List.getElem?_cons_succ] at b0 b6
  have z6 := B6.out.frozen 6
  go_wp2_with fail
  have bb : Blk (w4.setCell ⟨o, 6, none⟩ (.int .u64 0)) o 101 (pcs rs n cs rt T ct (.slice none 0 0) left round next pk 0 place 0 how steps begun) := ((B6.out).set_ 6 (.int .u64 0))
  clear b0 b6 z6
  have ee : Ex (fun k => k = o) w4 (w4.setCell ⟨o, 6, none⟩ (.int .u64 0)) := ((Ex.refl (fun k => k = o) w4).setCell (q := ⟨o, 6, none⟩) (.inl rfl) (.int .u64 0))
  have S7 := Lib.hid (S6.out.ex ee (by have o_ := ORD2.out; omega))
  have P7 := Lib.hid (P6.out.ex ee (by have o_ := ORD2.out; omega))
  have X7 := Lib.hid (X6.out.trans (ee.mono (fun k hk => by have hk : k = o := hk; omega)))
  have O7 := Lib.hid (O6.out.ex ee (by have o_ := ORD2.out; omega))
  have W7 := Lib.hid (W6.out.trans (ee.mono (fun k hk => by have hk : k = o := hk; omega)))
  have B7 := Lib.hid (bb)
  clear ee B6 S6 P6 X6 O6 W6 bb
  generalize (w4.setCell ⟨o, 6, none⟩ (.int .u64 0)) = w5 at *
  refine behind_normal ⟨SS, fun W h => h, HS2.out _ W7.out ⟨_, _, _, _, B7.out⟩, ?_⟩
  refine Phased.go ?_
  simp only [pick, List.map_cons, List.map_nil, List.getElem?_cons_zero, List.getElem?_cons_succ, Option.getD_some]
  repeat (go_big_quiet_step (fail))
  refine wpQuiet_nil ?_
  have b0 := B7.out.cell 0
  have b12 := B7.out.cell 12
  simp only [pcs, List.getElem?_toArray, List.getElem?_cons_zero, List.getElem?_cons_succ] at b0 b12
  have z12 := B7.out.frozen 12
  go_wp2_with fail
  have bb : Blk (w5.setCell ⟨o, 12, none⟩ (.int .i64 steps)) o 101 (pcs rs n cs rt T ct (.slice none 0 0) left round next pk 0 place 0 how steps steps) := ((B7.out).set_ 12 (.int .i64 steps))
  clear b0 b12 z12
  have ee : Ex (fun k => k = o) w5 (w5.setCell ⟨o, 12, none⟩ (.int .i64 steps)) := ((Ex.refl (fun k => k = o) w5).setCell (q := ⟨o, 12, none⟩) (.inl rfl) (.int .i64 steps))
  have S8 := Lib.hid (S7.out.ex ee (by have o_ := ORD2.out; omega))
  have P8 := Lib.hid (P7.out.ex ee (by have o_ := ORD2.out; omega))
  have X8 := Lib.hid (X7.out.trans (ee.mono (fun k hk => by have hk : k = o := hk; omega)))
  have O8 := Lib.hid (O7.out.ex ee (by have o_ := ORD2.out; omega))
  have W8 := Lib.hid (W7.out.trans (ee.mono (fun k hk => by have hk : k = o := hk; omega)))
  have B8 := Lib.hid (bb)
  clear ee B7 S7 P7 X7 O7 W7 bb
  generalize (w5.setCell ⟨o, 12, none⟩ (.int .i64 steps)) = w6 at *
  refine behind_normal ⟨SS, fun W h => h, HS2.out _ W8.out ⟨_, _, _, _, B8.out⟩, ?_⟩
  refine Phased.end_ ?_
  simp only [pick, List.map_nil]
  refine wpQuiet_nil ?_
  clear hne p0 p1 p2 HSS HS2 W8
  have o0 := O8.out.cell 0
  simp only [List.getElem?_toArray, List.getElem?_cons_zero] at o0
  go_wp2_with fail
  clear o0
  refine (HGE.out (.slice none 0 0) ⟨n, T, tn, rk, tp, ix⟩ ⟨left, round, next, pk, 0, place, 0, how, steps, steps, [], gl, cu⟩ w6 ⟨B8.out, S8.out, P8.out, OwnR.nil _, Nat.lt_of_lt_of_le QL.out X8.out.size, HA.out, fun k hk => by simp [Value.ownBlock] at hk⟩ HC.out).mono ?_; rintro e w7 ⟨r, rfl, hr, hu, hb7⟩
  simp only at hu ⊢
  obtain ⟨gL, hgL⟩ : ∃ gL, gensL ⟨n, T, tn, rk, tp, ix⟩ gl = gL := ⟨_, rfl⟩
  have HGX := Lib.hid hgL
  rw [hgL] at hu HGL HGN HGM
  clear hgL HGE
  have hlt_o : o < r := Nat.lt_of_lt_of_le B8.out.lt hr
  have hlt_rs : rs < r := Nat.lt_of_lt_of_le S8.out.lt hr
  have hlt_rt : rt < r := Nat.lt_of_lt_of_le P8.out.lt hr
  have hlt_bo : bo < r := Nat.lt_of_lt_of_le O8.out.lt hr
  have ORD9 := Lib.hid (show rs ≠ o ∧ rt ≠ o ∧ rs ≠ rt ∧ o < bo ∧ rs < bo ∧ rt < bo ∧ o < r ∧ rs < r ∧ rt < r ∧ bo < r from by have o_ := ORD2.out; omega)
  clear ORD2
  have ee : Ex (fun _ => False) w6 w7 := Ex.of_below hb7
  have B10 := Lib.hid (B8.out.ex ee (fun h => h))
  have S10 := Lib.hid (S8.out.ex ee (fun h => h))
  have P10 := Lib.hid (P8.out.ex ee (fun h => h))
  have X10 := Lib.hid (X8.out.trans (ee.mono (fun k hk => hk.elim)))
  have O10 := Lib.hid (O8.out.ex ee (fun h => h))
  have U10 := Lib.hid (hu)
  clear ee B8 S8 P8 X8 O8 hb7 hu hr hlt_o hlt_rs hlt_rt hlt_bo
  have o0 := O10.out.cell 0
  simp only [List.getElem?_toArray, List.getElem?_cons_zero] at o0
  have b0 := B10.out.cell 0
  simp only [pcs, List.getElem?_toArray, List.getElem?_cons_zero, List.getElem?_cons_succ] at b0
  go_wp2_with fail
  clear o0 b0
  have hLn := HGL.out
  refine (Pick_any _ n (PC.sub ⟨n, T, tn, rk, tp, ix⟩ cu) _ gL w7 (S10.out.subs (by have := N64.out; unfold maxLen; omega) (fun i hi => ⟨HC.out.rk i hi, (HCU.out i hi).2⟩)) (by have h9 := U10.out.ints (c := n) (by rw [hLn]; have := N64.out; unfold maxLen; omega); rw [hLn] at h9; exact h9) (fun v hv => by have := HGM.out v hv; omega)).mono ?_; rintro e w8 ⟨z, er, rfl, hpk, hb8⟩
  clear hLn
  have HPZ := Lib.hid (show z = pickF ⟨n, T, tn, rk, tp, ix⟩ ⟨left, round, next, pk, gen, place, size, how, steps, begun, words, gl, cu⟩ ∧ er = 0 from by
    rcases hpk with ⟨h1, _⟩ | ⟨_, ⟨i, hi, hr⟩, _⟩ | ⟨_, _, ⟨i, hi, hg⟩, _⟩ | ⟨_, _, _, h1, h2⟩
    · exact absurd HGL.out.symm h1
    · exact absurd (HCU.out i hi).1 hr
    · exact absurd (show nth gL i < 9223372036854775808 by rw [HGN.out i hi]; exact (HGV.out i hi).2) hg
    · exact ⟨by rw [h1]; unfold pickF; rw [HGX.out], h2⟩)
  have HZL := Lib.hid (show -1 ≤ z ∧ z < n from by rw [HPZ.out.1]; unfold pickF; exact best_lt _ _ _)
  have her := HPZ.out.2
  subst her
  clear hpk
  have ee : Ex (fun _ => False) w7 w8 := Ex.of_below hb8
  have B11 := Lib.hid (B10.out.ex ee (fun h => h))
  have S11 := Lib.hid (S10.out.ex ee (fun h => h))
  have P11 := Lib.hid (P10.out.ex ee (fun h => h))
  have X11 := Lib.hid (X10.out.trans (ee.mono (fun k hk => hk.elim)))
  have O11 := Lib.hid (O10.out.ex ee (fun h => h))
  have U11 := Lib.hid (U10.out.ex ee (fun h => h))
  clear ee B10 S10 P10 X10 O10 U10 hb8
  go_upto_region 4 with fail
  have hn := Blk.new w8 3 #[.int .i64 z]
  obtain ⟨bz, hnb⟩ : ∃ bz, w8.heap.size = bz := ⟨_, rfl⟩
  have hlt_o : o < bz := hnb ▸ B11.out.lt
  have hlt_rs : rs < bz := hnb ▸ S11.out.lt
  have hlt_rt : rt < bz := hnb ▸ P11.out.lt
  have hlt_bo : bo < bz := hnb ▸ O11.out.lt
  have hlt_r : r < bz := hnb ▸ U11.out.lt
  simp only [hnb] at hn ⊢
  have ORD12 := Lib.hid (show rs ≠ o ∧ rt ≠ o ∧ rs ≠ rt ∧ o < bo ∧ rs < bo ∧ rt < bo ∧ o < r ∧ rs < r ∧ rt < r ∧ bo < r ∧ o < bz ∧ rs < bz ∧ rt < bz ∧ bo < bz ∧ r < bz from by have o_ := ORD9.out; omega)
  clear ORD9
  have ee : Ex (fun _ => False) w8 (w8.alloc (.cells #[.int .i64 z] 3)) := (Ex.refl _ w8).alloc (.cells #[.int .i64 z] 3)
  have B13 := Lib.hid (B11.out.ex ee (fun h => h))
  have S13 := Lib.hid (S11.out.ex ee (fun h => h))
  have P13 := Lib.hid (P11.out.ex ee (fun h => h))
  have X13 := Lib.hid (X11.out.trans (ee.mono (fun k hk => hk.elim)))
  have O13 := Lib.hid (O11.out.ex ee (fun h => h))
  have U13 := Lib.hid (U11.out.ex ee (fun h => h))
  have Z13 := Lib.hid (hn)
  clear ee B11 S11 P11 X11 O11 U11 hn hnb hlt_o hlt_rs hlt_rt hlt_bo hlt_r
  generalize w8.alloc (.cells #[.int .i64 z] 3) = w9 at *
  have ke : ((0 : Int) != 0) = false := rfl
  by_cases hz : z < 0
  · have kz : decide (z < 0) = true := decide_eq_true hz
    have kp := HPZ.out.1
    have hch : chooseP ⟨n, T, tn, rk, tp, ix⟩ ⟨left, round, next, pk, gen, place, size, how, steps, begun, words, gl, cu⟩ = ⟨left, round, next, -1, 0, place, 0, how, steps, steps, [], gl, cu⟩ := by unfold chooseP; rw [← kp, if_pos hz]
    have HCH := Lib.hid hch
    clear hz hch kp
    have o0 := O13.out.cell 0
    have k0 := Z13.out.cell 0
    simp only [List.getElem?_toArray, List.getElem?_cons_zero] at o0 k0
    have b0 := B13.out.cell 0
    have b5 := B13.out.cell 5
    simp only [pcs, List.getElem?_toArray, List.getElem?_cons_zero, List.getElem?_cons_succ] at b0 b5
    have z5 := B13.out.frozen 5
    go_wp2_with fail
    have bb : Blk (w9.setCell ⟨o, 5, none⟩ (.int .i64 (-1))) o 101 (pcs rs n cs rt T ct (.slice none 0 0) left round next (-1) 0 place 0 how steps steps) := ((B13.out).set_ 5 (.int .i64 (-1)))
    clear ke kz o0 k0 b0 b5 z5
    have ee : Ex (fun k => k = o) w9 (w9.setCell ⟨o, 5, none⟩ (.int .i64 (-1))) := ((Ex.refl (fun k => k = o) w9).setCell (q := ⟨o, 5, none⟩) (.inl rfl) (.int .i64 (-1)))
    have S14 := Lib.hid (S13.out.ex ee (by have o_ := ORD12.out; omega))
    have P14 := Lib.hid (P13.out.ex ee (by have o_ := ORD12.out; omega))
    have X14 := Lib.hid (X13.out.trans (ee.mono (fun k hk => by have hk : k = o := hk; omega)))
    have O14 := Lib.hid (O13.out.ex ee (by have o_ := ORD12.out; omega))
    have U14 := Lib.hid (U13.out.ex ee (by have o_ := ORD12.out; omega))
    have Z14 := Lib.hid (Z13.out.ex ee (by have o_ := ORD12.out; omega))
    have B14 := Lib.hid (bb)
    clear ee B13 S13 P13 X13 O13 U13 Z13 bb
    generalize (w9.setCell ⟨o, 5, none⟩ (.int .i64 (-1))) = wz at *
    first | (refine bodyPost_ret (results_none rfl _ _ _) rfl ?_) | go_end0
    rw [HCH.out]
    exact ⟨rfl, ⟨B14.out, S14.out, P14.out, OwnR.nil _, Nat.lt_of_lt_of_le QL.out X14.out.size, HA.out, fun k hk => by simp [Value.ownBlock] at hk⟩, X14.out⟩
  · have kz : decide (z < 0) = false := decide_eq_false hz
    obtain ⟨k, hk⟩ : ∃ k : Nat, z = (k : Int) := ⟨z.toNat, by omega⟩
    have hkn : k < n := by have := HZL.out; omega
    have KN := Lib.hid hkn
    have kp := HPZ.out.1
    have hch : chooseP ⟨n, T, tn, rk, tp, ix⟩ ⟨left, round, next, pk, gen, place, size, how, steps, begun, words, gl, cu⟩ = ⟨left, round, next, (k : Int), genF ⟨n, T, tn, rk, tp, ix⟩ ⟨left, round, next, pk, gen, place, size, how, steps, begun, words, gl, cu⟩ k, atF (tp (ix k)).spot (genF ⟨n, T, tn, rk, tp, ix⟩ ⟨left, round, next, pk, gen, place, size, how, steps, begun, words, gl, cu⟩ k), (tp (ix k)).spot.words, how, steps, steps, [], gl, cu⟩ := by
      unfold chooseP
      rw [← kp, if_neg hz, hk, Int.toNat_natCast]
    have hgF : genF ⟨n, T, tn, rk, tp, ix⟩ ⟨left, round, next, pk, gen, place, size, how, steps, begun, words, gl, cu⟩ k = takeX (cu k) (nth gL k) := by rw [HGN.out k hkn]; rfl
    rw [hgF] at hch
    have HCH := Lib.hid hch
    clear hz hch kp hgF hkn
    have HKK := Lib.hid hk
    subst hk
    have HZN := Lib.hid (show (0 : Int) ≤ (k : Int) ∧ (k : Int) < (n : Int) from by have := KN.out; omega)
    have HGK := Lib.hid (show 0 ≤ nth gL k ∧ nth gL k < 9223372036854775808 from by rw [HGN.out k KN.out]; exact HGV.out k KN.out)
    have HIX := Lib.hid (show ix k < T from (HC.out.ix k KN.out).1)
    have HAT := Lib.hid (show (tp (ix k)).spot.AtOk from HC.out.atOk (ix k) HIX.out)
    have HTX := Lib.hid (takeX_range (HCU.out k KN.out).2 HGK.out)
    have HTK := Lib.hid (fun W => Take_any (cu k) (nth gL k) (HCU.out k KN.out).2 ⟨HGK.out.1, by have := HGK.out; omega⟩ W)
    have HXN := Lib.hid (HC.out.ix k KN.out).2
    have o0 := O13.out.cell 0
    have k0 := Z13.out.cell 0
    simp only [List.getElem?_toArray, List.getElem?_cons_zero] at o0 k0
    have b0 := B13.out.cell 0
    have b5 := B13.out.cell 5
    simp only [pcs, List.getElem?_toArray, List.getElem?_cons_zero, List.getElem?_cons_succ] at b0 b5
    have z5 := B13.out.frozen 5
    go_upto_region 7 with fail
    have bb : Blk (w9.setCell ⟨o, 5, none⟩ (.int .i64 (k : Int))) o 101 (pcs rs n cs rt T ct (.slice none 0 0) left round next (k : Int) 0 place 0 how steps steps) := ((B13.out).set_ 5 (.int .i64 (k : Int)))
    clear ke kz o0 k0 b0 b5 z5
    have ee : Ex (fun k => k = o) w9 (w9.setCell ⟨o, 5, none⟩ (.int .i64 (k : Int))) := ((Ex.refl (fun k => k = o) w9).setCell (q := ⟨o, 5, none⟩) (.inl rfl) (.int .i64 (k : Int)))
    have S14 := Lib.hid (S13.out.ex ee (by have o_ := ORD12.out; omega))
    have P14 := Lib.hid (P13.out.ex ee (by have o_ := ORD12.out; omega))
    have X14 := Lib.hid (X13.out.trans (ee.mono (fun k hk => by have hk : k = o := hk; omega)))
    have O14 := Lib.hid (O13.out.ex ee (by have o_ := ORD12.out; omega))
    have U14 := Lib.hid (U13.out.ex ee (by have o_ := ORD12.out; omega))
    have Z14 := Lib.hid (Z13.out.ex ee (by have o_ := ORD12.out; omega))
    have B14 := Lib.hid (bb)
    clear ee B13 S13 P13 X13 O13 U13 Z13 bb
    generalize (w9.setCell ⟨o, 5, none⟩ (.int .i64 (k : Int))) = w10 at *
    have zi0 := HZN.out.1
    have zi1 := HZN.out.2
    have D1 := Lib.hid (show ∀ W, (Ex (fun k => k = o) w10 W ∧ ∃ gen_, Blk W o 101 (pcs rs n cs rt T ct (.slice none 0 0) left round next (k : Int) gen_ place 0 how steps steps)) → W.cell? ⟨bo, 0, none⟩ = some (.pointer (some ⟨o, 0, none⟩)) ∧ W.cell? ⟨o, 0, none⟩ = some (.slice (some ⟨rs, 0, none⟩) n cs) ∧ W.cell? ⟨bz, 0, none⟩ = some (.int .i64 (k : Int)) ∧ W.cell? ⟨r, k, none⟩ = some (.int .u64 (nth gL k)) ∧ W.cell? ⟨rs, k * 6 + 2, none⟩ = some (.int .u64 (cu k).next) ∧ W.cell? ⟨rs, k * 6 + 3, none⟩ = some (.int .i64 (cu k).cap) ∧ W.cell? ⟨rs, k * 6 + 4, none⟩ = some (.int .u64 (cu k).got) ∧ W.cell? ⟨rs, k * 6 + 5, none⟩ = some (.int .u64 (cu k).lost) from fun W ⟨hx, _, hb⟩ => ⟨(O14.out.ex hx (by have o_ := ORD12.out; omega)).cell 0, hb.cell 0, (Z14.out.ex hx (by have o_ := ORD12.out; omega)).cell 0, (U14.out.ex hx (by have o_ := ORD12.out; omega)).word (by rw [HGL.out]; exact KN.out), (S14.out.ex hx (by have o_ := ORD12.out; omega)).cells k KN.out 2 (by decide), (S14.out.ex hx (by have o_ := ORD12.out; omega)).cells k KN.out 3 (by decide), (S14.out.ex hx (by have o_ := ORD12.out; omega)).cells k KN.out 4 (by decide), (S14.out.ex hx (by have o_ := ORD12.out; omega)).cells k KN.out 5 (by decide)⟩)
    obtain ⟨SS, hSS⟩ : ∃ SS : World → Prop, SS = fun W => (Ex (fun k => k = o) w10 W ∧ ∃ gen_, Blk W o 101 (pcs rs n cs rt T ct (.slice none 0 0) left round next (k : Int) gen_ place 0 how steps steps)) := ⟨_, rfl⟩
    have HSS := Lib.hid (fun W (h : SS W) => D1.out W (by rw [hSS] at h; exact h))
    have HS2 := Lib.hid (fun W (h1 : Ex (fun k => k = o) w10 W) (h2 : ∃ gen_, Blk W o 101 (pcs rs n cs rt T ct (.slice none 0 0) left round next (k : Int) gen_ place 0 how steps steps)) => show SS W by rw [hSS]; exact ⟨h1, h2⟩)
    clear hSS D1
    have XW := Lib.hid (Ex.refl (fun k => k = o) w10)
    have hs0 : SS w10.drew := HS2.out _ (Ex.refl _ w10).drew ⟨_, B14.out.drew⟩
    have hne : Nonempty (Held SS) := ⟨⟨_, hs0⟩⟩
    have p0 : ∀ y : Held SS, y.w.cell? ⟨bo, 0, none⟩ = some (.pointer (some ⟨o, 0, none⟩)) := fun y => (HSS.out _ y.ok).1
    have p1 : ∀ y : Held SS, y.w.cell? ⟨o, 0, none⟩ = some (.slice (some ⟨rs, 0, none⟩) n cs) := fun y => (HSS.out _ y.ok).2.1
    have p2 : ∀ y : Held SS, y.w.cell? ⟨bz, 0, none⟩ = some (.int .i64 (k : Int)) := fun y => (HSS.out _ y.ok).2.2.1
    have p3 : ∀ y : Held SS, y.w.cell? ⟨r, k, none⟩ = some (.int .u64 (nth gL k)) := fun y => (HSS.out _ y.ok).2.2.2.1
    have p4 : ∀ y : Held SS, y.w.cell? ⟨rs, k * 6 + 2, none⟩ = some (.int .u64 (cu k).next) := fun y => (HSS.out _ y.ok).2.2.2.2.1
    have p5 : ∀ y : Held SS, y.w.cell? ⟨rs, k * 6 + 3, none⟩ = some (.int .i64 (cu k).cap) := fun y => (HSS.out _ y.ok).2.2.2.2.2.1
    have p6 : ∀ y : Held SS, y.w.cell? ⟨rs, k * 6 + 4, none⟩ = some (.int .u64 (cu k).got) := fun y => (HSS.out _ y.ok).2.2.2.2.2.2.1
    have p7 : ∀ y : Held SS, y.w.cell? ⟨rs, k * 6 + 5, none⟩ = some (.int .u64 (cu k).lost) := fun y => (HSS.out _ y.ok).2.2.2.2.2.2.2
    refine drawn_bars (S := SS) [([0, 1, 2, 3, 4, 5, 6, 7, 8, 9, 10, 11, 12], 13), ([14, 15, 16, 17, 18, 19], 20)] [] (by kernel_rfl) (by kernel_rfl) (by kernel_rfl) rfl hs0 ?_
    clear hs0
    have ee : Ex (fun _ => False) w10 w10.drew := (Ex.refl _ w10).drew
    have B15 := Lib.hid (B14.out.ex ee (fun h => h))
    have S15 := Lib.hid (S14.out.ex ee (fun h => h))
    have P15 := Lib.hid (P14.out.ex ee (fun h => h))
    have X15 := Lib.hid (X14.out.trans (ee.mono (fun k hk => hk.elim)))
    have O15 := Lib.hid (O14.out.ex ee (fun h => h))
    have U15 := Lib.hid (U14.out.ex ee (fun h => h))
    have Z15 := Lib.hid (Z14.out.ex ee (fun h => h))
    have W15 := Lib.hid (XW.out.trans (ee.mono (fun k hk => hk.elim)))
    clear ee B14 S14 P14 X14 O14 U14 Z14 XW
    generalize w10.drew = w10a at *
    refine Phased.go ?_
    simp only [pick, List.map_cons, List.map_nil, List.getElem?_cons_zero, List.getElem?_cons_succ, Option.getD_some]
    repeat (go_big_quiet_step (fail))
    refine wpQuiet_nil ?_
    go_wp2_with fail
    refine (HTK.out _).mono ?_; rintro e w11 ⟨rfl, hb11⟩
    have ee : Ex (fun _ => False) w10a w11 := Ex.of_below hb11
    have B16 := Lib.hid (B15.out.ex ee (fun h => h))
    have S16 := Lib.hid (S15.out.ex ee (fun h => h))
    have P16 := Lib.hid (P15.out.ex ee (fun h => h))
    have X16 := Lib.hid (X15.out.trans (ee.mono (fun k hk => hk.elim)))
    have O16 := Lib.hid (O15.out.ex ee (fun h => h))
    have U16 := Lib.hid (U15.out.ex ee (fun h => h))
    have Z16 := Lib.hid (Z15.out.ex ee (fun h => h))
    have W16 := Lib.hid (W15.out.trans (ee.mono (fun k hk => hk.elim)))
    clear ee B15 S15 P15 X15 O15 U15 Z15 W15 hb11
    go_wp2_with fail
    refine behind_normal ⟨SS, fun W h => h, HS2.out _ W16.out ⟨_, B16.out⟩, ?_⟩
    refine Phased.go ?_
    simp only [pick, List.map_cons, List.map_nil, List.getElem?_cons_zero, List.getElem?_cons_succ, Option.getD_some]
    repeat (go_big_quiet_step (fail))
    refine wpQuiet_nil ?_
    have b0 := B16.out.cell 0
    have b6 := B16.out.cell 6
    simp only [pcs, List.getElem?_toArray, List.getElem?_cons_zero, List.getElem?_cons_succ] at b0 b6
    have z6 := B16.out.frozen 6
    go_wp2_with fail
    have bb : Blk (w11.setCell ⟨o, 6, none⟩ (.int .u64 (takeX (cu k) (nth gL k)))) o 101 (pcs rs n cs rt T ct (.slice none 0 0) left round next (k : Int) (takeX (cu k) (nth gL k)) place 0 how steps steps) := ((B16.out).set_ 6 (.int .u64 (takeX (cu k) (nth gL k))))
    clear b0 b6 z6
    have ee : Ex (fun k => k = o) w11 (w11.setCell ⟨o, 6, none⟩ (.int .u64 (takeX (cu k) (nth gL k)))) := ((Ex.refl (fun k => k = o) w11).setCell (q := ⟨o, 6, none⟩) (.inl rfl) (.int .u64 (takeX (cu k) (nth gL k))))
    have S17 := Lib.hid (S16.out.ex ee (by have o_ := ORD12.out; omega))
    have P17 := Lib.hid (P16.out.ex ee (by have o_ := ORD12.out; omega))
    have X17 := Lib.hid (X16.out.trans (ee.mono (fun k hk => by have hk : k = o := hk; omega)))
    have O17 := Lib.hid (O16.out.ex ee (by have o_ := ORD12.out; omega))
    have U17 := Lib.hid (U16.out.ex ee (by have o_ := ORD12.out; omega))
    have Z17 := Lib.hid (Z16.out.ex ee (by have o_ := ORD12.out; omega))
    have W17 := Lib.hid (W16.out.trans (ee.mono (fun k hk => by have hk : k = o := hk; omega)))
    have B17 := Lib.hid (bb)
    clear ee B16 S16 P16 X16 O16 U16 Z16 W16 bb
    generalize (w11.setCell ⟨o, 6, none⟩ (.int .u64 (takeX (cu k) (nth gL k)))) = w12 at *
    refine behind_normal ⟨SS, fun W h => h, HS2.out _ W17.out ⟨_, B17.out⟩, ?_⟩
    refine Phased.end_ ?_
    simp only [pick, List.map_nil]
    refine wpQuiet_nil ?_
    clear hne p0 p1 p2 p3 p4 p5 p6 p7 HSS HS2 W17
    have o0 := O17.out.cell 0
    have k0 := Z17.out.cell 0
    simp only [List.getElem?_toArray, List.getElem?_cons_zero] at o0 k0
    have b0 := B17.out.cell 0
    have b1 := B17.out.cell 1
    simp only [pcs, List.getElem?_toArray, List.getElem?_cons_zero, List.getElem?_cons_succ] at b0 b1
    go_wp2_with fail
    clear o0 k0 b0 b1
    refine (cho1_index _ T tp gl (tn k) bo bz w12 (P17.out.tps T64.out) (fun j hj W hW => cho1_any (tp j) (nth gl j) bo bz o rs n cs k (PC.sub ⟨n, T, tn, rk, tp, ix⟩ cu) W ((O17.out.bl hW).cell 0) ((Z17.out.bl hW).cell 0) ((B17.out.bl hW).cell 0) (S17.out.bl hW) KN.out)).mono ?_; rintro e w13 ⟨zz, rfl, hzx, hb13⟩
    have hzz := hzx.at_ HIX.out HXN.out HC.out.inj
    subst hzz
    clear hzx
    have ee : Ex (fun _ => False) w12 w13 := Ex.of_below hb13
    have B18 := Lib.hid (B17.out.ex ee (fun h => h))
    have S18 := Lib.hid (S17.out.ex ee (fun h => h))
    have P18 := Lib.hid (P17.out.ex ee (fun h => h))
    have X18 := Lib.hid (X17.out.trans (ee.mono (fun k hk => hk.elim)))
    have O18 := Lib.hid (O17.out.ex ee (fun h => h))
    have U18 := Lib.hid (U17.out.ex ee (fun h => h))
    have Z18 := Lib.hid (Z17.out.ex ee (fun h => h))
    clear ee B17 S17 P17 X17 O17 U17 Z17 hb13
    go_upto_region 9 with fail
    have zx0 : (0 : Int) ≤ ((ix k : Nat) : Int) := by omega
    have zx1 : ((ix k : Nat) : Int) < (T : Int) := by have := HIX.out; omega
    have D1 := Lib.hid (show ∀ W, (Ex (fun k => k = o) w13 W ∧ ∃ place_ size_, Blk W o 101 (pcs rs n cs rt T ct (.slice none 0 0) left round next (k : Int) (takeX (cu k) (nth gL k)) place_ size_ how steps steps)) → W.cell? ⟨bo, 0, none⟩ = some (.pointer (some ⟨o, 0, none⟩)) ∧ W.cell? ⟨o, 0, none⟩ = some (.slice (some ⟨rs, 0, none⟩) n cs) ∧ W.cell? ⟨o, 1, none⟩ = some (.slice (some ⟨rt, 0, none⟩) T ct) ∧ W.cell? ⟨o, 6, none⟩ = some (.int .u64 (takeX (cu k) (nth gL k))) ∧ W.cell? ⟨rt, ix k * 7 + 1, none⟩ = some (.int .i64 (tp (ix k)).spot.owners) ∧ W.cell? ⟨rt, ix k * 7 + 2, none⟩ = some (.int .i64 (tp (ix k)).spot.seq) ∧ W.cell? ⟨rt, ix k * 7 + 3, none⟩ = some (.int .i64 (tp (ix k)).spot.first) ∧ W.cell? ⟨rt, ix k * 7 + 4, none⟩ = some (.int .i64 (tp (ix k)).spot.words) ∧ W.cell? ⟨rt, ix k * 7 + 5, none⟩ = some (.int .i64 (tp (ix k)).spot.depth) from fun W ⟨hx, _, _, hb⟩ => ⟨(O18.out.ex hx (by have o_ := ORD12.out; omega)).cell 0, hb.cell 0, hb.cell 1, hb.cell 6, (P18.out.ex hx (by have o_ := ORD12.out; omega)).cells (ix k) HIX.out 1 (by decide), (P18.out.ex hx (by have o_ := ORD12.out; omega)).cells (ix k) HIX.out 2 (by decide), (P18.out.ex hx (by have o_ := ORD12.out; omega)).cells (ix k) HIX.out 3 (by decide), (P18.out.ex hx (by have o_ := ORD12.out; omega)).cells (ix k) HIX.out 4 (by decide), (P18.out.ex hx (by have o_ := ORD12.out; omega)).cells (ix k) HIX.out 5 (by decide)⟩)
    obtain ⟨SS, hSS⟩ : ∃ SS : World → Prop, SS = fun W => (Ex (fun k => k = o) w13 W ∧ ∃ place_ size_, Blk W o 101 (pcs rs n cs rt T ct (.slice none 0 0) left round next (k : Int) (takeX (cu k) (nth gL k)) place_ size_ how steps steps)) := ⟨_, rfl⟩
    have HSS := Lib.hid (fun W (h : SS W) => D1.out W (by rw [hSS] at h; exact h))
    have HS2 := Lib.hid (fun W (h1 : Ex (fun k => k = o) w13 W) (h2 : ∃ place_ size_, Blk W o 101 (pcs rs n cs rt T ct (.slice none 0 0) left round next (k : Int) (takeX (cu k) (nth gL k)) place_ size_ how steps steps)) => show SS W by rw [hSS]; exact ⟨h1, h2⟩)
    clear hSS D1
    have XW := Lib.hid (Ex.refl (fun k => k = o) w13)
    have hs0 : SS w13.drew := HS2.out _ (Ex.refl _ w13).drew ⟨_, _, B18.out.drew⟩
    have hne : Nonempty (Held SS) := ⟨⟨_, hs0⟩⟩
    have p0 : ∀ y : Held SS, y.w.cell? ⟨bo, 0, none⟩ = some (.pointer (some ⟨o, 0, none⟩)) := fun y => (HSS.out _ y.ok).1
    have p1 : ∀ y : Held SS, y.w.cell? ⟨o, 0, none⟩ = some (.slice (some ⟨rs, 0, none⟩) n cs) := fun y => (HSS.out _ y.ok).2.1
    have p2 : ∀ y : Held SS, y.w.cell? ⟨o, 1, none⟩ = some (.slice (some ⟨rt, 0, none⟩) T ct) := fun y => (HSS.out _ y.ok).2.2.1
    have p3 : ∀ y : Held SS, y.w.cell? ⟨o, 6, none⟩ = some (.int .u64 (takeX (cu k) (nth gL k))) := fun y => (HSS.out _ y.ok).2.2.2.1
    have p4 : ∀ y : Held SS, y.w.cell? ⟨rt, ix k * 7 + 1, none⟩ = some (.int .i64 (tp (ix k)).spot.owners) := fun y => (HSS.out _ y.ok).2.2.2.2.1
    have p5 : ∀ y : Held SS, y.w.cell? ⟨rt, ix k * 7 + 2, none⟩ = some (.int .i64 (tp (ix k)).spot.seq) := fun y => (HSS.out _ y.ok).2.2.2.2.2.1
    have p6 : ∀ y : Held SS, y.w.cell? ⟨rt, ix k * 7 + 3, none⟩ = some (.int .i64 (tp (ix k)).spot.first) := fun y => (HSS.out _ y.ok).2.2.2.2.2.2.1
    have p7 : ∀ y : Held SS, y.w.cell? ⟨rt, ix k * 7 + 4, none⟩ = some (.int .i64 (tp (ix k)).spot.words) := fun y => (HSS.out _ y.ok).2.2.2.2.2.2.2.1
    have p8 : ∀ y : Held SS, y.w.cell? ⟨rt, ix k * 7 + 5, none⟩ = some (.int .i64 (tp (ix k)).spot.depth) := fun y => (HSS.out _ y.ok).2.2.2.2.2.2.2.2
    have HAY := Lib.hid (fun W => At_any (tp (ix k)).spot (takeX (cu k) (nth gL k)) W HTX.out HAT.out)
    unfold Spot.val at HAY
    refine drawn_bars (S := SS) [([0, 1, 2, 3, 4, 5, 6, 7, 8, 9, 10, 11, 12, 13, 15, 16, 17, 18, 19, 20, 21, 22, 23], 14), ([24, 25], 26), ([27, 28], 29)] [] (by kernel_rfl) (by kernel_rfl) (by kernel_rfl) rfl hs0 ?_
    clear hs0
    have ee : Ex (fun _ => False) w13 w13.drew := (Ex.refl _ w13).drew
    have B19 := Lib.hid (B18.out.ex ee (fun h => h))
    have S19 := Lib.hid (S18.out.ex ee (fun h => h))
    have P19 := Lib.hid (P18.out.ex ee (fun h => h))
    have X19 := Lib.hid (X18.out.trans (ee.mono (fun k hk => hk.elim)))
    have O19 := Lib.hid (O18.out.ex ee (fun h => h))
    have U19 := Lib.hid (U18.out.ex ee (fun h => h))
    have Z19 := Lib.hid (Z18.out.ex ee (fun h => h))
    have W19 := Lib.hid (XW.out.trans (ee.mono (fun k hk => hk.elim)))
    clear ee B18 S18 P18 X18 O18 U18 Z18 XW
    generalize w13.drew = w13a at *
    refine Phased.go ?_
    simp only [pick, List.map_cons, List.map_nil, List.getElem?_cons_zero, List.getElem?_cons_succ, Option.getD_some]
    repeat (go_big_quiet_step (fail))
    refine wpQuiet_nil ?_
    go_wp2_with fail
    refine (HAY.out _).mono ?_; rintro e w14 ⟨rfl, hb14⟩
    have ee : Ex (fun _ => False) w13a w14 := Ex.of_below hb14
    have B20 := Lib.hid (B19.out.ex ee (fun h => h))
    have S20 := Lib.hid (S19.out.ex ee (fun h => h))
    have P20 := Lib.hid (P19.out.ex ee (fun h => h))
    have X20 := Lib.hid (X19.out.trans (ee.mono (fun k hk => hk.elim)))
    have O20 := Lib.hid (O19.out.ex ee (fun h => h))
    have U20 := Lib.hid (U19.out.ex ee (fun h => h))
    have Z20 := Lib.hid (Z19.out.ex ee (fun h => h))
    have W20 := Lib.hid (W19.out.trans (ee.mono (fun k hk => hk.elim)))
    clear ee B19 S19 P19 X19 O19 U19 Z19 W19 hb14
    go_wp2_with fail
    refine behind_normal ⟨SS, fun W h => h, HS2.out _ W20.out ⟨_, _, B20.out⟩, ?_⟩
    refine Phased.go ?_
    simp only [pick, List.map_cons, List.map_nil, List.getElem?_cons_zero, List.getElem?_cons_succ, Option.getD_some]
    repeat (go_big_quiet_step (fail))
    refine wpQuiet_nil ?_
    have b0 := B20.out.cell 0
    have b7 := B20.out.cell 7
    simp only [pcs, List.getElem?_toArray, List.getElem?_cons_zero, List.getElem?_cons_succ] at b0 b7
    have z7 := B20.out.frozen 7
    go_wp2_with fail
    have bb : Blk (w14.setCell ⟨o, 7, none⟩ (.int .i64 (atF (tp (ix k)).spot (takeX (cu k) (nth gL k))))) o 101 (pcs rs n cs rt T ct (.slice none 0 0) left round next (k : Int) (takeX (cu k) (nth gL k)) (atF (tp (ix k)).spot (takeX (cu k) (nth gL k))) 0 how steps steps) := ((B20.out).set_ 7 (.int .i64 (atF (tp (ix k)).spot (takeX (cu k) (nth gL k)))))
    clear b0 b7 z7
    have ee : Ex (fun k => k = o) w14 (w14.setCell ⟨o, 7, none⟩ (.int .i64 (atF (tp (ix k)).spot (takeX (cu k) (nth gL k))))) := ((Ex.refl (fun k => k = o) w14).setCell (q := ⟨o, 7, none⟩) (.inl rfl) (.int .i64 (atF (tp (ix k)).spot (takeX (cu k) (nth gL k)))))
    have S21 := Lib.hid (S20.out.ex ee (by have o_ := ORD12.out; omega))
    have P21 := Lib.hid (P20.out.ex ee (by have o_ := ORD12.out; omega))
    have X21 := Lib.hid (X20.out.trans (ee.mono (fun k hk => by have hk : k = o := hk; omega)))
    have O21 := Lib.hid (O20.out.ex ee (by have o_ := ORD12.out; omega))
    have U21 := Lib.hid (U20.out.ex ee (by have o_ := ORD12.out; omega))
    have Z21 := Lib.hid (Z20.out.ex ee (by have o_ := ORD12.out; omega))
    have W21 := Lib.hid (W20.out.trans (ee.mono (fun k hk => by have hk : k = o := hk; omega)))
    have B21 := Lib.hid (bb)
    clear ee B20 S20 P20 X20 O20 U20 Z20 W20 bb
    generalize (w14.setCell ⟨o, 7, none⟩ (.int .i64 (atF (tp (ix k)).spot (takeX (cu k) (nth gL k))))) = w15 at *
    refine behind_normal ⟨SS, fun W h => h, HS2.out _ W21.out ⟨_, _, B21.out⟩, ?_⟩
    refine Phased.go ?_
    simp only [pick, List.map_cons, List.map_nil, List.getElem?_cons_zero, List.getElem?_cons_succ, Option.getD_some]
    repeat (go_big_quiet_step (fail))
    refine wpQuiet_nil ?_
    have b0 := B21.out.cell 0
    have b8 := B21.out.cell 8
    simp only [pcs, List.getElem?_toArray, List.getElem?_cons_zero, List.getElem?_cons_succ] at b0 b8
    have z8 := B21.out.frozen 8
    go_wp2_with fail
    have bb : Blk (w15.setCell ⟨o, 8, none⟩ (.int .i64 ((tp (ix k)).spot.words))) o 101 (pcs rs n cs rt T ct (.slice none 0 0) left round next (k : Int) (takeX (cu k) (nth gL k)) (atF (tp (ix k)).spot (takeX (cu k) (nth gL k))) ((tp (ix k)).spot.words) how steps steps) := ((B21.out).set_ 8 (.int .i64 ((tp (ix k)).spot.words)))
    clear b0 b8 z8
    have ee : Ex (fun k => k = o) w15 (w15.setCell ⟨o, 8, none⟩ (.int .i64 ((tp (ix k)).spot.words))) := ((Ex.refl (fun k => k = o) w15).setCell (q := ⟨o, 8, none⟩) (.inl rfl) (.int .i64 ((tp (ix k)).spot.words)))
    have S22 := Lib.hid (S21.out.ex ee (by have o_ := ORD12.out; omega))
    have P22 := Lib.hid (P21.out.ex ee (by have o_ := ORD12.out; omega))
    have X22 := Lib.hid (X21.out.trans (ee.mono (fun k hk => by have hk : k = o := hk; omega)))
    have O22 := Lib.hid (O21.out.ex ee (by have o_ := ORD12.out; omega))
    have U22 := Lib.hid (U21.out.ex ee (by have o_ := ORD12.out; omega))
    have Z22 := Lib.hid (Z21.out.ex ee (by have o_ := ORD12.out; omega))
    have W22 := Lib.hid (W21.out.trans (ee.mono (fun k hk => by have hk : k = o := hk; omega)))
    have B22 := Lib.hid (bb)
    clear ee B21 S21 P21 X21 O21 U21 Z21 W21 bb
    generalize (w15.setCell ⟨o, 8, none⟩ (.int .i64 ((tp (ix k)).spot.words))) = w16 at *
    refine behind_normal ⟨SS, fun W h => h, HS2.out _ W22.out ⟨_, _, B22.out⟩, ?_⟩
    refine Phased.end_ ?_
    simp only [pick, List.map_nil]
    refine wpQuiet_nil ?_
    clear hne p0 p1 p2 p3 p4 p5 p6 p7 p8 HSS HS2 W22
    try go_wp2_with fail
    first | (refine bodyPost_ret (results_none rfl _ _ _) rfl ?_) | go_end0
    rw [HCH.out]
    exact ⟨rfl, ⟨B22.out, S22.out, P22.out, OwnR.nil _, Nat.lt_of_lt_of_le QL.out X22.out.size, HA.out, fun k hk => by simp [Value.ownBlock] at hk⟩, X22.out⟩
end Go.Proofs.Ythcaagkgddeabaa.Bank
