/-
  Law 6: what a judge says of a topic. Conditions stand at each. By an AI agent.
-/
import Derived.Test.YtgdfhgoenemanaaDoorPlC
import Derived.Deep.CutRange
import Derived.Maps.OwnOps
namespace Go.Proofs.YtgdfhgoenemanaaDoor.Base
open Go
theorem Ex.of_grown {a b : World} {r : Option Nat} (h : a.grownBy b r) : Ex (fun k => r = some k) a b := ⟨h.os, h.tape, h.output, h.size, fun k hk hn => h.block k hk (fun e => hn e.symm)⟩
end Go.Proofs.YtgdfhgoenemanaaDoor.Base
namespace Go.Proofs.YtgdfhgoenemanaaDoor.Plan
set_option linter.unusedVariables false
set_option linter.unusedSimpArgs false
open Go Go.RowKit Go.Proofs.YtgdfhgoenemanaaDoor.Base
/-- is the i-th topic's name one of those ahead of it -/
def thereB (l : Nat → Tc) (i : Nat) : Bool := (List.range i).any fun j => decide ((l j).nm = (l i).nm)
def topicE (l : Nat → Tc) (i : Nat) : Int := if nameB (l i).nm then (if thereB l i then 15 else sureE (inB (l i).words 1 64 && inB (l i).depth 2 16) 10) else 13
/-- the names of the first i topics are the map's keys -/
def Keys (D : DataW Unit) (l : Nat → Tc) (i : Nat) : Prop := Maps.IsMap D ∧ ∀ s : ByteArray, Maps.has D (.string s.data.toList) = (List.range i).any fun j => decide ((l j).nm = s)
theorem Keys.nil (l : Nat → Tc) : Keys (.map []) l 0 := ⟨Maps.isMap_empty, fun s => rfl⟩
theorem Keys.next {D : DataW Unit} {l : Nat → Tc} {i : Nat} (h : Keys D l i) (d : DataW Unit) : Keys (D.put (.string (l i).nm.data.toList) d) l (i + 1) := by
  refine ⟨h.1.put _ _, fun s => ?_⟩
  rw [List.range_succ, List.any_append, List.any_cons, List.any_nil, Bool.or_false]
  by_cases e : (l i).nm = s
  · subst e
    rw [Maps.has_put_same h.1 (by simp [WideAt.IsKeyLit])]
    simp
  · rw [Maps.has_put_other, h.2 s, decide_eq_false e, Bool.or_false]
    intro e2
    injection e2 with e2
    apply e
    have e3 : (l i).nm.data = s.data := Array.toList_inj.1 e2.symm
    cases hx : (l i).nm
    cases s
    rw [hx] at e3
    simp only at e3
    rw [e3]
theorem key9 : Maps.Keyed Tryd.prog 9 := Maps.string_keyed Tryd.underlying9
/-- the judge's map: the names of the first i topics -/
def MapAt (w : World) (mb : Nat) (l : Nat → Tc) (i : Nat) : Prop := ∃ D : DataW Unit, w.ownsMap Tryd.prog 9 (plainElem Tryd.prog 3) mb i D ∧ Keys D l i
theorem MapAt.bl {w w' : World} {mb : Nat} {l : Nat → Tc} {i : Nat} (h : MapAt w mb l i) (p : Below w.heap.size w w') : MapAt w' mb l i := by
  obtain ⟨D, hD, hk⟩ := h
  refine ⟨D, ?_, hk⟩
  have hlt := hD.lt
  obtain ⟨es, clock, hb, F, hs, e⟩ := hD
  exact ⟨es, clock, (p.block mb hlt).trans hb, F, hs, e⟩
theorem MapAt.lt {w : World} {mb : Nat} {l : Nat → Tc} {i : Nat} (h : MapAt w mb l i) : mb < w.heap.size := by obtain ⟨D, hD, hk⟩ := h; exact hD.lt
theorem ne_map {w : World} {g mb : Nat} {t : TypeId} {cs : Array Value} {l : Nat → Tc} {i : Nat} (h : Blk w g t cs) (m : MapAt w mb l i) : g ≠ mb := by
  intro e
  subst e
  obtain ⟨D, ⟨es, clock, hb, _⟩, _⟩ := m
  have h : w.heap[g]? = some (.cells cs t (0, 0)) := h
  rw [h] at hb
  cases hb
set_option maxRecDepth 100000 in
set_option maxHeartbeats 4000000 in
theorem topic_any (j i mb : Nat) (c : Cf) (A : Option Addr) (k : Nat) (w : World) (h : Blk w j 73 (jCells c A k mb)) (ht : Tcs w A c.n c.l) (hm : MapAt w mb c.l i) (hi : i < c.n) (hn : c.n ≤ 1000) (hs : ∀ q, (c.l q).nm.size ≤ maxLen) :
    Calls Tryd.prog 28 #[.pointer (some ⟨j, 0, none⟩), .int .i64 i] w fun e w' => e = .returned (.int .i64 (topicE c.l i)) ∧ Ex (fun b => b = mb) w w' ∧ (topicE c.l i = 0 → MapAt w' mb c.l (i + 1)) := by
  obtain ⟨tb, tof, rfl, htb, htc⟩ := ht (by omega)
  have c0 := h.cell 0
  have c1 := h.cell 1
  simp only [jCells, List.getElem?_toArray, List.getElem?_cons_succ, List.getElem?_cons_zero] at c0 c1
  obtain ⟨t0, t1, t2⟩ := htc i hi
  obtain ⟨nm, hnm⟩ : ∃ z, (c.l i).nm = z := ⟨_, rfl⟩
  obtain ⟨wo, hwo⟩ : ∃ z, (c.l i).words = z := ⟨_, rfl⟩
  obtain ⟨de, hde⟩ : ∃ z, (c.l i).depth = z := ⟨_, rfl⟩
  have hnz : nm.size ≤ maxLen := hnm ▸ hs i
  rw [hnm] at t0
  rw [hwo] at t1
  rw [hde] at t2
  have ki0 : (0 : Int) ≤ (i : Int) := by omega
  have ki1 : (i : Int) < (c.n : Int) := by omega
  have ki5 : (i : Int) ≤ 1000 := by omega
  have JB := Lib.hid h
  have HM := Lib.hid hm
  have HI := Lib.hid (show i < c.n ∧ c.n ≤ 1000 from ⟨hi, hn⟩)
  have HNM := Lib.hid hnm
  have HWO := Lib.hid hwo
  have HDE := Lib.hid hde
  have HNZ := Lib.hid hnz
  clear h hm hi hn hs htc htb hnm hwo hde hnz
  go_enter Tryd.func28, Tryd.ntmps28
  go_wp2_with fail
  have TB := Lib.hid (Blk.new w 59 #[.string nm, .int .i64 wo, .int .i64 de])
  have L1 := Lib.hid ((Below.refl w.heap.size w).alloc (Nat.le_refl _) (.cells #[.string nm, .int .i64 wo, .int .i64 de] 59))
  generalize (w.alloc (.cells #[.string nm, .int .i64 wo, .int .i64 de] 59)) = w1 at *
  refine (Name_any nm w1 HNZ.out).mono ?_; rintro e w2 ⟨rfl, hl2⟩
  have TB2 := Lib.hid (TB.out.bl hl2)
  have L2 := Lib.hid (bl L1.out hl2)
  have JB2 := Lib.hid (JB.out.bl L2.out)
  have HM2 := Lib.hid (HM.out.bl L2.out)
  clear hl2 TB L1 c0 c1 t0 t1 t2 JB HM
  obtain ⟨nb, hnb⟩ : ∃ b, nameB nm = b := ⟨_, rfl⟩
  rw [hnb]
  have HNB := Lib.hid hnb
  clear hnb
  cases nb with
  | false =>
    have HR := Lib.hid (show topicE c.l i = 13 by unfold topicE; rw [HNM.out, HNB.out]; rfl)
    go_wp2_with fail
    go_ret
    exact ⟨by rw [HR.out]; rfl, Ex.of_below L2.out, fun h => by rw [HR.out] at h; cases h⟩
  | true =>
    have hTE : topicE c.l i = if thereB c.l i then 15 else sureE (inB wo 1 64 && inB de 2 16) 10 := by unfold topicE; rw [HNM.out, HNB.out, HWO.out, HDE.out]; rfl
    have HTE := Lib.hid hTE
    obtain ⟨D, hD, hk⟩ := HM2.out
    have HK := Lib.hid hk
    have HD := Lib.hid hD
    have hkey := WideMaps.keyOf_string_mk (P := Tryd.prog) Tryd.underlying9 HNZ.out
    have HKEY := Lib.hid hkey
    have hth : Maps.has D (.string nm.data.toList) = thereB c.l i := by rw [hk.2 nm]; unfold thereB; rw [HNM.out]
    have HTH := Lib.hid hth
    clear hTE hD hk hkey hth
    go_upto_region 4 with fail
    have hne : Nonempty (Held (Below w2.heap.size w2)) := ⟨⟨w2, Below.refl _ _⟩⟩
    have p0 : ∀ y : Held (Below w2.heap.size w2), y.w.cell? ⟨j, 0, none⟩ = some (.int .i64 c.tasks) := fun y => by rw [(JB2.out.bl y.ok).cell]; rfl
    have p4 : ∀ y : Held (Below w2.heap.size w2), y.w.cell? ⟨j, 4, none⟩ = some (.map (some mb)) := fun y => by rw [(JB2.out.bl y.ok).cell]; rfl
    have q0 : ∀ y : Held (Below w2.heap.size w2), y.w.cell? ⟨w.heap.size, 0, none⟩ = some (.string nm) := fun y => by rw [(TB2.out.bl y.ok).cell]; rfl
    refine drawn_bars (S := Below w2.heap.size w2) [([0, 1, 2, 3, 4, 5], 6)] [7, 8, 9, 10, 11] (by kernel_rfl) (by kernel_rfl) (by kernel_rfl) rfl (Below.refl _ _).drew ?_
    refine Phased.go ?_
    simp only [pick, List.map_cons, List.map_nil, List.getElem?_cons_zero, List.getElem?_cons_succ, Option.getD_some]
    repeat (go_big_quiet_step (fail))
    refine wpQuiet_nil ?_
    go_wp2_with (at_lookup; refine wpList_lookup_own_ok_int _ rfl _ _ 71 rfl 9 3 .i64 key9 Tryd.underlying71 Tryd.underlying3 (Tryd.zeroValue3 _) mb i D rfl HD.out.drew _ _ rfl HKEY.out ?_; intro cc hat hwc; rw [HTH.out])
    refine behind_normal ⟨Below w2.heap.size w2, fun W h => h, (Below.refl _ _).drew, ?_⟩
    refine Phased.end_ ?_
    have hne5 : Nonempty (Held (fun W => W = w2.drew)) := ⟨⟨_, rfl⟩⟩
    simp only [pick, List.map_cons, List.map_nil, List.getElem?_cons_zero, List.getElem?_cons_succ, Option.getD_some]
    repeat (go_big_quiet_step (fail))
    refine wpQuiet_nil ?_
    clear hne hne5 p0 p4 q0
    have JB3 := Lib.hid JB2.out.drew
    have TB3 := Lib.hid TB2.out.drew
    have L3 := Lib.hid L2.out.drew
    have HD3 := Lib.hid HD.out.drew
    have NE := Lib.hid (show j ≠ mb ∧ w.heap.size ≠ mb from ⟨ne_map JB2.out HM2.out, ne_map TB2.out HM2.out⟩)
    clear JB2 TB2 L2 HD HM2
    obtain ⟨tv, htv⟩ : ∃ tv, w.heap.size = tv := ⟨_, rfl⟩
    rw [htv] at TB3 NE
    simp only [htv]
    have HTV := Lib.hid htv
    clear htv
    generalize w2.drew = w3 at *
    obtain ⟨tb1, htb1⟩ : ∃ b, thereB c.l i = b := ⟨_, rfl⟩
    rw [htb1] at HTE
    rw [htb1]
    clear htb1
    cases tb1 with
    | true =>
      have HR := Lib.hid (show topicE c.l i = 15 from HTE.out)
      go_wp2_with fail
      go_ret
      exact ⟨by rw [HR.out]; rfl, Ex.of_below L3.out, fun h => by rw [HR.out] at h; cases h⟩
    | false =>
      go_upto_region 7 with fail
      have hne : Nonempty (Held (Ex (fun b => b = mb) w3)) := ⟨⟨w3, Ex.refl _ _⟩⟩
      have p0 : ∀ y : Held (Ex (fun b => b = mb) w3), y.w.cell? ⟨j, 0, none⟩ = some (.int .i64 c.tasks) := fun y => by rw [(JB3.out.ex y.ok NE.out.1).cell]; rfl
      have p4 : ∀ y : Held (Ex (fun b => b = mb) w3), y.w.cell? ⟨j, 4, none⟩ = some (.map (some mb)) := fun y => by rw [(JB3.out.ex y.ok NE.out.1).cell]; rfl
      have q0 : ∀ y : Held (Ex (fun b => b = mb) w3), y.w.cell? ⟨tv, 0, none⟩ = some (.string nm) := fun y => by rw [(TB3.out.ex y.ok NE.out.2).cell]; rfl
      refine drawn_bars (S := Ex (fun b => b = mb) w3) [([0, 1, 2, 3, 4, 5, 6], 7)] [] (by kernel_rfl) (by kernel_rfl) (by kernel_rfl) rfl (Ex.refl _ _).drew ?_
      refine Phased.go ?_
      simp only [pick, List.map_cons, List.map_nil, List.getElem?_cons_zero, List.getElem?_cons_succ, Option.getD_some]
      repeat (go_big_quiet_step (fail))
      refine wpQuiet_nil ?_
      go_wp2_with (at_mapUpdate; refine wpList_mapUpdate_own _ rfl _ _ _ 71 rfl 9 3 key9 Tryd.underlying71 _ mb i D rfl HD3.out.drew (by have := HI.out; unfold maxLen; omega) _ _ _ rfl rfl HKEY.out _ [] (plainElem_int Tryd.underlying3 (WalkArith.wf_i64 (by omega))) ?_; intro w5 hown5 hgrow5)
      have HX5 := Lib.hid (((Ex.refl (fun b => b = mb) w3).drew).trans ((Ex.of_grown hgrow5).mono (fun b hb => by injection hb with hb; exact hb.symm)))
      have TB5 := Lib.hid (TB3.out.ex HX5.out NE.out.2)
      have hm5 : MapAt w5 mb c.l (i + 1) := ⟨_, hown5, by have := HK.out.next (.lit (.int .i64 (i : Int))); rw [HNM.out] at this; exact this⟩
      have HM5 := Lib.hid hm5
      clear hown5 hgrow5 hm5
      refine behind_normal ⟨Ex (fun b => b = mb) w3, fun W h => h, HX5.out, ?_⟩
      refine Phased.end_ ?_
      have hne5 : Nonempty (Held (fun W => W = w5)) := ⟨⟨_, rfl⟩⟩
      simp only [pick, List.map_cons, List.map_nil, List.getElem?_cons_zero, List.getElem?_cons_succ, Option.getD_some]
      repeat (go_big_quiet_step (fail))
      refine wpQuiet_nil ?_
      clear hne hne5 p0 p4 q0
      have HX := Lib.hid ((Ex.of_below (T := fun b => b = mb) L3.out).trans HX5.out)
      have c1 := TB5.out.cell 1
      have c2 := TB5.out.cell 2
      simp only [List.getElem?_toArray, List.getElem?_cons_succ, List.getElem?_cons_zero] at c1 c2
      obtain ⟨b1, hb1⟩ : ∃ b, inB wo 1 64 = b := ⟨_, rfl⟩
      obtain ⟨b2, hb2⟩ : ∃ b, inB de 2 16 = b := ⟨_, rfl⟩
      have HC1 := Lib.hid (fun W => (between_any wo 1 64 W))
      have HC2 := Lib.hid (fun W => (between_any de 2 16 W))
      rw [hb1] at HC1 HTE
      rw [hb2] at HC2 HTE
      clear hb1 hb2
      cases b1 with
      | false =>
        go_wp2_with fail
        refine (HC1.out _).mono ?_; rintro e w' ⟨rfl, hw9⟩
        subst hw9
        go_wp2_with fail
        refine (sure_any _ _ _).mono ?_; rintro e w' ⟨rfl, hw9⟩
        subst hw9
        go_wp2_with fail
        go_ret
        exact ⟨by rw [HTE.out]; rfl, HX.out, fun _ => HM5.out⟩
      | true =>
        go_wp2_with fail
        refine (HC1.out _).mono ?_; rintro e w' ⟨rfl, hw9⟩
        subst hw9
        go_wp2_with fail
        refine (HC2.out _).mono ?_; rintro e w' ⟨rfl, hw9⟩
        subst hw9
        go_wp2_with fail
        refine (sure_any _ _ _).mono ?_; rintro e w' ⟨rfl, hw9⟩
        subst hw9
        go_wp2_with fail
        go_ret
        exact ⟨by rw [HTE.out]; rfl, HX.out, fun _ => HM5.out⟩
end Go.Proofs.YtgdfhgoenemanaaDoor.Plan
