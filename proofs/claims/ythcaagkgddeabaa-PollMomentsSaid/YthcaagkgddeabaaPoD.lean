/-
  Law 12: a poll turns its cursors. Printed by wip/tools/mkpod.py. Conditions stand at each. By an AI agent.
-/
import Derived.Test.YthcaagkgddeabaaPoC
namespace Go.Proofs.Ythcaagkgddeabaa.Bank
set_option linter.unusedVariables false
set_option linter.unusedSimpArgs false
open Go Go.RowKit Go.Proofs.Ythcaagkgddeabaa.Base Go.Deep Go.ChangeShapes Go.WideShapes Go.Proofs.Ythcaagkgddeabaa.Queue
def curF (c : PC) (x : PX) (i : Nat) : Cur := if (i : Int) = x.pick then takeC (x.cu i) (nth x.gl (c.ix i)) else seeC (x.cu i) (nth x.gl (c.ix i))
def finishP (c : PC) (x : PX) : PX := { x with cu := curF c x, how := 1 }
theorem SubsIn.congr {w : World} {r n : Nat} {l l' : Nat → Queue.Sub} (h : SubsIn w r n l) (e : ∀ i, i < n → l i = l' i) : SubsIn w r n l' :=
  ⟨h.lt, fun i hi j hj => by rw [← e i hi]; exact h.cells i hi j hj, h.fro⟩
theorem setCell_fro (w : World) (p : Addr) (u : Value) (a : Addr) : (w.setCell p u).frozen? a = w.frozen? a := by
  unfold World.frozen? World.setCell
  simp only [Array.getElem?_modify]
  by_cases h : p.block = a.block
  · rw [if_pos h]
    cases w.heap[a.block]? with
    | none => rfl
    | some o => cases o <;> rfl
  · rw [if_neg h]
theorem cell_set {w : World} {r a : Nat} {v : Value} (h : w.cell? ⟨r, a, none⟩ = some v) (u : Value) (b : Nat) : (w.setCell ⟨r, a, none⟩ u).cell? ⟨r, b, none⟩ = if b = a then some u else w.cell? ⟨r, b, none⟩ := by
  by_cases e : b = a
  · subst e; rw [if_pos rfl]; exact World.cell?_setCell_same _ _ _ h
  · rw [if_neg e]; exact World.cell?_setCell_other _ _ _ _ (fun h => e (by simp only [Addr.mk.injEq] at h; omega))
theorem SubsIn.setCur {w : World} {r n : Nat} {c : PC} {cu : Nat → Cur} (h : SubsIn w r n (c.sub cu)) {i : Nat} (hi : i < n) (d : Cur) {cu' : Nat → Cur} (e : ∀ j, j < n → cu' j = if j = i then d else cu j) :
    SubsIn ((((w.setCell ⟨r, i * 6 + 2, none⟩ (.int .u64 d.next)).setCell ⟨r, i * 6 + 3, none⟩ (.int .i64 d.cap)).setCell ⟨r, i * 6 + 4, none⟩ (.int .u64 d.got)).setCell ⟨r, i * 6 + 5, none⟩ (.int .u64 d.lost)) r n (c.sub cu') := by
  have h0 := h.cells i hi 2 (by decide)
  have h1 := h.cells i hi 3 (by decide)
  have h2 := h.cells i hi 4 (by decide)
  have h3 := h.cells i hi 5 (by decide)
  have k1 := (cell_set h0 (.int .u64 d.next) (i * 6 + 3)).trans ((if_neg (by omega)).trans h1)
  have k2 := (cell_set k1 (.int .i64 d.cap) (i * 6 + 4)).trans ((if_neg (by omega)).trans ((cell_set h0 (.int .u64 d.next) (i * 6 + 4)).trans ((if_neg (by omega)).trans h2)))
  have k3 := (cell_set k2 (.int .u64 d.got) (i * 6 + 5)).trans ((if_neg (by omega)).trans ((cell_set k1 (.int .i64 d.cap) (i * 6 + 5)).trans ((if_neg (by omega)).trans ((cell_set h0 (.int .u64 d.next) (i * 6 + 5)).trans ((if_neg (by omega)).trans h3)))))
  refine ⟨by simpa [World.setCell] using h.lt, fun k hk j hj => ?_, fun a => by simp only [setCell_fro]; exact h.fro a⟩
  have hcj := h.cells k hk j hj
  have ek := e k hk
  rw [cell_set k3, cell_set k2, cell_set k1, cell_set h0]
  by_cases hki : k = i
  · subst hki
    rw [if_pos rfl] at ek
    have hj6 : j = 0 ∨ j = 1 ∨ j = 2 ∨ j = 3 ∨ j = 4 ∨ j = 5 := by omega
    rcases hj6 with rfl | rfl | rfl | rfl | rfl | rfl
    · rw [if_neg (by omega), if_neg (by omega), if_neg (by omega), if_neg (by omega)]; exact hcj
    · rw [if_neg (by omega), if_neg (by omega), if_neg (by omega), if_neg (by omega)]; exact hcj
    · rw [if_neg (by omega), if_neg (by omega), if_neg (by omega), if_pos rfl]; simp only [subC, PC.sub, ek]
    · rw [if_neg (by omega), if_neg (by omega), if_pos rfl]; simp only [subC, PC.sub, ek]
    · rw [if_neg (by omega), if_pos rfl]; simp only [subC, PC.sub, ek]
    · rw [if_pos rfl]; simp only [subC, PC.sub, ek]
  · rw [if_neg hki] at ek
    rw [if_neg (by omega), if_neg (by omega), if_neg (by omega), if_neg (by omega), hcj]
    show some (subC (c.sub cu k) j) = some (subC (c.sub cu' k) j)
    simp only [PC.sub, ek]
theorem upto_zero {α : Type} (f g : Nat → α) (j : Nat) : (if j < 0 then f j else g j) = g j := if_neg (by omega)
set_option maxRecDepth 100000 in
set_option maxHeartbeats 16000000 in
theorem finish_any (o rs cs rt ct q : Nat) (vw : Value) (c : PC) (x : PX) (w : World) (h : PAt w o rs cs rt ct q vw c x) (hc : c.Ok) (hf : PFit c x) :
    Calls Try.prog 40 #[.pointer (some ⟨o, 0, none⟩)] w fun e w' => e = .returned (.tuple #[]) ∧ PAt w' o rs cs rt ct q vw c (finishP c x) ∧ Ex (fun k => k = o ∨ k = rs) w w' := by
  obtain ⟨n, T, tn, rk, tp, ix⟩ := c
  obtain ⟨left, round, next, pk, gen, place, size, how, steps, begun, words, gl, cu⟩ := x
  have HC := Lib.hid hc
  have HA := Lib.hid h.apart
  have QL := Lib.hid h.qlt
  have WAP := Lib.hid h.wap
  have B0 : RowKit.Hid (Blk w o 101 (pcs rs n cs rt T ct vw left round next pk gen place size how steps begun)) := Lib.hid h.box
  have S0 : RowKit.Hid (SubsIn w rs n (PC.sub ⟨n, T, tn, rk, tp, ix⟩ cu)) := Lib.hid h.subs
  have P0 : RowKit.Hid (TopsIn w rt T tp gl) := Lib.hid h.tops
  have R0 : RowKit.Hid (OwnR w vw words) := Lib.hid h.row
  have X0 := Lib.hid (Ex.refl (fun k => k = o ∨ k = rs) w)
  have ORD1 := Lib.hid (show rs ≠ o ∧ rt ≠ o ∧ rs ≠ rt from by have h1 := HA.out; omega)
  have N64 := Lib.hid (show n ≤ 64 from hc.n64)
  have HCU := Lib.hid (show ∀ i, i < n → (cu i).Right ∧ (cu i).Ok from hf.cu)
  have HGV := Lib.hid (show ∀ i, i < n → 0 ≤ nth gl (ix i) ∧ nth gl (ix i) < 9223372036854775808 from fun i hi => hf.gen hc hi)
  have HGN := Lib.hid (show ∀ i, i < n → nth (gensL ⟨n, T, tn, rk, tp, ix⟩ gl) i = nth gl (ix i) from fun i hi => gensL_nth ⟨n, T, tn, rk, tp, ix⟩ gl hi)
  have HGL := Lib.hid (show (gensL ⟨n, T, tn, rk, tp, ix⟩ gl).length = n from gensL_len ⟨n, T, tn, rk, tp, ix⟩ gl)
  have HGE := Lib.hid (gens_any o rs cs rt ct q vw ⟨n, T, tn, rk, tp, ix⟩ ⟨left, round, next, pk, gen, place, size, how, steps, begun, words, gl, cu⟩ w h hc)
  have HCF := Lib.hid (show ∀ i : Nat, curF ⟨n, T, tn, rk, tp, ix⟩ ⟨left, round, next, pk, gen, place, size, how, steps, begun, words, gl, cu⟩ i = if (i : Int) = pk then takeC (cu i) (nth gl (ix i)) else seeC (cu i) (nth gl (ix i)) from fun i => rfl)
  unfold finishP
  obtain ⟨fin, hfin⟩ : ∃ fin, curF ⟨n, T, tn, rk, tp, ix⟩ ⟨left, round, next, pk, gen, place, size, how, steps, begun, words, gl, cu⟩ = fin := ⟨_, rfl⟩
  simp only [hfin] at HCF ⊢
  clear h hc hf hfin
  go_enter Try.func40, Try.ntmps40
  go_wp2_with fail
  refine HGE.out.mono ?_; rintro e w1 ⟨r, rfl, hr, hu, hb1⟩
  simp only at hu ⊢
  obtain ⟨gL, hgL⟩ : ∃ gL, gensL ⟨n, T, tn, rk, tp, ix⟩ gl = gL := ⟨_, rfl⟩
  rw [hgL] at hu HGL HGN
  clear hgL HGE
  have hlt_o : o < r := Nat.lt_of_lt_of_le B0.out.lt hr
  have hlt_rs : rs < r := Nat.lt_of_lt_of_le S0.out.lt hr
  have hlt_rt : rt < r := Nat.lt_of_lt_of_le P0.out.lt hr
  have RW := Lib.hid hr
  have ORD2 := Lib.hid (show rs ≠ o ∧ rt ≠ o ∧ rs ≠ rt ∧ o < r ∧ rs < r ∧ rt < r from by have o_ := ORD1.out; omega)
  clear ORD1
  have ee : Ex (fun _ => False) w w1 := Ex.of_below hb1
  have B3 := Lib.hid (B0.out.ex ee (fun h => h))
  have S3 := Lib.hid (S0.out.ex ee (fun h => h))
  have P3 := Lib.hid (P0.out.ex ee (fun h => h))
  have R3 := Lib.hid (R0.out.ex ee (fun k hk hT => hT))
  have X3 := Lib.hid (X0.out.trans (ee.mono (fun k hk => hk.elim)))
  have U3 := Lib.hid (hu)
  clear ee B0 S0 P0 R0 X0 hb1 hu hr hlt_o hlt_rs hlt_rt
  have b0 := B3.out.cell 0
  simp only [pcs, List.getElem?_toArray, List.getElem?_cons_zero, List.getElem?_cons_succ] at b0
  go_wp2_with fail
  clear b0
  have Y0 := Lib.hid (Ex.refl (fun k => k = rs) w1)
  go_loopw [3, 4, 12] (fun s3 s4 s12 wr => ∃ i : Nat, i ≤ n ∧ s12 = .int .i64 i ∧ SubsIn wr rs n (PC.sub ⟨n, T, tn, rk, tp, ix⟩ (fun j => if j < i then fin j else cu j)) ∧ Ex (fun k => k = rs) w1 wr) (fun s3 s4 s12 _ => n - (intOf s12).toNat)
  case atStart => exact ⟨0, by omega, rfl, S3.out.congr (fun j hj => by simp only [PC.sub, upto_zero]), Y0.out⟩
  case round =>
    obtain ⟨i, hi, rfl, hs, hx⟩ := hrel
    have Y1 := Lib.hid hx
    have SS0 := Lib.hid hs
    clear hs
    have hB := B3.out.ex hx (by have o_ := ORD2.out; omega)
    have hP := P3.out.ex hx (by have o_ := ORD2.out; omega)
    have hU := U3.out.ex hx (by have o_ := ORD2.out; omega)
    have hR := R3.out.ex hx (fun k hk hT => by have w_ := WAP.out k hk; have o_ := ORD2.out; omega)
    have hX := X3.out.trans (hx.mono (fun k hk => .inr hk))
    have BB := Lib.hid hB
    have PP := Lib.hid hP
    have UU := Lib.hid hU
    have RR := Lib.hid hR
    have XX := Lib.hid hX
    clear hB hP hU hR hX hx B3 S3 P3 R3 X3 U3
    by_cases hlt : i < n
    · have kd : decide ((i : Int) < (n : Int)) = true := decide_eq_true (by omega)
      have ki0 : (0 : Int) ≤ (i : Int) := by omega
      have ki1 : (i : Int) < (n : Int) := by omega
      have HI := Lib.hid hlt
      have HM := Lib.hid (turn_no i n hlt (by have := N64.out; unfold maxLen; omega))
      have HGI := Lib.hid (show 0 ≤ nth gL i ∧ nth gL i ≤ 18446744073709551615 from by rw [HGN.out i hlt]; have := HGV.out i hlt; omega)
      clear hi hlt
      have b0 := BB.out.cell 0
      have b5 := BB.out.cell 5
      simp only [pcs, List.getElem?_toArray, List.getElem?_cons_zero, List.getElem?_cons_succ] at b0 b5
      have u0 := UU.out.word (i := i) (by rw [HGL.out]; exact HI.out)
      have q0 : wr.cell? ⟨rs, i * 6 + 2, none⟩ = some (.int .u64 (cu i).next) := (SS0.out.cells i HI.out 2 (by decide)).trans (by simp only [subC, PC.sub, if_neg (Nat.lt_irrefl i)])
      have q1 : wr.cell? ⟨rs, i * 6 + 3, none⟩ = some (.int .i64 (cu i).cap) := (SS0.out.cells i HI.out 3 (by decide)).trans (by simp only [subC, PC.sub, if_neg (Nat.lt_irrefl i)])
      have q2 : wr.cell? ⟨rs, i * 6 + 4, none⟩ = some (.int .u64 (cu i).got) := (SS0.out.cells i HI.out 4 (by decide)).trans (by simp only [subC, PC.sub, if_neg (Nat.lt_irrefl i)])
      have q3 : wr.cell? ⟨rs, i * 6 + 5, none⟩ = some (.int .u64 (cu i).lost) := (SS0.out.cells i HI.out 5 (by decide)).trans (by simp only [subC, PC.sub, if_neg (Nat.lt_irrefl i)])
      by_cases hik : (i : Int) = pk
      · have kk : ((i : Int) == pk) = true := by simpa using hik
        have HFI := Lib.hid (show fin i = takeC (cu i) (nth gL i) by rw [HCF.out i, if_pos hik, HGN.out i HI.out])
        have HCL := Lib.hid (fun W => Take_any (cu i) (nth gL i) (HCU.out i HI.out).2 HGI.out W)
        rw [← HFI.out] at HCL
        obtain ⟨d, hd⟩ : ∃ d, fin i = d := ⟨_, rfl⟩
        rw [hd] at HCL
        have HD := Lib.hid hd
        clear hd HFI hik
        unfold Cur.val at HCL
        go_upto_region 6 with fail
        clear b0 b5 u0 q0 q1 q2 q3 kk
        have hne : Nonempty (Held (Ex (fun k => k = rs) wr)) := ⟨⟨wr, Ex.refl _ _⟩⟩
        have p3 : ∀ y : Held (Ex (fun k => k = rs) wr), y.w.cell? ⟨r, i, none⟩ = some (.int .u64 (nth gL i)) := fun y => (UU.out.ex y.ok (by have o_ := ORD2.out; omega)).word (by rw [HGL.out]; exact HI.out)
        have YD := Lib.hid ((Ex.refl (fun k => k = rs) wr).drew)
        refine drawn_bars (S := (Ex (fun k => k = rs) wr)) [([0, 1, 2, 4, 5, 6, 7], 3), ([], 8), ([9, 10, 11, 12, 13], 14)] [] (by kernel_rfl) (by kernel_rfl) (by kernel_rfl) rfl (Ex.refl _ _).drew ?_
        refine Phased.go ?_
        simp only [pick, List.map_cons, List.map_nil, List.getElem?_cons_zero, List.getElem?_cons_succ, Option.getD_some]
        repeat (go_big_quiet_step (fail))
        refine wpQuiet_nil ?_
        have ee : Ex (fun _ => False) wr wr.drew := (Ex.refl _ wr).drew
        have B4 := Lib.hid (BB.out.ex ee (fun h => h))
        have S4 := Lib.hid (SS0.out.ex ee (fun h => h))
        have P4 := Lib.hid (PP.out.ex ee (fun h => h))
        have U4 := Lib.hid (UU.out.ex ee (fun h => h))
        have R4 := Lib.hid (RR.out.ex ee (fun k hk hT => hT))
        have X4 := Lib.hid (XX.out.trans (ee.mono (fun k hk => hk.elim)))
        have Y4 := Lib.hid (Y1.out.trans (ee.mono (fun k hk => hk.elim)))
        clear ee BB SS0 PP UU RR XX Y1
        generalize wr.drew = wd at *
        have q0 : wd.cell? ⟨rs, i * 6 + 2, none⟩ = some (.int .u64 (cu i).next) := (S4.out.cells i HI.out 2 (by decide)).trans (by simp only [subC, PC.sub, if_neg (Nat.lt_irrefl i)])
        have q1 : wd.cell? ⟨rs, i * 6 + 3, none⟩ = some (.int .i64 (cu i).cap) := (S4.out.cells i HI.out 3 (by decide)).trans (by simp only [subC, PC.sub, if_neg (Nat.lt_irrefl i)])
        have q2 : wd.cell? ⟨rs, i * 6 + 4, none⟩ = some (.int .u64 (cu i).got) := (S4.out.cells i HI.out 4 (by decide)).trans (by simp only [subC, PC.sub, if_neg (Nat.lt_irrefl i)])
        have q3 : wd.cell? ⟨rs, i * 6 + 5, none⟩ = some (.int .u64 (cu i).lost) := (S4.out.cells i HI.out 5 (by decide)).trans (by simp only [subC, PC.sub, if_neg (Nat.lt_irrefl i)])
        go_wp2_with fail
        refine behind_normal ⟨(Ex (fun k => k = rs) wr), fun W h => h, YD.out, ?_⟩
        refine Phased.go ?_
        simp only [pick, List.map_cons, List.map_nil, List.getElem?_cons_zero, List.getElem?_cons_succ, Option.getD_some]
        refine wpQuiet_nil ?_
        clear q0 q1 q2 q3
        go_wp2_with fail
        refine (HCL.out _).mono ?_; rintro e w2 ⟨rfl, hb2⟩
        have YE := Lib.hid (YD.out.trans (Ex.of_below hb2))
        have ee : Ex (fun _ => False) wd w2 := Ex.of_below hb2
        have B5 := Lib.hid (B4.out.ex ee (fun h => h))
        have S5 := Lib.hid (S4.out.ex ee (fun h => h))
        have P5 := Lib.hid (P4.out.ex ee (fun h => h))
        have U5 := Lib.hid (U4.out.ex ee (fun h => h))
        have R5 := Lib.hid (R4.out.ex ee (fun k hk hT => hT))
        have X5 := Lib.hid (X4.out.trans (ee.mono (fun k hk => hk.elim)))
        have Y5 := Lib.hid (Y4.out.trans (ee.mono (fun k hk => hk.elim)))
        clear ee B4 S4 P4 U4 R4 X4 Y4 hb2
        go_wp2_with fail
        refine behind_normal ⟨(Ex (fun k => k = rs) wr), fun W h => h, YE.out, ?_⟩
        refine Phased.go ?_
        simp only [pick, List.map_cons, List.map_nil, List.getElem?_cons_zero, List.getElem?_cons_succ, Option.getD_some]
        repeat (go_big_quiet_step (fail))
        refine wpQuiet_nil ?_
        clear hne p3
        have q0 : w2.cell? ⟨rs, i * 6 + 2, none⟩ = some (.int .u64 (cu i).next) := (S5.out.cells i HI.out 2 (by decide)).trans (by simp only [subC, PC.sub, if_neg (Nat.lt_irrefl i)])
        have z0 := S5.out.fro (i * 6 + 2)
        have q1 : w2.cell? ⟨rs, i * 6 + 3, none⟩ = some (.int .i64 (cu i).cap) := (S5.out.cells i HI.out 3 (by decide)).trans (by simp only [subC, PC.sub, if_neg (Nat.lt_irrefl i)])
        have z1 := S5.out.fro (i * 6 + 3)
        have q2 : w2.cell? ⟨rs, i * 6 + 4, none⟩ = some (.int .u64 (cu i).got) := (S5.out.cells i HI.out 4 (by decide)).trans (by simp only [subC, PC.sub, if_neg (Nat.lt_irrefl i)])
        have z2 := S5.out.fro (i * 6 + 4)
        have q3 : w2.cell? ⟨rs, i * 6 + 5, none⟩ = some (.int .u64 (cu i).lost) := (S5.out.cells i HI.out 5 (by decide)).trans (by simp only [subC, PC.sub, if_neg (Nat.lt_irrefl i)])
        have z3 := S5.out.fro (i * 6 + 5)
        go_wp2_with fail
        clear q0 z0 q1 z1 q2 z2 q3 z3
        have hss : SubsIn ((((w2.setCell ⟨rs, i * 6 + 2, none⟩ (.int .u64 d.next)).setCell ⟨rs, i * 6 + 3, none⟩ (.int .i64 d.cap)).setCell ⟨rs, i * 6 + 4, none⟩ (.int .u64 d.got)).setCell ⟨rs, i * 6 + 5, none⟩ (.int .u64 d.lost)) rs n (PC.sub ⟨n, T, tn, rk, tp, ix⟩ (fun j => if j < i + 1 then fin j else cu j)) := S5.out.setCur HI.out d (fun j hj => by
          by_cases e : j = i
          · subst e; rw [if_pos rfl, if_pos (by omega)]; exact HD.out
          · rw [if_neg e]
            by_cases e2 : j < i
            · rw [if_pos e2, if_pos (by omega)]
            · rw [if_neg e2, if_neg (by omega)])
        have ZZ := Lib.hid ((((((Ex.refl (fun k => k = rs) w2).setCell (q := ⟨rs, i * 6 + 2, none⟩) (.inl rfl) (.int .u64 d.next)).setCell (q := ⟨rs, i * 6 + 3, none⟩) (.inl rfl) (.int .i64 d.cap)).setCell (q := ⟨rs, i * 6 + 4, none⟩) (.inl rfl) (.int .u64 d.got)).setCell (q := ⟨rs, i * 6 + 5, none⟩) (.inl rfl) (.int .u64 d.lost)))
        have ee : Ex (fun k => k = rs) w2 ((((w2.setCell ⟨rs, i * 6 + 2, none⟩ (.int .u64 d.next)).setCell ⟨rs, i * 6 + 3, none⟩ (.int .i64 d.cap)).setCell ⟨rs, i * 6 + 4, none⟩ (.int .u64 d.got)).setCell ⟨rs, i * 6 + 5, none⟩ (.int .u64 d.lost)) := (((((Ex.refl (fun k => k = rs) w2).setCell (q := ⟨rs, i * 6 + 2, none⟩) (.inl rfl) (.int .u64 d.next)).setCell (q := ⟨rs, i * 6 + 3, none⟩) (.inl rfl) (.int .i64 d.cap)).setCell (q := ⟨rs, i * 6 + 4, none⟩) (.inl rfl) (.int .u64 d.got)).setCell (q := ⟨rs, i * 6 + 5, none⟩) (.inl rfl) (.int .u64 d.lost))
        have B6 := Lib.hid (B5.out.ex ee (by have o_ := ORD2.out; omega))
        have P6 := Lib.hid (P5.out.ex ee (by have o_ := ORD2.out; omega))
        have U6 := Lib.hid (U5.out.ex ee (by have o_ := ORD2.out; omega))
        have R6 := Lib.hid (R5.out.ex ee (fun k hk hT => by have hT : k = rs := hT; have w_ := WAP.out k hk; have o_ := ORD2.out; omega))
        have X6 := Lib.hid (X5.out.trans (ee.mono (fun k hk => by have hk : k = rs := hk; first | (rcases hk with rfl; simp) | omega | exact .inl hk | exact .inr hk | simp only [hk, true_or, or_true])))
        have Y6 := Lib.hid (Y5.out.trans (ee.mono (fun k hk => by have hk : k = rs := hk; first | (rcases hk with rfl; simp) | omega | exact .inl hk | exact .inr hk | simp only [hk, true_or, or_true])))
        have S6 := Lib.hid (hss)
        clear ee B5 S5 P5 U5 R5 X5 Y5 hss
        generalize ((((w2.setCell ⟨rs, i * 6 + 2, none⟩ (.int .u64 d.next)).setCell ⟨rs, i * 6 + 3, none⟩ (.int .i64 d.cap)).setCell ⟨rs, i * 6 + 4, none⟩ (.int .u64 d.got)).setCell ⟨rs, i * 6 + 5, none⟩ (.int .u64 d.lost)) = w3 at *
        have YF := Lib.hid (YE.out.trans ZZ.out)
        refine behind_normal ⟨(Ex (fun k => k = rs) wr), fun W h => h, YF.out, ?_⟩
        refine Phased.end_ ?_
        simp only [pick, List.map_nil]
        refine wpQuiet_nil ?_
        go_wp2_with fail
        go_roundw
        case rel => exact ⟨i + 1, HI.out, HM.out.1, S6.out, Y6.out⟩
        case measure => exact HM.out.2
      · have kk : ((i : Int) == pk) = false := by simpa using hik
        have HFI := Lib.hid (show fin i = seeC (cu i) (nth gL i) by rw [HCF.out i, if_neg hik, HGN.out i HI.out])
        have HCL := Lib.hid (fun W => See_any (cu i) (nth gL i) (HCU.out i HI.out).2 HGI.out W)
        rw [← HFI.out] at HCL
        obtain ⟨d, hd⟩ : ∃ d, fin i = d := ⟨_, rfl⟩
        rw [hd] at HCL
        have HD := Lib.hid hd
        clear hd HFI hik
        unfold Cur.val at HCL
        go_upto_region 7 with fail
        clear b0 b5 u0 q0 q1 q2 q3 kk
        have hne : Nonempty (Held (Ex (fun k => k = rs) wr)) := ⟨⟨wr, Ex.refl _ _⟩⟩
        have p3 : ∀ y : Held (Ex (fun k => k = rs) wr), y.w.cell? ⟨r, i, none⟩ = some (.int .u64 (nth gL i)) := fun y => (UU.out.ex y.ok (by have o_ := ORD2.out; omega)).word (by rw [HGL.out]; exact HI.out)
        have YD := Lib.hid ((Ex.refl (fun k => k = rs) wr).drew)
        refine drawn_bars (S := (Ex (fun k => k = rs) wr)) [([0, 1, 2, 4, 5, 6, 7], 3), ([], 8), ([9, 10, 11, 12], 13)] [] (by kernel_rfl) (by kernel_rfl) (by kernel_rfl) rfl (Ex.refl _ _).drew ?_
        refine Phased.go ?_
        simp only [pick, List.map_cons, List.map_nil, List.getElem?_cons_zero, List.getElem?_cons_succ, Option.getD_some]
        repeat (go_big_quiet_step (fail))
        refine wpQuiet_nil ?_
        have ee : Ex (fun _ => False) wr wr.drew := (Ex.refl _ wr).drew
        have B4 := Lib.hid (BB.out.ex ee (fun h => h))
        have S4 := Lib.hid (SS0.out.ex ee (fun h => h))
        have P4 := Lib.hid (PP.out.ex ee (fun h => h))
        have U4 := Lib.hid (UU.out.ex ee (fun h => h))
        have R4 := Lib.hid (RR.out.ex ee (fun k hk hT => hT))
        have X4 := Lib.hid (XX.out.trans (ee.mono (fun k hk => hk.elim)))
        have Y4 := Lib.hid (Y1.out.trans (ee.mono (fun k hk => hk.elim)))
        clear ee BB SS0 PP UU RR XX Y1
        generalize wr.drew = wd at *
        have q0 : wd.cell? ⟨rs, i * 6 + 2, none⟩ = some (.int .u64 (cu i).next) := (S4.out.cells i HI.out 2 (by decide)).trans (by simp only [subC, PC.sub, if_neg (Nat.lt_irrefl i)])
        have q1 : wd.cell? ⟨rs, i * 6 + 3, none⟩ = some (.int .i64 (cu i).cap) := (S4.out.cells i HI.out 3 (by decide)).trans (by simp only [subC, PC.sub, if_neg (Nat.lt_irrefl i)])
        have q2 : wd.cell? ⟨rs, i * 6 + 4, none⟩ = some (.int .u64 (cu i).got) := (S4.out.cells i HI.out 4 (by decide)).trans (by simp only [subC, PC.sub, if_neg (Nat.lt_irrefl i)])
        have q3 : wd.cell? ⟨rs, i * 6 + 5, none⟩ = some (.int .u64 (cu i).lost) := (S4.out.cells i HI.out 5 (by decide)).trans (by simp only [subC, PC.sub, if_neg (Nat.lt_irrefl i)])
        go_wp2_with fail
        refine behind_normal ⟨(Ex (fun k => k = rs) wr), fun W h => h, YD.out, ?_⟩
        refine Phased.go ?_
        simp only [pick, List.map_cons, List.map_nil, List.getElem?_cons_zero, List.getElem?_cons_succ, Option.getD_some]
        refine wpQuiet_nil ?_
        clear q0 q1 q2 q3
        go_wp2_with fail
        refine (HCL.out _).mono ?_; rintro e w2 ⟨rfl, hb2⟩
        have YE := Lib.hid (YD.out.trans (Ex.of_below hb2))
        have ee : Ex (fun _ => False) wd w2 := Ex.of_below hb2
        have B5 := Lib.hid (B4.out.ex ee (fun h => h))
        have S5 := Lib.hid (S4.out.ex ee (fun h => h))
        have P5 := Lib.hid (P4.out.ex ee (fun h => h))
        have U5 := Lib.hid (U4.out.ex ee (fun h => h))
        have R5 := Lib.hid (R4.out.ex ee (fun k hk hT => hT))
        have X5 := Lib.hid (X4.out.trans (ee.mono (fun k hk => hk.elim)))
        have Y5 := Lib.hid (Y4.out.trans (ee.mono (fun k hk => hk.elim)))
        clear ee B4 S4 P4 U4 R4 X4 Y4 hb2
        go_wp2_with fail
        refine behind_normal ⟨(Ex (fun k => k = rs) wr), fun W h => h, YE.out, ?_⟩
        refine Phased.go ?_
        simp only [pick, List.map_cons, List.map_nil, List.getElem?_cons_zero, List.getElem?_cons_succ, Option.getD_some]
        repeat (go_big_quiet_step (fail))
        refine wpQuiet_nil ?_
        clear hne p3
        have q0 : w2.cell? ⟨rs, i * 6 + 2, none⟩ = some (.int .u64 (cu i).next) := (S5.out.cells i HI.out 2 (by decide)).trans (by simp only [subC, PC.sub, if_neg (Nat.lt_irrefl i)])
        have z0 := S5.out.fro (i * 6 + 2)
        have q1 : w2.cell? ⟨rs, i * 6 + 3, none⟩ = some (.int .i64 (cu i).cap) := (S5.out.cells i HI.out 3 (by decide)).trans (by simp only [subC, PC.sub, if_neg (Nat.lt_irrefl i)])
        have z1 := S5.out.fro (i * 6 + 3)
        have q2 : w2.cell? ⟨rs, i * 6 + 4, none⟩ = some (.int .u64 (cu i).got) := (S5.out.cells i HI.out 4 (by decide)).trans (by simp only [subC, PC.sub, if_neg (Nat.lt_irrefl i)])
        have z2 := S5.out.fro (i * 6 + 4)
        have q3 : w2.cell? ⟨rs, i * 6 + 5, none⟩ = some (.int .u64 (cu i).lost) := (S5.out.cells i HI.out 5 (by decide)).trans (by simp only [subC, PC.sub, if_neg (Nat.lt_irrefl i)])
        have z3 := S5.out.fro (i * 6 + 5)
        go_wp2_with fail
        clear q0 z0 q1 z1 q2 z2 q3 z3
        have hss : SubsIn ((((w2.setCell ⟨rs, i * 6 + 2, none⟩ (.int .u64 d.next)).setCell ⟨rs, i * 6 + 3, none⟩ (.int .i64 d.cap)).setCell ⟨rs, i * 6 + 4, none⟩ (.int .u64 d.got)).setCell ⟨rs, i * 6 + 5, none⟩ (.int .u64 d.lost)) rs n (PC.sub ⟨n, T, tn, rk, tp, ix⟩ (fun j => if j < i + 1 then fin j else cu j)) := S5.out.setCur HI.out d (fun j hj => by
          by_cases e : j = i
          · subst e; rw [if_pos rfl, if_pos (by omega)]; exact HD.out
          · rw [if_neg e]
            by_cases e2 : j < i
            · rw [if_pos e2, if_pos (by omega)]
            · rw [if_neg e2, if_neg (by omega)])
        have ZZ := Lib.hid ((((((Ex.refl (fun k => k = rs) w2).setCell (q := ⟨rs, i * 6 + 2, none⟩) (.inl rfl) (.int .u64 d.next)).setCell (q := ⟨rs, i * 6 + 3, none⟩) (.inl rfl) (.int .i64 d.cap)).setCell (q := ⟨rs, i * 6 + 4, none⟩) (.inl rfl) (.int .u64 d.got)).setCell (q := ⟨rs, i * 6 + 5, none⟩) (.inl rfl) (.int .u64 d.lost)))
        have ee : Ex (fun k => k = rs) w2 ((((w2.setCell ⟨rs, i * 6 + 2, none⟩ (.int .u64 d.next)).setCell ⟨rs, i * 6 + 3, none⟩ (.int .i64 d.cap)).setCell ⟨rs, i * 6 + 4, none⟩ (.int .u64 d.got)).setCell ⟨rs, i * 6 + 5, none⟩ (.int .u64 d.lost)) := (((((Ex.refl (fun k => k = rs) w2).setCell (q := ⟨rs, i * 6 + 2, none⟩) (.inl rfl) (.int .u64 d.next)).setCell (q := ⟨rs, i * 6 + 3, none⟩) (.inl rfl) (.int .i64 d.cap)).setCell (q := ⟨rs, i * 6 + 4, none⟩) (.inl rfl) (.int .u64 d.got)).setCell (q := ⟨rs, i * 6 + 5, none⟩) (.inl rfl) (.int .u64 d.lost))
        have B6 := Lib.hid (B5.out.ex ee (by have o_ := ORD2.out; omega))
        have P6 := Lib.hid (P5.out.ex ee (by have o_ := ORD2.out; omega))
        have U6 := Lib.hid (U5.out.ex ee (by have o_ := ORD2.out; omega))
        have R6 := Lib.hid (R5.out.ex ee (fun k hk hT => by have hT : k = rs := hT; have w_ := WAP.out k hk; have o_ := ORD2.out; omega))
        have X6 := Lib.hid (X5.out.trans (ee.mono (fun k hk => by have hk : k = rs := hk; first | (rcases hk with rfl; simp) | omega | exact .inl hk | exact .inr hk | simp only [hk, true_or, or_true])))
        have Y6 := Lib.hid (Y5.out.trans (ee.mono (fun k hk => by have hk : k = rs := hk; first | (rcases hk with rfl; simp) | omega | exact .inl hk | exact .inr hk | simp only [hk, true_or, or_true])))
        have S6 := Lib.hid (hss)
        clear ee B5 S5 P5 U5 R5 X5 Y5 hss
        generalize ((((w2.setCell ⟨rs, i * 6 + 2, none⟩ (.int .u64 d.next)).setCell ⟨rs, i * 6 + 3, none⟩ (.int .i64 d.cap)).setCell ⟨rs, i * 6 + 4, none⟩ (.int .u64 d.got)).setCell ⟨rs, i * 6 + 5, none⟩ (.int .u64 d.lost)) = w3 at *
        have YF := Lib.hid (YE.out.trans ZZ.out)
        refine behind_normal ⟨(Ex (fun k => k = rs) wr), fun W h => h, YF.out, ?_⟩
        refine Phased.end_ ?_
        simp only [pick, List.map_nil]
        refine wpQuiet_nil ?_
        go_wp2_with fail
        go_roundw
        case rel => exact ⟨i + 1, HI.out, HM.out.1, S6.out, Y6.out⟩
        case measure => exact HM.out.2
    · obtain rfl : i = n := by omega
      have kd : decide ((i : Int) < (i : Int)) = false := decide_eq_false (by omega)
      have b0 := BB.out.cell 0
      have b10 := BB.out.cell 10
      simp only [pcs, List.getElem?_toArray, List.getElem?_cons_zero, List.getElem?_cons_succ] at b0 b10
      have z10 := BB.out.frozen 10
      go_wp2_with fail
      have bb : Blk (wr.setCell ⟨o, 10, none⟩ (.int .i64 1)) o 101 (pcs rs i cs rt T ct vw left round next pk gen place size 1 steps begun) := ((BB.out).set_ 10 (.int .i64 1))
      clear b0 b10 z10
      have ee : Ex (fun k => k = o) wr (wr.setCell ⟨o, 10, none⟩ (.int .i64 1)) := ((Ex.refl (fun k => k = o) wr).setCell (q := ⟨o, 10, none⟩) (.inl rfl) (.int .i64 1))
      have S4 := Lib.hid (SS0.out.ex ee (by have o_ := ORD2.out; omega))
      have P4 := Lib.hid (PP.out.ex ee (by have o_ := ORD2.out; omega))
      have U4 := Lib.hid (UU.out.ex ee (by have o_ := ORD2.out; omega))
      have R4 := Lib.hid (RR.out.ex ee (fun k hk hT => by have hT : k = o := hT; have w_ := WAP.out k hk; have o_ := ORD2.out; omega))
      have X4 := Lib.hid (XX.out.trans (ee.mono (fun k hk => by have hk : k = o := hk; first | (rcases hk with rfl; simp) | omega | exact .inl hk | exact .inr hk | simp only [hk, true_or, or_true])))
      have B4 := Lib.hid (bb)
      clear ee BB SS0 PP UU RR XX bb
      generalize (wr.setCell ⟨o, 10, none⟩ (.int .i64 1)) = wz at *
      first | (refine bodyPost_ret (results_none rfl _ _ _) rfl ?_) | go_end0
      exact ⟨rfl, ⟨B4.out, S4.out.congr (fun j hj => by simp only [PC.sub, if_pos hj]), P4.out, R4.out, Nat.lt_of_lt_of_le QL.out X4.out.size, HA.out, WAP.out⟩, X4.out⟩
end Go.Proofs.Ythcaagkgddeabaa.Bank
