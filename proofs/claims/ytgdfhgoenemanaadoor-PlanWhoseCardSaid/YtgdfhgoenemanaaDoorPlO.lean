/-
  Law 6: the document's Of, for every config. Conditions stand at each. By an AI agent; by mkplo.py.
-/
import Derived.Test.YtgdfhgoenemanaaDoorPlN
namespace Go.Proofs.YtgdfhgoenemanaaDoor.Plan
set_option linter.unusedVariables false
set_option linter.unusedSimpArgs false
open Go Go.RowKit Go.Proofs.YtgdfhgoenemanaaDoor.Base
theorem rspot_info : (Tryd.prog.info? 41).map (fun i => (i.zero, i.size, i.bytes)) = some (some (.agg #[.int .i64 0, .int .i64 0, .int .i64 0, .int .i64 0, .int .i64 0]), 5, 40) := by kernel_rfl
theorem rsp_of_own {w : World} {base : Nat} {v : Value} {c : Cf} (h : w.ownsRow base 41 5 v c.n (spsL c c.n)) (hn : 1 ≤ c.n) : ∃ b cp, v = .slice (some ⟨b, 0, none⟩) c.n cp ∧ base ≤ b ∧ SpAt w b c := by
  rcases h.2 with ⟨_, h0⟩ | ⟨g, cap, cur, e, hb, hh, _⟩
  · omega
  · subst e
    refine ⟨g, cap, rfl, hb, (h.lt g rfl).2, fun i hi j hj => ?_⟩
    have h9 := spsL_at c c.n i hi j hj
    have : ∃ u, (spL (spF c i))[j]? = some u := by
      rcases j with _ | _ | _ | _ | _ | j <;> first | exact ⟨_, rfl⟩ | omega
    obtain ⟨u, hu⟩ := this
    rw [hu] at h9 ⊢
    have := h.cells (g := g) rfl (i * 5 + j) u h9
    have e2 : (⟨g, 0, none⟩ : Addr).add (i * 5 + j) = ⟨g, i * 5 + j, none⟩ := by unfold Addr.add; split <;> simp_all
    rwa [e2] at this
def OwnAt (w0 : Nat) (wv wk : Value) : Prop := wk.ownBlock = wv.ownBlock ∨ ∃ b, wk.ownBlock = some b ∧ w0 ≤ b
theorem own_step {n0 n1 : Nat} {wv wk wl : Value} (h : OwnAt n0 wv wk) (p : OwnAt n1 wk wl) (hs : n0 ≤ n1) : OwnAt n0 wv wl := by
  rcases p with e | ⟨b, e, hb⟩
  · rcases h with f | ⟨b, f, hb⟩
    · exact .inl (e.trans f)
    · exact .inr ⟨b, e.trans f, hb⟩
  · exact .inr ⟨b, e, by omega⟩
theorem ex_step {pb rv : Nat} {wv wk : Value} {w0 a b : World} (h : Ex (fun k => k = pb ∨ k = rv ∨ wv.ownBlock = some k) w0 a) (p : Ex (fun k => k = pb ∨ wk.ownBlock = some k) a b) (hat : OwnAt w0.heap.size wv wk) : Ex (fun k => k = pb ∨ k = rv ∨ wv.ownBlock = some k) w0 b :=
  ⟨p.os.trans h.os, p.tape.trans h.tape, p.output.trans h.output, Nat.le_trans h.size p.size, fun k hk hn => (p.block k (Nat.lt_of_lt_of_le hk h.size) (fun ht => by
    rcases ht with e | e
    · exact hn (.inl e)
    · rcases hat with f | ⟨b, f, hb⟩
      · exact hn (.inr (.inr (f ▸ e)))
      · rw [e] at f
        injection f with f
        omega)).trans (h.block k hk hn)⟩
theorem whL_next (c : Cf) (i mn : Nat) (h : (c.l i).words * (c.l i).depth = (mn : Int)) : ((whL c i ++ List.replicate 1 (i : Int)) ++ List.replicate 1 (i : Int)) ++ List.replicate mn (i : Int) = whL c (i + 1) := by
  simp only [whL]
  rw [h, Int.toNat_natCast, List.append_assoc, List.append_assoc]
  rw [List.replicate_append_replicate, List.replicate_append_replicate, show 1 + (1 + mn) = 2 + mn by omega]
theorem rep_zero (c : Cf) (h : 0 ≤ c.log) : ([] ++ List.replicate 1 (-1 : Int)) ++ List.replicate c.log.toNat (-2) = whL c 0 := rfl
set_option maxRecDepth 100000 in
set_option maxHeartbeats 16000000 in
theorem refOf_any (c : Cf) (A : Option Addr) (k : Nat) (w : World) (ht : Tcs w A c.n c.l) (hn : c.n ≤ 1000) :
    Calls Tryd.prog 12 #[cfV c A k] w fun e w' => Below w.heap.size w w' ∧
      (((faultF c).2 ≠ 0 ∧ e = .returned (.tuple #[.pointer none, .int .i64 (faultF c).2])) ∨
       ((faultF c).2 = 0 ∧ ∃ pb sb cp wb cw, e = .returned (.tuple #[.pointer (some ⟨pb, 0, none⟩), .int .i64 0]) ∧ w.heap.size ≤ pb ∧ Blk w' pb 39 (rpC 0 1 c.log (.slice (some ⟨sb, 0, none⟩) c.n cp) (.slice (some ⟨wb, 0, none⟩) (whL c c.n).length cw)) ∧ SpAt w' sb c ∧ IntsIn w' .i64 wb cw (whL c c.n))) := by
  have HT := Lib.hid ht
  have HN := Lib.hid hn
  clear ht hn
  obtain ⟨fa, hfa⟩ : ∃ z, (faultF c).1 = z := ⟨_, rfl⟩
  obtain ⟨fb, hfb⟩ : ∃ z, (faultF c).2 = z := ⟨_, rfl⟩
  rw [hfb]
  have HFA := Lib.hid hfa
  have HFB := Lib.hid hfb
  clear hfa hfb
  have HC := Lib.hid (fun W hW => refCheck_any c A k W hW HN.out)
  unfold cfV at HC ⊢
  rw [HFA.out, HFB.out] at HC
  go_enter Tryd.func12, Tryd.ntmps12
  go_upto_region 1 with fail
  obtain ⟨B, hB⟩ : ∃ B, w.heap.size = B := ⟨_, rfl⟩
  have hcb : Blk (w.alloc (.cells #[.int .i64 c.tasks, .slice A c.n k, .int .i64 c.tries, .int .i64 c.log] 24)) B 24 #[.int .i64 c.tasks, .slice A c.n k, .int .i64 c.tries, .int .i64 c.log] := hB ▸ (Blk.new w 24 #[.int .i64 c.tasks, .slice A c.n k, .int .i64 c.tries, .int .i64 c.log])
  have hl : Below w.heap.size w (w.alloc (.cells #[.int .i64 c.tasks, .slice A c.n k, .int .i64 c.tries, .int .i64 c.log] 24)) := (Below.refl w.heap.size w).alloc (Nat.le_refl _) _
  simp only [hB] at ⊢
  have CB := Lib.hid hcb
  have L0 := Lib.hid hl
  have HB := Lib.hid hB
  clear hcb hl
  generalize (w.alloc (.cells #[.int .i64 c.tasks, .slice A c.n k, .int .i64 c.tries, .int .i64 c.log] 24)) = w0 at *
  have TB := Lib.hid (show TcsB B w0 A c.n c.l by rw [← hB]; exact HT.out.to_b L0.out)
  clear hB
  have g0 := CB.out.cell 0
  have g1 := CB.out.cell 1
  have g2 := CB.out.cell 2
  have g3 := CB.out.cell 3
  simp only [List.getElem?_toArray, List.getElem?_cons_succ, List.getElem?_cons_zero] at g0 g1 g2 g3
  go_wp2_with fail
  refine (HC.out w0 (TB.out.tcs (by have := CB.out.lt; omega))).mono ?_; rintro e w1 ⟨rfl, hl1⟩
  have CB1 := Lib.hid (CB.out.bl hl1)
  have TB1 := Lib.hid (TB.out.ex (T := fun _ => False) (Ex.of_below hl1) (fun b hb => hb.elim))
  have L1 := Lib.hid (bl L0.out hl1)
  have Z1 := Lib.hid (show B < w1.heap.size from CB1.out.lt)
  clear hl1 g0 g1 g2 g3 CB TB L0 HC
  by_cases hb0 : fb = 0
  case neg =>
    have kb : (fb == 0) = false := beq_eq_false_iff_ne.2 hb0
    have kbn : (fb != 0) = true := by simp [hb0]
    have HB0 := Lib.hid hb0
    clear hb0
    go_upto_region 3 with fail
    have FV := Lib.hid (Blk.new w1 63 #[.int .i64 fa, .int .i64 fb])
    have L2 := Lib.hid (L1.out.alloc L1.out.size (.cells #[.int .i64 fa, .int .i64 fb] 63))
    generalize hw2 : (w1.alloc (.cells #[.int .i64 fa, .int .i64 fb] 63)) = w2 at *
    generalize w1.heap.size = fv at *
    clear hw2 kb kbn
    have hne : Nonempty (Held (fun W => W = w2.drew)) := ⟨⟨_, rfl⟩⟩
    have p1 : ∀ y : Held (fun W => W = w2.drew), y.w.cell? ⟨fv, 1, none⟩ = some (.int .i64 fb) := fun y => by rw [y.ok]; exact FV.out.cell 1
    refine drawn_bars (S := fun _ => True) [] [0, 1, 2, 3] (by kernel_rfl) (by kernel_rfl) (by kernel_rfl) rfl trivial ?_
    refine Phased.end_ ?_
    simp only [pick, List.map_cons, List.map_nil, List.getElem?_cons_zero, List.getElem?_cons_succ, Option.getD_some]
    repeat (go_big_quiet_step (fail))
    refine wpQuiet_nil ?_
    clear hne p1
    have L3 := Lib.hid L2.out.drew
    generalize w2.drew = w3 at *
    go_wp2_with fail
    go_ret2
    exact ⟨L3.out, .inl ⟨HB0.out, rfl⟩⟩
  case pos =>
    subst hb0
    have hok := fault_ok (c := c) HFB.out
    have OK := Lib.hid hok.2
    have hfa := HFA.out
    rw [hok.1] at hfa
    simp only at hfa
    subst hfa
    clear hok
    have g3 : (w1.alloc (.cells #[.int .i64 0, .int .i64 0] 63)).cell? ⟨B, 3, none⟩ = some (.int .i64 c.log) := by rw [(CB1.out.alloc _).cell]; rfl
    go_upto_region 5 with fail
    obtain ⟨pb, hpb⟩ : ∃ z, w1.heap.size + 1 = z := ⟨_, rfl⟩
    have z2 : (w1.alloc (.cells #[.int .i64 0, .int .i64 0] 63)).heap.size = pb := by rw [← hpb]; simp
    have hn : Blk ((w1.alloc (.cells #[.int .i64 0, .int .i64 0] 63)).alloc (.cells #[.int .i64 0, .int .i64 0, .int .i64 c.log, .slice none 0 0, .slice none 0 0] 39)) pb 39 (rpC 0 0 c.log (.slice none 0 0) (.slice none 0 0)) := z2 ▸ Blk.new (w1.alloc (.cells #[.int .i64 0, .int .i64 0] 63)) 39 #[.int .i64 0, .int .i64 0, .int .i64 c.log, .slice none 0 0, .slice none 0 0]
    have hl2 : Below w1.heap.size w1 ((w1.alloc (.cells #[.int .i64 0, .int .i64 0] 63)).alloc (.cells #[.int .i64 0, .int .i64 0, .int .i64 c.log, .slice none 0 0, .slice none 0 0] 39)) := ((Below.refl w1.heap.size w1).alloc (Nat.le_refl _) _).alloc (by simp) _
    have PB := Lib.hid hn
    have CB2 := Lib.hid (CB1.out.bl hl2)
    have TB2 := Lib.hid (TB1.out.ex (T := fun _ => False) (Ex.of_below hl2) (fun b hb => hb.elim))
    have L2 := Lib.hid (bl L1.out hl2)
    have ORD0 := Lib.hid (show B < pb ∧ w.heap.size = B from ⟨by have := Z1.out; omega, HB.out⟩)
    simp only [hpb]
    clear hn hl2 z2 CB1 TB1 L1 Z1 hpb g3
    generalize ((w1.alloc (.cells #[.int .i64 0, .int .i64 0] 63)).alloc (.cells #[.int .i64 0, .int .i64 0, .int .i64 c.log, .slice none 0 0, .slice none 0 0] 39)) = w5 at *
    obtain ⟨Bs, hBs⟩ : ∃ z, w5.heap.size = z := ⟨_, rfl⟩
    have ORD := Lib.hid (show B < pb ∧ w.heap.size = B ∧ pb < Bs ∧ Bs ≤ w5.heap.size from ⟨ORD0.out.1, ORD0.out.2, by have := PB.out.lt; omega, by omega⟩)
    have HLOG := Lib.hid OK.out.log
    have HN64 := Lib.hid OK.out.n
    clear ORD0 hBs
    obtain ⟨lg, hlg⟩ : ∃ z : Nat, c.log = (z : Int) := ⟨c.log.toNat, by have := HLOG.out; omega⟩
    have HLG := Lib.hid hlg
    clear hlg
    have p0 := PB.out.cell 0
    have f0 := PB.out.frozen 0
    simp only [rpC, List.getElem?_toArray, List.getElem?_cons_succ, List.getElem?_cons_zero] at p0
    go_wp2_with fail
    refine (refLay_any pb Bs 0 1 0 0 c.log (-1) (.slice none 0 0) (.slice none 0 0) [] w5 PB.out (World.ownsRow_nil _ _ _ _) (by have := ORD.out; omega) (by omega)).mono ?_; rintro e w6 ⟨rfl, wv1, hpb6, how6, hex6, hat6⟩
    have EX6 := Lib.hid (show Ex (fun b => b = pb) w5 w6 from hex6.mono (fun b hb => by rcases hb with hb | hb; exact hb; cases hb))
    have PB6 := Lib.hid hpb6
    have OW6 := Lib.hid how6
    have p06 := hpb6.cell 0
    have f06 := hpb6.frozen 0
    simp only [rpC, List.getElem?_toArray, List.getElem?_cons_succ, List.getElem?_cons_zero] at p06
    clear hpb6 how6 hex6 hat6 p0 f0 PB
    have PB7 := Lib.hid (show Blk (w6.setCell ⟨pb, 0, none⟩ (.int .i64 0)) pb 39 (rpC 0 0 c.log (.slice none 0 0) wv1) from PB6.out.set_ 0 _)
    have hx7 : Ex (fun b => b = pb) w6 (w6.setCell ⟨pb, 0, none⟩ (.int .i64 0)) := (Ex.refl (fun b => b = pb) w6).setCell (q := ⟨pb, 0, none⟩) (.inl rfl) _
    have EX7 := Lib.hid (EX6.out.trans hx7)
    have OW7 := Lib.hid (ownsRow_ex OW6.out hx7 (fun b hb ht => by have h1 := (OW6.out.lt b hb).1; have := ORD.out; omega))
    have CB7 := Lib.hid (CB2.out.ex EX7.out (by have := ORD.out; omega))
    clear hx7 PB6 OW6 EX6
    go_upto_region 6 with fail
    clear p06 f06
    generalize (w6.setCell ⟨pb, 0, none⟩ (.int .i64 0)) = w7 at *
    have p07 := PB7.out.cell 0
    have p17 := PB7.out.cell 1
    have g37 := CB7.out.cell 3
    simp only [rpC, List.getElem?_toArray, List.getElem?_cons_succ, List.getElem?_cons_zero] at p07 p17
    simp only [List.getElem?_toArray, List.getElem?_cons_succ, List.getElem?_cons_zero] at g37
    rw [HLG.out] at g37
    go_wp2_with fail
    have hlay := refLay_any pb Bs (0 + 1) lg 0 0 c.log (-2) (.slice none 0 0) wv1 ([] ++ List.replicate 1 (-1)) w7 PB7.out OW7.out (by have := ORD.out; have := EX7.out.size; omega) (by have := HLOG.out; have := HLG.out; omega)
    refine hlay.mono ?_; rintro e w8 ⟨rfl, wv2, hpb8, how8, hex8, hat8⟩
    have hE : ∀ b, (b = pb ∨ wv1.ownBlock = some b) → b = pb ∨ Bs ≤ b := fun b hb => by rcases hb with hb | hb; exact .inl hb; exact .inr (OW7.out.lt b hb).1
    have EX8 := Lib.hid (show Ex (fun b => b = pb ∨ Bs ≤ b) w5 w8 from (EX7.out.mono (fun b hb => .inl hb)).trans (hex8.mono hE))
    have PB8 := Lib.hid hpb8
    have OW8 := Lib.hid how8
    have p18 := hpb8.cell 1
    have f18 := hpb8.frozen 1
    have p08 := hpb8.cell 0
    simp only [rpC, List.getElem?_toArray, List.getElem?_cons_succ, List.getElem?_cons_zero] at p18 p08
    clear hlay hpb8 how8 hex8 hat8 hE p07 p17 g37 PB7 OW7 EX7 CB7
    have PB9 := Lib.hid (show Blk (w8.setCell ⟨pb, 1, none⟩ (.int .i64 1)) pb 39 (rpC 0 1 c.log (.slice none 0 0) wv2) from PB8.out.set_ 1 _)
    have hx9 : Ex (fun b => b = pb) w8 (w8.setCell ⟨pb, 1, none⟩ (.int .i64 1)) := (Ex.refl (fun b => b = pb) w8).setCell (q := ⟨pb, 1, none⟩) (.inl rfl) _
    have EX9 := Lib.hid (EX8.out.trans (hx9.mono (fun b hb => .inl hb)))
    have OW9 := Lib.hid (show (w8.setCell ⟨pb, 1, none⟩ (.int .i64 1)).ownsRow Bs 3 1 wv2 (whL c 0).length ((whL c 0).map (Value.int .i64)) by
      have h9 := ownsRow_ex OW8.out hx9 (fun b hb ht => by have h1 := (OW8.out.lt b hb).1; have := ORD.out; omega)
      have e1 : ([] ++ List.replicate 1 (-1 : Int)) ++ List.replicate lg (-2) = whL c 0 := by simp only [whL]; rw [HLG.out, Int.toNat_natCast]; rfl
      rw [e1] at h9
      rw [show (whL c 0).length = 0 + 1 + lg by rw [← e1]; simp; omega]
      exact h9)
    clear hx9 PB8 OW8 EX8
    go_upto_region 7 with fail
    clear p18 f18 p08
    generalize (w8.setCell ⟨pb, 1, none⟩ (.int .i64 1)) = w9 at *
    have CB9 := Lib.hid (CB2.out.ex EX9.out (by have := ORD.out; omega))
    have L9 := Lib.hid (Ex.below L2.out EX9.out (fun b hb => by have := ORD.out; omega))
    have HBS := Lib.hid (show Bs ≤ w9.heap.size by have := ORD.out; have := EX9.out.size; omega)
    obtain ⟨tb, tof, hA, htb, htc⟩ := TB2.out (by have := HN64.out; omega)
    subst hA
    have TC9 := Lib.hid (show TcC w9 tb tof c.n c.l from (show TcC w5 tb tof c.n c.l from htc).ex EX9.out (by have := ORD.out; omega))
    have HTB := Lib.hid htb
    clear htb htc TB2 CB2 L2 EX9
    obtain ⟨i0_, hi0, hz0, hz1, hz2⟩ := info_parts rspot_info
    go_wp2_with fail
    go_loopw [6, 7, 8] (fun s6 s7 s8 wr => ∃ (i : Nat) (sv wv : Value), i ≤ c.n ∧ s6 = .int .i64 i ∧ TcC wr tb tof c.n c.l ∧ Blk wr B 24 #[.int .i64 c.tasks, .slice (some ⟨tb, tof, none⟩) c.n k, .int .i64 c.tries, .int .i64 c.log] ∧ Blk wr pb 39 (rpC 0 1 c.log sv wv) ∧ wr.ownsRow Bs 41 5 sv i (spsL c i) ∧ wr.ownsRow Bs 3 1 wv (whL c i).length ((whL c i).map (Value.int .i64)) ∧ (∀ b, sv.ownBlock = some b → wv.ownBlock ≠ some b) ∧ Bs ≤ wr.heap.size ∧ Below w.heap.size w wr) (fun s6 s7 s8 _ => c.n + 1 - (intOf s6).toNat)
    case atStart => exact ⟨0, .slice none 0 0, wv2, by omega, rfl, TC9.out, CB9.out, PB9.out, World.ownsRow_nil _ _ _ _, OW9.out, (fun b hb => by cases hb), HBS.out, L9.out⟩
    case round =>
      clear TC9 CB9 PB9 OW9 HBS L9
      obtain ⟨i, sv, wv, hi, rfl, htc, hcb, hpb, hos, how, hds, hbs, hl⟩ := hrel
      have TC := Lib.hid htc
      have CB := Lib.hid hcb
      have PB := Lib.hid hpb
      have OS := Lib.hid hos
      have OW := Lib.hid how
      have DS := Lib.hid hds
      have HBS := Lib.hid hbs
      have L0 := Lib.hid hl
      have g1 := CB.out.cell 1
      simp only [List.getElem?_toArray, List.getElem?_cons_succ, List.getElem?_cons_zero] at g1
      clear htc hcb hpb hos how hds hbs hl
      by_cases hlt : i < c.n
      · have kd : decide ((i : Int) < (c.n : Int)) = true := decide_eq_true (by omega)
        have kdn : decide (i < c.n) = true := decide_eq_true hlt
        have kdm : i < c.n := hlt
        have ki0 : (0 : Int) ≤ (i : Int) := by omega
        have ki1 : (i : Int) < (c.n : Int) := by omega
        have ki5 : (i : Int) ≤ 1000 := by have := HN64.out; omega
        obtain ⟨t0, t1, t2⟩ := TC.out i hlt
        obtain ⟨nm, hnm⟩ : ∃ z, (c.l i).nm = z := ⟨_, rfl⟩
        obtain ⟨wo, hwo⟩ : ∃ z, (c.l i).words = z := ⟨_, rfl⟩
        obtain ⟨de, hde⟩ : ∃ z, (c.l i).depth = z := ⟨_, rfl⟩
        have hb := OK.out.l i hlt
        rw [hwo, hde] at hb
        have hpr := prod_bounds hb
        obtain ⟨m, hm⟩ : ∃ z : Nat, wo * de = (z : Int) := ⟨(wo * de).toNat, by omega⟩
        rw [hm] at hpr
        have hkm : wrap64 (wo * de) = (m : Int) := by rw [hm]; unfold wrap64; omega
        have hof := offP_bounds OK.out i (by omega)
        have hwl := whL_len OK.out i (by omega)
        have hnx := whL_next c i m (by rw [hwo, hde]; exact hm)
        have hsp : spL (spF c i) = [.int .i64 (offP c i), .int .i64 (offP c i + 1), .int .i64 (offP c i + 2), .int .i64 wo, .int .i64 de] := by rw [← hwo, ← hde]; rfl
        obtain ⟨f, hf⟩ : ∃ z : Nat, (whL c i).length = z := ⟨_, rfl⟩
        rw [hf] at hwl OW
        rw [← hwl] at hof hsp
        have HF := Lib.hid (show f ≤ 70000 by have := HN64.out; have := HLOG.out; omega)
        have HPR := Lib.hid hpr
        have HNX := Lib.hid hnx
        have HSP := Lib.hid hsp
        have HLF := Lib.hid hf
        have HI := Lib.hid hlt
        rw [hnm] at t0
        rw [hwo] at t1
        rw [hde] at t2
        clear hnm hwo hde hb hpr hof hwl hnx hsp hf hlt hi hm
        go_upto_region 12 with fail
        have TV := Lib.hid ((Blk.new wr 59 #[.string nm, .int .i64 wo, .int .i64 de]).alloc (.cells #[.int .i64 0, .int .i64 0, .int .i64 0, .int .i64 wo, .int .i64 de] 41))
        have RV := Lib.hid (show Blk ((wr.alloc (.cells #[.string nm, .int .i64 wo, .int .i64 de] 59)).alloc (.cells #[.int .i64 0, .int .i64 0, .int .i64 0, .int .i64 wo, .int .i64 de] 41)) (wr.heap.size + 1) 41 #[.int .i64 0, .int .i64 0, .int .i64 0, .int .i64 wo, .int .i64 de] by have h9 := Blk.new (wr.alloc (.cells #[.string nm, .int .i64 wo, .int .i64 de] 59)) 41 #[.int .i64 0, .int .i64 0, .int .i64 0, .int .i64 wo, .int .i64 de]; simpa using h9)
        have hl2 : Below wr.heap.size wr ((wr.alloc (.cells #[.string nm, .int .i64 wo, .int .i64 de] 59)).alloc (.cells #[.int .i64 0, .int .i64 0, .int .i64 0, .int .i64 wo, .int .i64 de] 41)) := ((Below.refl wr.heap.size wr).alloc (Nat.le_refl _) _).alloc (by simp) _
        have he2 : Ex (fun _ => False) wr ((wr.alloc (.cells #[.string nm, .int .i64 wo, .int .i64 de] 59)).alloc (.cells #[.int .i64 0, .int .i64 0, .int .i64 0, .int .i64 wo, .int .i64 de] 41)) := Ex.of_below hl2
        obtain ⟨tv, htv⟩ : ∃ z, wr.heap.size = z := ⟨_, rfl⟩
        have PB2 := Lib.hid (PB.out.bl hl2)
        have OS2 := Lib.hid (ownsRow_ex OS.out he2 (fun _ _ h => h))
        have OW2 := Lib.hid (ownsRow_ex OW.out he2 (fun _ _ h => h))
        have CB2 := Lib.hid (CB.out.bl hl2)
        have TC2 := Lib.hid (TC.out.ex he2 (fun h => h))
        have L2 := Lib.hid (bl L0.out hl2)
        have HBS2 := Lib.hid (Nat.le_trans HBS.out hl2.size)
        have ORD3 := Lib.hid (show Bs ≤ tv ∧ (∀ b, sv.ownBlock = some b → Bs ≤ b ∧ b < tv) ∧ (∀ b, wv.ownBlock = some b → Bs ≤ b ∧ b < tv) from ⟨by rw [← htv]; exact HBS.out, (fun b hb => by rw [← htv]; exact OS.out.lt b hb), fun b hb => by rw [← htv]; exact OW.out.lt b hb⟩)
        have Z7 := Lib.hid (show tv + 1 < ((wr.alloc (.cells #[.string nm, .int .i64 wo, .int .i64 de] 59)).alloc (.cells #[.int .i64 0, .int .i64 0, .int .i64 0, .int .i64 wo, .int .i64 de] 41)).heap.size by simp; omega)
        rw [htv] at TV RV
        simp only [htv]
        clear hl2 he2 htv PB OS OW CB TC L0 HBS t0 t1 t2 g1
        generalize ((wr.alloc (.cells #[.string nm, .int .i64 wo, .int .i64 de] 59)).alloc (.cells #[.int .i64 0, .int .i64 0, .int .i64 0, .int .i64 wo, .int .i64 de] 41)) = w7 at *
        have EX_0 := Lib.hid (Ex.refl (fun b => b = pb ∨ b = tv + 1 ∨ wv.ownBlock = some b) w7)
        have AT_0 := Lib.hid (show OwnAt w7.heap.size wv wv from .inl rfl)
        have PB_0 := Lib.hid PB2.out
        have OW_0 := Lib.hid OW2.out
        have RV_0 := Lib.hid RV.out
        have TV_0 := Lib.hid TV.out
        have HNP := Lib.hid (show tv + 1 ≠ pb ∧ tv ≠ pb ∧ tv < tv + 1 by have := ORD3.out.1; have := ORD.out; omega)
        have HRV := Lib.hid (show ∀ wk, OwnAt w7.heap.size wv wk → ∀ b, wk.ownBlock = some b → b ≠ tv ∧ b ≠ tv + 1 from fun wk h b hb => by
          rcases h with e | ⟨b2, e, h2⟩
          · have := ORD3.out.2.2 b (e ▸ hb); omega
          · rw [hb] at e; injection e with e; have := Z7.out; omega)
        clear PB2 OW2 RV TV
        go_wp2_with fail
        refine (refLay_any pb Bs (f) 1 0 1 c.log (i : Int) sv wv ((whL c i)) w7 PB_0.out OW_0.out (by have := ORD.out; have := HBS2.out; have := EX_0.out.size; omega) (by have := HF.out; have := HPR.out; omega)).mono ?_; rintro e a1 ⟨rfl, wk1, hpb_, how_, hex_, hat_⟩
        have EXa_0 := Lib.hid (ex_step EX_0.out hex_ AT_0.out)
        have hTn : ∀ b, (b = pb ∨ (wv).ownBlock = some b) → b ≠ tv ∧ b ≠ tv + 1 := fun b hb => by rcases hb with hb | hb; (have := HNP.out; omega); exact HRV.out _ AT_0.out b hb
        have AT_1 := Lib.hid (own_step AT_0.out hat_ EX_0.out.size)
        have PBa_0 := Lib.hid hpb_
        have OWa_0 := Lib.hid how_
        have RVa_0 := Lib.hid (RV_0.out.ex hex_ (fun hb => (hTn _ hb).2 rfl))
        have TVa_0 := Lib.hid (TV_0.out.ex hex_ (fun hb => (hTn _ hb).1 rfl))
        have r0 := RVa_0.out.cell 0
        have rf := RVa_0.out.frozen 0
        simp only [List.getElem?_toArray, List.getElem?_cons_succ, List.getElem?_cons_zero] at r0
        clear hpb_ how_ hex_ hat_ hTn
        have hx_ : Ex (fun b => b = tv + 1) a1 (a1.setCell ⟨tv + 1, 0, none⟩ (.int .i64 (f : Int))) := (Ex.refl (fun b => b = tv + 1) a1).setCell (q := ⟨tv + 1, 0, none⟩) (.inl rfl) _
        have EX_1 := Lib.hid (show Ex (fun b => b = pb ∨ b = tv + 1 ∨ wv.ownBlock = some b) w7 (a1.setCell ⟨tv + 1, 0, none⟩ (.int .i64 (f : Int))) from EXa_0.out.trans (hx_.mono (fun b hb => .inr (.inl hb))))
        have PB_1 := Lib.hid (PBa_0.out.ex hx_ (by have := HNP.out; omega))
        have OW_1 := Lib.hid (ownsRow_ex OWa_0.out hx_ (fun b hb ht => (HRV.out _ AT_1.out b hb).2 ht))
        have RV_1 := Lib.hid (show Blk (a1.setCell ⟨tv + 1, 0, none⟩ (.int .i64 (f : Int))) (tv + 1) 41 #[.int .i64 (f : Int), .int .i64 0, .int .i64 0, .int .i64 wo, .int .i64 de] from RVa_0.out.set_ 0 _)
        have TV_1 := Lib.hid (TVa_0.out.ex hx_ (by have := HNP.out; omega))
        clear hx_ PBa_0 OWa_0 RVa_0 TVa_0 EXa_0 EX_0 AT_0 PB_0 OW_0 RV_0 TV_0
        go_upto_region 13 with fail
        clear r0 rf
        generalize (a1.setCell ⟨tv + 1, 0, none⟩ (.int .i64 (f : Int))) = b1 at *
        go_wp2_with fail
        refine (refLay_any pb Bs (f + 1) 1 0 1 c.log (i : Int) sv wk1 ((whL c i) ++ List.replicate 1 (i : Int)) b1 PB_1.out OW_1.out (by have := ORD.out; have := HBS2.out; have := EX_1.out.size; omega) (by have := HF.out; have := HPR.out; omega)).mono ?_; rintro e a2 ⟨rfl, wk2, hpb_, how_, hex_, hat_⟩
        have EXa_1 := Lib.hid (ex_step EX_1.out hex_ AT_1.out)
        have hTn : ∀ b, (b = pb ∨ (wk1).ownBlock = some b) → b ≠ tv ∧ b ≠ tv + 1 := fun b hb => by rcases hb with hb | hb; (have := HNP.out; omega); exact HRV.out _ AT_1.out b hb
        have AT_2 := Lib.hid (own_step AT_1.out hat_ EX_1.out.size)
        have PBa_1 := Lib.hid hpb_
        have OWa_1 := Lib.hid how_
        have RVa_1 := Lib.hid (RV_1.out.ex hex_ (fun hb => (hTn _ hb).2 rfl))
        have TVa_1 := Lib.hid (TV_1.out.ex hex_ (fun hb => (hTn _ hb).1 rfl))
        have r0 := RVa_1.out.cell 1
        have rf := RVa_1.out.frozen 1
        simp only [List.getElem?_toArray, List.getElem?_cons_succ, List.getElem?_cons_zero] at r0
        clear hpb_ how_ hex_ hat_ hTn
        have hx_ : Ex (fun b => b = tv + 1) a2 (a2.setCell ⟨tv + 1, 1, none⟩ (.int .i64 ((f : Int) + 1))) := (Ex.refl (fun b => b = tv + 1) a2).setCell (q := ⟨tv + 1, 1, none⟩) (.inl rfl) _
        have EX_2 := Lib.hid (show Ex (fun b => b = pb ∨ b = tv + 1 ∨ wv.ownBlock = some b) w7 (a2.setCell ⟨tv + 1, 1, none⟩ (.int .i64 ((f : Int) + 1))) from EXa_1.out.trans (hx_.mono (fun b hb => .inr (.inl hb))))
        have PB_2 := Lib.hid (PBa_1.out.ex hx_ (by have := HNP.out; omega))
        have OW_2 := Lib.hid (ownsRow_ex OWa_1.out hx_ (fun b hb ht => (HRV.out _ AT_2.out b hb).2 ht))
        have RV_2 := Lib.hid (show Blk (a2.setCell ⟨tv + 1, 1, none⟩ (.int .i64 ((f : Int) + 1))) (tv + 1) 41 #[.int .i64 (f : Int), .int .i64 ((f : Int) + 1), .int .i64 0, .int .i64 wo, .int .i64 de] from RVa_1.out.set_ 1 _)
        have TV_2 := Lib.hid (TVa_1.out.ex hx_ (by have := HNP.out; omega))
        clear hx_ PBa_1 OWa_1 RVa_1 TVa_1 EXa_1 EX_1 AT_1 PB_1 OW_1 RV_1 TV_1
        go_upto_region 14 with fail
        clear r0 rf
        generalize (a2.setCell ⟨tv + 1, 1, none⟩ (.int .i64 ((f : Int) + 1))) = b2 at *
        have u1 := TV_2.out.cell 1
        have u2 := TV_2.out.cell 2
        simp only [List.getElem?_toArray, List.getElem?_cons_succ, List.getElem?_cons_zero] at u1 u2
        go_wp2_with fail
        refine (refLay_any pb Bs (f + 1 + 1) m 0 1 c.log (i : Int) sv wk2 ((whL c i) ++ List.replicate 1 (i : Int) ++ List.replicate 1 (i : Int)) b2 PB_2.out OW_2.out (by have := ORD.out; have := HBS2.out; have := EX_2.out.size; omega) (by have := HF.out; have := HPR.out; omega)).mono ?_; rintro e a3 ⟨rfl, wk3, hpb_, how_, hex_, hat_⟩
        have EXa_2 := Lib.hid (ex_step EX_2.out hex_ AT_2.out)
        have hTn : ∀ b, (b = pb ∨ (wk2).ownBlock = some b) → b ≠ tv ∧ b ≠ tv + 1 := fun b hb => by rcases hb with hb | hb; (have := HNP.out; omega); exact HRV.out _ AT_2.out b hb
        have AT_3 := Lib.hid (own_step AT_2.out hat_ EX_2.out.size)
        have PBa_2 := Lib.hid hpb_
        have OWa_2 := Lib.hid how_
        have RVa_2 := Lib.hid (RV_2.out.ex hex_ (fun hb => (hTn _ hb).2 rfl))
        have TVa_2 := Lib.hid (TV_2.out.ex hex_ (fun hb => (hTn _ hb).1 rfl))
        have r0 := RVa_2.out.cell 2
        have rf := RVa_2.out.frozen 2
        simp only [List.getElem?_toArray, List.getElem?_cons_succ, List.getElem?_cons_zero] at r0
        clear hpb_ how_ hex_ hat_ hTn u1 u2
        have hx_ : Ex (fun b => b = tv + 1) a3 (a3.setCell ⟨tv + 1, 2, none⟩ (.int .i64 ((f : Int) + 1 + 1))) := (Ex.refl (fun b => b = tv + 1) a3).setCell (q := ⟨tv + 1, 2, none⟩) (.inl rfl) _
        have EX_3 := Lib.hid (show Ex (fun b => b = pb ∨ b = tv + 1 ∨ wv.ownBlock = some b) w7 (a3.setCell ⟨tv + 1, 2, none⟩ (.int .i64 ((f : Int) + 1 + 1))) from EXa_2.out.trans (hx_.mono (fun b hb => .inr (.inl hb))))
        have PB_3 := Lib.hid (PBa_2.out.ex hx_ (by have := HNP.out; omega))
        have OW_3 := Lib.hid (ownsRow_ex OWa_2.out hx_ (fun b hb ht => (HRV.out _ AT_3.out b hb).2 ht))
        have RV_3 := Lib.hid (show Blk (a3.setCell ⟨tv + 1, 2, none⟩ (.int .i64 ((f : Int) + 1 + 1))) (tv + 1) 41 #[.int .i64 (f : Int), .int .i64 ((f : Int) + 1), .int .i64 ((f : Int) + 1 + 1), .int .i64 wo, .int .i64 de] from RVa_2.out.set_ 2 _)
        have TV_3 := Lib.hid (TVa_2.out.ex hx_ (by have := HNP.out; omega))
        clear hx_ PBa_2 OWa_2 RVa_2 TVa_2 EXa_2 EX_2 AT_2 PB_2 OW_2 RV_2 TV_2
        go_upto_region 15 with fail
        clear r0 rf
        generalize (a3.setCell ⟨tv + 1, 2, none⟩ (.int .i64 ((f : Int) + 1 + 1))) = b3 at *
        have hX := EX_3.out
        have OS3 := Lib.hid (ownsRow_ex OS2.out hX (fun b hb ht => by
          have h1 := ORD3.out.2.1 b hb
          have := ORD.out
          rcases ht with e | e | e
          · omega
          · omega
          · exact DS.out b hb e))
        have CB3 := Lib.hid (CB2.out.ex hX (fun ht => by
          have := ORD.out
          rcases ht with e | e | e
          · omega
          · have := ORD3.out.1; omega
          · have := ORD3.out.2.2 _ e; omega))
        have TC3 := Lib.hid (TC2.out.ex hX (fun ht => by
          have := ORD.out
          have := HTB.out
          rcases ht with e | e | e
          · omega
          · have := ORD3.out.1; omega
          · have := ORD3.out.2.2 _ e; omega))
        have L3 := Lib.hid (Ex.below L2.out hX (fun b ht => by
          have := ORD.out
          rcases ht with e | e | e
          · omega
          · have := ORD3.out.1; omega
          · have := ORD3.out.2.2 _ e; omega))
        have HBS3 := Lib.hid (Nat.le_trans HBS2.out hX.size)
        have OW4 := Lib.hid (show b3.ownsRow Bs 3 1 wk3 (whL c (i + 1)).length ((whL c (i + 1)).map (Value.int .i64)) by
          have h9 := OW_3.out
          rw [HNX.out] at h9
          rw [show (whL c (i + 1)).length = f + 1 + 1 + m by rw [← HNX.out]; simp only [List.length_append, List.length_replicate, HLF.out]]
          exact h9)
        have DS3 := Lib.hid (show ∀ b, sv.ownBlock = some b → wk3.ownBlock ≠ some b from fun b hb he => by
          rcases AT_3.out with e | ⟨b2, e, h2⟩
          · exact DS.out b hb (e ▸ he)
          · rw [he] at e; injection e with e; have := ORD3.out.2.1 b hb; have := Z7.out; omega)
        have HNL := Lib.hid (show [Value.int .i64 (f : Int), .int .i64 ((f : Int) + 1), .int .i64 ((f : Int) + 1 + 1), .int .i64 wo, .int .i64 de] = spL (spF c i) by rw [HSP.out, show (f : Int) + 2 = (f : Int) + 1 + 1 by omega])
        clear hX OW_3 EX_3 OS2 CB2 TC2 L2 HBS2
        have HS3 := Lib.hid (show ∀ b, (b = pb ∨ sv.ownBlock = some b) → b ≠ tv + 1 from fun b hb => by rcases hb with hb | hb; (have := HNP.out; omega); (have := ORD3.out.2.1 b hb; omega))
        have hne : Nonempty (Held (Ex (fun b => b = pb ∨ sv.ownBlock = some b) b3)) := ⟨⟨b3, Ex.refl _ _⟩⟩
        have HPX := Lib.hid (show ¬ (sv.ownBlock = some pb) from fun hb => by have := ORD3.out.2.1 _ hb; have := ORD.out; omega)
        have s0 : ∀ y : Held (Ex (fun b => b = pb ∨ sv.ownBlock = some b) b3), y.w.cell? ⟨tv + 1, 0, none⟩ = some (.int .i64 (f : Int)) := fun y => by rw [(RV_3.out.ex y.ok (fun ht => HS3.out _ ht rfl)).cell]; rfl
        have s1 : ∀ y : Held (Ex (fun b => b = pb ∨ sv.ownBlock = some b) b3), y.w.cell? ⟨tv + 1, 1, none⟩ = some (.int .i64 ((f : Int) + 1)) := fun y => by rw [(RV_3.out.ex y.ok (fun ht => HS3.out _ ht rfl)).cell]; rfl
        have s2 : ∀ y : Held (Ex (fun b => b = pb ∨ sv.ownBlock = some b) b3), y.w.cell? ⟨tv + 1, 2, none⟩ = some (.int .i64 ((f : Int) + 1 + 1)) := fun y => by rw [(RV_3.out.ex y.ok (fun ht => HS3.out _ ht rfl)).cell]; rfl
        have s3 : ∀ y : Held (Ex (fun b => b = pb ∨ sv.ownBlock = some b) b3), y.w.cell? ⟨tv + 1, 3, none⟩ = some (.int .i64 wo) := fun y => by rw [(RV_3.out.ex y.ok (fun ht => HS3.out _ ht rfl)).cell]; rfl
        have s4 : ∀ y : Held (Ex (fun b => b = pb ∨ sv.ownBlock = some b) b3), y.w.cell? ⟨tv + 1, 4, none⟩ = some (.int .i64 de) := fun y => by rw [(RV_3.out.ex y.ok (fun ht => HS3.out _ ht rfl)).cell]; rfl
        have q0 : ∀ y : Held (Ex (fun b => sv.ownBlock = some b) b3), y.w.cell? ⟨pb, 0, none⟩ = some (.int .i64 0) := fun y => by rw [(PB_3.out.ex y.ok HPX.out).cell]; rfl
        have q3 : ∀ y : Held (Ex (fun b => sv.ownBlock = some b) b3), y.w.cell? ⟨pb, 3, none⟩ = some sv := fun y => by rw [(PB_3.out.ex y.ok HPX.out).cell]; rfl
        clear hne
        clear s0
        clear s1
        clear s2
        clear s3
        clear s4
        have s0 : ∀ y : Held (Ex (fun b => sv.ownBlock = some b) b3), y.w.cell? ⟨tv + 1, 0, none⟩ = some (.int .i64 (f : Int)) := fun y => by rw [(RV_3.out.ex y.ok (fun ht => HS3.out _ (.inr ht) rfl)).cell]; rfl
        have s1 : ∀ y : Held (Ex (fun b => sv.ownBlock = some b) b3), y.w.cell? ⟨tv + 1, 1, none⟩ = some (.int .i64 ((f : Int) + 1)) := fun y => by rw [(RV_3.out.ex y.ok (fun ht => HS3.out _ (.inr ht) rfl)).cell]; rfl
        have s2 : ∀ y : Held (Ex (fun b => sv.ownBlock = some b) b3), y.w.cell? ⟨tv + 1, 2, none⟩ = some (.int .i64 ((f : Int) + 1 + 1)) := fun y => by rw [(RV_3.out.ex y.ok (fun ht => HS3.out _ (.inr ht) rfl)).cell]; rfl
        have s3 : ∀ y : Held (Ex (fun b => sv.ownBlock = some b) b3), y.w.cell? ⟨tv + 1, 3, none⟩ = some (.int .i64 wo) := fun y => by rw [(RV_3.out.ex y.ok (fun ht => HS3.out _ (.inr ht) rfl)).cell]; rfl
        have s4 : ∀ y : Held (Ex (fun b => sv.ownBlock = some b) b3), y.w.cell? ⟨tv + 1, 4, none⟩ = some (.int .i64 de) := fun y => by rw [(RV_3.out.ex y.ok (fun ht => HS3.out _ (.inr ht) rfl)).cell]; rfl
        have hne : Nonempty (Held (Ex (fun b => sv.ownBlock = some b) b3)) := ⟨⟨b3, Ex.refl _ _⟩⟩
        have EE := Lib.hid ((Ex.refl (fun b => sv.ownBlock = some b) b3).drew)
        refine drawn_sch (S := Ex (fun b => sv.ownBlock = some b) b3) [10] (.bar [0, 1, 2, 3, 4, 5] 6 (.bar [] 7 (.bar [] 8 (.bar [9] 10 (.fin []))))) (by kernel_rfl) (by kernel_rfl) (by kernel_rfl) rfl EE.out ?_
        refine PhasedC.bar_ ?_
        simp only [pick, List.map_cons, List.map_nil, List.getElem?_cons_zero, List.getElem?_cons_succ, Option.getD_some]
        repeat (go_big_quiet_step (fail))
        refine wpQuiet_nil ?_
        go_wp2_with fail
        refine behind_normal ⟨Ex (fun b => sv.ownBlock = some b) b3, fun W h => h, by first | exact EE.out.alloc _ | exact fun _ => EE.out.alloc _, ?_⟩
        refine PhasedC.bar_ ?_
        simp only [pick, List.map_cons, List.map_nil, List.getElem?_cons_zero, List.getElem?_cons_succ, Option.getD_some]
        repeat (go_big_quiet_step (fail))
        refine wpQuiet_nil ?_
        go_wp2_with (at_builtin; refine wpList_append_own_at _ rfl _ _ 36 rfl Bs 41 i0_ (.agg #[.int .i64 0, .int .i64 0, .int .i64 0, .int .i64 0, .int .i64 0]) 5 40 Tryd.underlying36 hi0 hz0 hz1 hz2 rfl (by decide) _ _ _ rfl (OS3.out.drew.alloc _) ⟨b3.drew.heap.size, 0, none⟩ 1 1 [Value.int .i64 (f : Int), .int .i64 ((f : Int) + 1), .int .i64 ((f : Int) + 1 + 1), .int .i64 wo, .int .i64 de] rfl rfl ?c1 ?c2 ?c3 ?c4 ?c5 ?_)
        case c1 =>
          have hbn := Blk.new b3.drew 41 #[.int .i64 (f : Int), .int .i64 ((f : Int) + 1), .int .i64 ((f : Int) + 1 + 1), .int .i64 wo, .int .i64 de]
          intro j u hj
          match j, hj with
          | 0, hj => simp at hj; subst hj; exact hbn.cell 0
          | 1, hj => simp at hj; subst hj; exact hbn.cell 1
          | 2, hj => simp at hj; subst hj; exact hbn.cell 2
          | 3, hj => simp at hj; subst hj; exact hbn.cell 3
          | 4, hj => simp at hj; subst hj; exact hbn.cell 4
        case c2 =>
          intro u hu
          simp only [List.mem_cons, List.not_mem_nil, or_false] at hu
          rcases hu with rfl | rfl | rfl | rfl | rfl <;> rfl
        case c3 => have := HN64.out; have := HI.out; unfold maxLen; omega
        case c4 => have := HN64.out; have := HI.out; omega
        case c5 => have := HBS3.out; simp; omega
        intro v' w8 hown' hgrow _ hat
        rw [HNL.out] at hown'
        have hgr : Ex (fun b => sv.ownBlock = some b) b3 w8 := (EE.out.alloc (.cells #[.int .i64 (f : Int), .int .i64 ((f : Int) + 1), .int .i64 ((f : Int) + 1 + 1), .int .i64 wo, .int .i64 de] 41)).trans (Ex.of_grown hgrow)
        obtain ⟨va, vc, hvv⟩ := own_form hown'
        subst hvv
        have GR := Lib.hid hgr
        have OS8 := Lib.hid hown'
        have PB8 := Lib.hid (PB_3.out.ex hgr HPX.out)
        have d3 := PB8.out.cell 3
        have d0 := PB8.out.cell 0
        have e3 := PB8.out.frozen 3
        simp only [rpC, List.getElem?_toArray, List.getElem?_cons_succ, List.getElem?_cons_zero] at d0 d3
        have HAT := Lib.hid hat
        clear hown' hgrow hat hgr
        refine behind_normal ⟨Ex (fun b => sv.ownBlock = some b) b3, fun W h => h, by first | exact GR.out | exact fun _ => GR.out, ?_⟩
        refine PhasedC.bar_ ?_
        simp only [pick, List.map_cons, List.map_nil, List.getElem?_cons_zero, List.getElem?_cons_succ, Option.getD_some]
        repeat (go_big_quiet_step (fail))
        refine wpQuiet_nil ?_
        go_wp2_with fail
        refine behind_normal ⟨Ex (fun b => sv.ownBlock = some b) b3, fun W h => h, by first | exact GR.out | exact fun _ => GR.out, ?_⟩
        refine PhasedC.bar_ ?_
        simp only [pick, List.map_cons, List.map_nil, List.getElem?_cons_zero, List.getElem?_cons_succ, Option.getD_some]
        repeat (go_big_quiet_step (fail))
        refine wpQuiet_nil ?_
        go_wp2_with fail
        have hx9 : Ex (fun b => b = pb) w8 (w8.setCell ⟨pb, 3, none⟩ (.slice va (i + 1) vc)) := (Ex.refl (fun b => b = pb) w8).setCell (q := ⟨pb, 3, none⟩) (.inl rfl) _
        refine behind_normal ⟨Ex (fun b => sv.ownBlock = some b) b3, fun W h => h, by first | exact fun h => absurd h (by decide) | trivial | simp, ?_⟩
        refine PhasedC.fin_ ?_
        have hne5 : Nonempty (Held (fun W => W = w8.setCell ⟨pb, 3, none⟩ (.slice va (i + 1) vc))) := ⟨⟨_, rfl⟩⟩
        simp only [pick, List.map_cons, List.map_nil, List.getElem?_cons_zero, List.getElem?_cons_succ, Option.getD_some]
        repeat (go_big_quiet_step (fail))
        refine wpQuiet_nil ?_
        clear hne hne5 q0 q3 s0 s1 s2 s3 s4 d0 d3 e3
        have PB9 := Lib.hid (show Blk (w8.setCell ⟨pb, 3, none⟩ (.slice va (i + 1) vc)) pb 39 (rpC 0 1 c.log (.slice va (i + 1) vc) wk3) from PB8.out.set_ 3 _)
        have hT : ∀ b, sv.ownBlock = some b → Bs ≤ b ∧ b < tv := ORD3.out.2.1
        have CB9 := Lib.hid ((CB3.out.ex GR.out (fun ht => by have := hT _ ht; have := ORD.out; omega)).ex hx9 (by have := ORD.out; omega))
        have TC9 := Lib.hid ((TC3.out.ex GR.out (fun ht => by have := hT _ ht; have := ORD.out; have := HTB.out; omega)).ex hx9 (by have := ORD.out; have := HTB.out; omega))
        have OW9 := Lib.hid (ownsRow_ex (ownsRow_ex OW4.out GR.out (fun b hb ht => DS3.out b ht hb)) hx9 (fun b hb ht => by have h1 := (OW4.out.lt b hb).1; have := ORD.out; omega))
        have OS9 := Lib.hid (ownsRow_ex OS8.out hx9 (fun b hb ht => by have h1 := (OS8.out.lt b hb).1; have := ORD.out; omega))
        have L9 := Lib.hid (Ex.below (Ex.below L3.out GR.out (fun b ht => by have := hT _ ht; have := ORD.out; omega)) hx9 (fun b hb => by have := ORD.out; omega))
        have HBS9 := Lib.hid (Nat.le_trans HBS3.out (Nat.le_trans GR.out.size hx9.size))
        have DS9 := Lib.hid (show ∀ b, (Value.slice va (i + 1) vc).ownBlock = some b → wk3.ownBlock ≠ some b from fun b hb he => by
          rcases HAT.out with h9 | h9
          · exact DS3.out b (h9 ▸ hb) he
          · have h7 := (OW4.out.lt b he).2
            rw [hb] at h9
            injection h9 with h9
            have h6 : b3.drew.heap.size = b3.heap.size := rfl
            try simp at h9
            omega)
        clear hx9 hT
        go_wp2_with fail
        exact ⟨⟨i + 1, _, _, HI.out, by go_num, TC9.out, CB9.out, PB9.out, OS9.out, OW9.out, DS9.out, HBS9.out, L9.out⟩, by have := HI.out; simp [intOf]; omega⟩
      · have he : i = c.n := by omega
        have kd : decide ((i : Int) < (c.n : Int)) = false := decide_eq_false (by omega)
        have kdn : decide (i < c.n) = false := decide_eq_false hlt
        have kdm : ¬ i < c.n := hlt
        have hos : wr.ownsRow Bs 41 5 sv c.n (spsL c c.n) := by have := OS.out; rw [he] at this; exact this
        have how : wr.ownsRow Bs 3 1 wv (whL c c.n).length ((whL c c.n).map (Value.int .i64)) := by have := OW.out; rw [he] at this; exact this
        obtain ⟨sb, cp, rfl, hsb, hsp⟩ := rsp_of_own hos HN64.out.1
        have hln := whL_len OK.out c.n (Nat.le_refl _)
        have hob := offP_bounds OK.out c.n (Nat.le_refl _)
        obtain ⟨wb, cw, rfl, hwb, hwi⟩ := intsIn_of_own how (by have := HN64.out; have := HLOG.out; unfold maxLen; omega) (by intro e; rw [e] at hln; simp at hln; have := HLOG.out; omega)
        have SPA := Lib.hid hsp
        have WIN := Lib.hid hwi
        clear he hlt hi hos how hsb hsp hln hob hwb hwi
        go_wp2_with fail
        go_ret2
        exact ⟨L0.out, pb, rfl, by have := ORD.out; omega, sb, cp, wb, cw, PB.out, SPA.out, WIN.out⟩
end Go.Proofs.YtgdfhgoenemanaaDoor.Plan
