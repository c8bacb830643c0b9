/-
  Reg: RegRuns: the law's walk. Condition: the table of ways lies in block 0. By an AI agent.
-/
import Derived.Test.YtjnhmoafljfnkaaDoorRunsP
import Derived.Test.YtjnhmoafljfnkaaDoorPhase
import Derived.Deep.CutRange
import Derived.OwnWalk
import Derived.Laws.OwnMore
namespace Go.Proofs.YtjnhmoafljfnkaaDoor.Reg
set_option linter.unusedVariables false
set_option linter.unusedSimpArgs false
open Go Go.RowKit Go.Proofs.YtjnhmoafljfnkaaDoor.Base Go.Proofs.YtjnhmoafljfnkaaDoor.Modes Go.Deep

theorem int_info : (Tryd.prog.info? 3).map (fun i => (i.zero, i.size, i.bytes)) = some (some (.int .i64 0), 1, 8) := by kernel_rfl
structure RS (w wr : World) (s : St) (k : Nat) (pv : Value) (pl : List Int) : Prop where
  run : Run s k
  bs : Blk wr w.heap.size 24 #[.int .i64 s.mode, .int .i64 s.source, .bool s.hold, .int .i64 s.flags, .int .u64 s.epoch]
  row : wr.ownsRow (w.heap.size + 1) 3 1 pv pl.length (pl.map (Value.int .i64))
  path : PathOK pl s.mode
  plen : pl.length ≤ k + 1
  bl : Below w.heap.size w wr
theorem RS.go {w wr w' : World} {s : St} {k : Nat} {pv : Value} {pl : List Int} (h : RS w wr s k pv pl) (hb : Below wr.heap.size wr w') : RS w w' s k pv pl :=
  ⟨h.run, h.bs.bl hb, World_ownsRow_bl h.row hb, h.path, h.plen, Base.bl h.bl hb⟩
theorem RS.next {w wr : World} {s : St} {k : Nat} {pv : Value} {pl : List Int} (h : RS w wr s k pv pl) : RS w wr s (k + 1) pv pl :=
  ⟨h.run.same, h.bs, h.row, h.path, by have := h.plen; omega, h.bl⟩
/-- behind the store of the new state -/
theorem keep_set5 {w : World} {g : Nat} {x0 x1 x2 x3 x4 : Value} {base e size n : Nat} {v : Value} {xs : List Value} (h : w.ownsRow base e size v n xs) (hg : g < base) : (((((w.setCell ⟨g, 0, none⟩ x0).setCell ⟨g, 1, none⟩ x1).setCell ⟨g, 2, none⟩ x2).setCell ⟨g, 3, none⟩ x3).setCell ⟨g, 4, none⟩ x4).ownsRow base e size v n xs := by
  have one : ∀ {w : World} (q : Addr) (u : Value), q.block = g → w.ownsRow base e size v n xs → (w.setCell q u).ownsRow base e size v n xs := fun {w} q u hq h => by
    refine h.kept (row := some g) ⟨rfl, rfl, rfl, by simp [World.setCell], fun j hj hne => Below.heap_setCell _ _ _ _ (fun e => hne (by rw [e, hq]))⟩ ?_
    by_cases hq : v.ownBlock = some g
    · have := (h.lt _ hq).1; omega
    · exact .inr hq
  exact one _ _ rfl (one _ _ rfl (one _ _ rfl (one _ _ rfl (one _ _ rfl h))))
theorem RS.turn {w wr : World} {s t : St} {k : Nat} {pv pv' : Value} {pl pl' : List Int} (h : RS w wr s k pv pl) (hrow : wr.ownsRow (w.heap.size + 1) 3 1 pv' pl'.length (pl'.map (Value.int .i64))) (hp : PathOK pl' t.mode) (hl : pl'.length ≤ k + 2) (hr : Run t (k + 1)) :
    RS w (((((wr.setCell ⟨w.heap.size, 0, none⟩ (.int .i64 t.mode)).setCell ⟨w.heap.size, 1, none⟩ (.int .i64 t.source)).setCell ⟨w.heap.size, 2, none⟩ (.bool t.hold)).setCell ⟨w.heap.size, 3, none⟩ (.int .i64 t.flags)).setCell ⟨w.heap.size, 4, none⟩ (.int .u64 t.epoch)) t (k + 1) pv' pl' := by
  exact ⟨hr, blk_set5 h.bs, keep_set5 hrow (by omega), hp, hl, below_set5 h.bl (Nat.le_refl _)⟩
set_option maxRecDepth 100000 in
set_option maxHeartbeats 64000000 in
theorem RegRuns_walk (v : Value) (x : Nat × (Nat → Act)) (w : World) (hx : Acts w v x.1 x.2) (ht : Tab w) : Calls Tryd.prog 8 #[v] w fun e w' => e = .returned (.bool true) ∧ Below w.heap.size w w' := by
  obtain ⟨n, l⟩ := x
  simp only at hx
  obtain ⟨A, ca, rfl, hl, hf⟩ := hx.form
  have HF := Lib.hid hf
  have HOK := Lib.hid hx.ok
  unfold maxLen at hl
  have HT := Lib.hid ht
  clear hf hx ht
  by_cases hn : n ≤ 200
  · have F0 := Lib.hid (show RS w ((w.alloc (.cells #[.int .i64 0, .int .i64 0, .bool false, .int .i64 0, .int .u64 0] 24)).alloc (.cells #[.int .i64 0] 3)) St.zero 0 (.slice (some ⟨w.heap.size + 1, 0, none⟩) 1 1) [0] from ⟨Run.zero, (Blk.new w _ _).alloc _, by
      have := World.ownsRow_lit (base := w.heap.size + 1) (e := 3) (size := 1) (w.alloc (.cells #[.int .i64 0, .int .i64 0, .bool false, .int .i64 0, .int .u64 0] 24)) #[.int .i64 0] 1 (by simp) (by decide) rfl
      simpa using this, PathOK.one, by simp, ((Below.refl _ _).alloc (Nat.le_refl _) _).alloc (by simp) _⟩)
    have hn1 : decide ((200 : Int) < (n : Int)) = false := decide_eq_false (by omega)
    go_enter Tryd.func8, Tryd.ntmps8
    go_wp2_with fail
    generalize (w.alloc (.cells #[.int .i64 0, .int .i64 0, .bool false, .int .i64 0, .int .u64 0] 24)).alloc (.cells #[.int .i64 0] 3) = W1 at *
    go_loopw [4, 5, 6] (fun pv nv iv wr => ∃ (k : Nat) (s : St) (pl : List Int), k ≤ n ∧ nv = .int .u64 s.epoch ∧ iv = .int .i64 k ∧ RS w wr s k pv pl) (fun _ _ i _ => n - (intOf i).toNat)
    case atStart => exact ⟨0, St.zero, [0], by omega, rfl, rfl, F0.out⟩
    case round =>
      clear F0
      obtain ⟨k, s, pl, hk, rfl, rfl, hrs⟩ := hrel
      have RS0 := Lib.hid hrs
      by_cases hlt : k < n
      · obtain ⟨b, o, rfl, hb, hcc⟩ := HF.out (by omega)
        have hcc' := hcc k hlt
        have hok := HOK.out k hlt
        have ck0 := (hrs.bl.cell (p := ⟨b, o + k * 5, none⟩) hb).trans hcc'.1
        have HC := Lib.hid hcc'
        clear hcc hcc'
        have hd1 : decide ((k : Int) < (n : Int)) = true := decide_eq_true (by omega)
        have hi0 : (0 : Int) ≤ (k : Int) := by omega
        have hi1 : (k : Int) < (n : Int) := by omega
        generalize l k = a at *
        have hHe := hrs.run.health (by omega) a.flags
        have hDe := hrs.run.decide (by omega) a.ask
        have hHc := Health_any s hrs.run.ok a.flags
        have hDc := Decide_any s hrs.run.ok a.ask ⟨hok.source, hok.mode⟩
        have T0 := Lib.hid (HT.out.below hrs.bl)
        have s0 := hrs.bs.cell 0
        have s1 := hrs.bs.cell 1
        have s2 := hrs.bs.cell 2
        have s3 := hrs.bs.cell 3
        have s4 := hrs.bs.cell 4
        simp only [List.getElem?_toArray, List.getElem?_cons_succ, List.getElem?_cons_zero] at s0 s1 s2 s3 s4
        have hlts : w.heap.size < wr.heap.size := hrs.bs.lt
        have hns : ¬ w.heap.size = wr.heap.size := by omega
        have hnb : ¬ b = wr.heap.size := by omega
        have hnb2 : b < wr.heap.size := by omega
        clear hrs hok
        obtain ⟨m, so, ho, fl, ep⟩ := s
        obtain ⟨tl, af, aso, am, afr⟩ := a
        unfold Act.ask at *
        simp only at *
        cases tl
        · have BT := Lib.hid (Blk.new wr 24 #[.int .i64 m, .int .i64 so, .bool ho, .int .i64 fl, .int .u64 ep])
          have RS1 := Lib.hid (RS0.out.go ((Below.refl _ _).alloc (Nat.le_refl _) (.cells #[.int .i64 m, .int .i64 so, .bool ho, .int .i64 fl, .int .u64 ep] 24)))
          have BS := Lib.hid RS1.out.bs
          have LB := Lib.hid (show Below wr.heap.size wr (wr.alloc (.cells #[.int .i64 m, .int .i64 so, .bool ho, .int .i64 fl, .int .u64 ep] 24)) from (Below.refl _ _).alloc (Nat.le_refl _) _)
          have T1 := Lib.hid (T0.out.below LB.out)
          go_upto_region 13 with fail
          clear s0 s1 s2 s3 s4 ck0
          generalize wr.alloc (.cells #[.int .i64 m, .int .i64 so, .bool ho, .int .i64 fl, .int .u64 ep] 24) = wz at *
          have hnonempty : Nonempty (Held (Below wr.heap.size wr)) := ⟨⟨wr, Below.refl _ _⟩⟩
          have LZ := Lib.hid RS0.out.bl
          have hs0 : ∀ x : Held (Below wr.heap.size wr), x.w.cell? ⟨w.heap.size, 0, none⟩ = some (.int .i64 m) := fun x => (RS0.out.bs.bl x.ok).cell 0
          have hs1 : ∀ x : Held (Below wr.heap.size wr), x.w.cell? ⟨w.heap.size, 1, none⟩ = some (.int .i64 so) := fun x => (RS0.out.bs.bl x.ok).cell 1
          have hs2 : ∀ x : Held (Below wr.heap.size wr), x.w.cell? ⟨w.heap.size, 2, none⟩ = some (.bool ho) := fun x => (RS0.out.bs.bl x.ok).cell 2
          have hs3 : ∀ x : Held (Below wr.heap.size wr), x.w.cell? ⟨w.heap.size, 3, none⟩ = some (.int .i64 fl) := fun x => (RS0.out.bs.bl x.ok).cell 3
          have hs4 : ∀ x : Held (Below wr.heap.size wr), x.w.cell? ⟨w.heap.size, 4, none⟩ = some (.int .u64 ep) := fun x => (RS0.out.bs.bl x.ok).cell 4
          have hc2 : ∀ x : Held (Below wr.heap.size wr), x.w.cell? ⟨b, o + k * 5 + 2, none⟩ = some (.int .i64 aso) := fun x => ((bl LZ.out x.ok).cell (p := ⟨b, o + k * 5 + 2, none⟩) hb).trans HC.out.2.2.1
          have hc3 : ∀ x : Held (Below wr.heap.size wr), x.w.cell? ⟨b, o + k * 5 + 3, none⟩ = some (.int .i64 am) := fun x => ((bl LZ.out x.ok).cell (p := ⟨b, o + k * 5 + 3, none⟩) hb).trans HC.out.2.2.2.1
          have hc4 : ∀ x : Held (Below wr.heap.size wr), x.w.cell? ⟨b, o + k * 5 + 4, none⟩ = some (.bool afr) := fun x => ((bl LZ.out x.ok).cell (p := ⟨b, o + k * 5 + 4, none⟩) hb).trans HC.out.2.2.2.2
          rcases hDe with ⟨hE, hS, _, _, _, hR⟩ | hE
          · have hwg := decide_way hE
            have hfol := fol_yesD (s := ⟨m, so, ho, fl, ep⟩) (t := nextS ⟨m, so, ho, fl, ep⟩ ⟨aso, am, afr⟩) ⟨hE, hS⟩
            obtain ⟨nso, nho, hN⟩ := next_form ⟨m, so, ho, fl, ep⟩ ⟨aso, am, afr⟩
            rw [hN] at hfol hR hS
            rw [hE, hS] at hDc
            have HFOL := Lib.hid hfol
            have HR := Lib.hid hR
            have HWY := Lib.hid hwg.1
            have hg := hwg.2
            unfold guardB at hg
            simp only [Bool.and_eq_true] at hg
            have gd1 : (bits .and .i64 fl (needZ m am) != needZ m am) = false := by have := hg.1; simp at this ⊢; exact this
            have gd2 : (bits .and .i64 fl (notZ m am) != 0) = false := by have := hg.2; simp at this ⊢; exact this
            clear hfol hR hS hE hN hwg hg
            have HT1 := Lib.hid (show Tab wz.drew from T1.out)
            have HCC := Lib.hid (hDc _ HT1.out)
            unfold St.val Ask.val at HCC
            simp only at HCC
            clear hHc hHe hDc HT1
            refine drawn_two (S := Below wr.heap.size wr) [0, 1, 2, 3, 4, 5, 6, 7, 8, 9, 10, 11, 12, 13, 14, 15, 16] 17 [18, 19, 20] 21 [22] _ _ (by kernel_rfl) (by kernel_rfl) (by kernel_rfl) rfl rfl rfl LB.out.drew ?_
            simp only [pick, List.map_cons, List.map_nil, List.getElem?_cons_zero, List.getElem?_cons_succ, Option.getD_some]
            repeat (go_big_quiet_step (fail))
            refine wpQuiet_nil ?_
            go_wp2_with fail
            refine HCC.out.mono ?_; rintro e w7 ⟨rfl, hb7⟩
            have L7 := Lib.hid (bl LB.out.drew hb7)
            have BT7 := Lib.hid ((BT.out.drew).bl hb7)
            clear hb7
            go_wp2_with fail
            refine behind_normal ⟨L7.out, ?_⟩
            try simp only [pick, List.map_cons, List.map_nil, List.getElem?_cons_zero, List.getElem?_cons_succ, Option.getD_some]
            repeat (go_big_quiet_step (fail))
            refine wpQuiet_nil ?_
            have t0 := BT7.out.cell 0
            have t1 := BT7.out.cell 1
            have t2 := BT7.out.cell 2
            have t3 := BT7.out.cell 3
            have t4 := BT7.out.cell 4
            simp only [List.getElem?_toArray, List.getElem?_cons_succ, List.getElem?_cons_zero] at t0 t1 t2 t3 t4
            have g0 := BT7.out.frozen 0
            have g1 := BT7.out.frozen 1
            have g2 := BT7.out.frozen 2
            have g3 := BT7.out.frozen 3
            have g4 := BT7.out.frozen 4
            clear hs0 hs1 hs2 hs3 hs4 hc2 hc3 hc4 hnonempty
            go_wp2_with fail
            refine behind_normal ⟨below_set5 L7.out (Nat.le_refl _), ?_⟩
            try simp only [pick, List.map_cons, List.map_nil, List.getElem?_cons_zero, List.getElem?_cons_succ, Option.getD_some]
            repeat (go_big_quiet_step (fail))
            refine wpQuiet_nil ?_
            have BT8 := Lib.hid (blk_set5 (x0 := .int .i64 am) (x1 := .int .i64 nso) (x2 := .bool nho) (x3 := .int .i64 fl) (x4 := .int .u64 (ep + 1)) BT7.out)
            have L8 := Lib.hid (below_set5 (x0 := .int .i64 am) (x1 := .int .i64 nso) (x2 := .bool nho) (x3 := .int .i64 fl) (x4 := .int .u64 (ep + 1)) L7.out (Nat.le_refl wr.heap.size))
            clear t0 t1 t2 t3 t4 g0 g1 g2 g3 g4 L7 BT7 BS LB T1 RS1 BT
            generalize (((((w7.setCell ⟨wr.heap.size, 0, none⟩ (.int .i64 am)).setCell ⟨wr.heap.size, 1, none⟩ (.int .i64 nso)).setCell ⟨wr.heap.size, 2, none⟩ (.bool nho)).setCell ⟨wr.heap.size, 3, none⟩ (.int .i64 fl)).setCell ⟨wr.heap.size, 4, none⟩ (.int .u64 (ep + 1))) = w8 at *
            have T8 := Lib.hid (T0.out.below L8.out)
            clear T0
            have BS8 := Lib.hid (RS0.out.bs.bl L8.out)
            have hpk := Pack_ok ⟨am, nso, nho, fl, ep + 1⟩ HR.out.ok HR.out.may
            have hf1 : ∀ W, Tab W → Calls Tryd.prog 19 #[(⟨m, so, ho, fl, ep⟩ : St).val, (⟨am, nso, nho, fl, ep + 1⟩ : St).val] W fun e w' => e = .returned (.bool true) ∧ Below W.heap.size W w' := fun W hW => (Follows_any _ RS0.out.run.ok _ HR.out.ok W hW).mono fun _ _ ⟨he, hb⟩ => ⟨he.is_true HFOL.out, hb⟩
            have hf2 : ∀ W, Tab W → Calls Tryd.prog 19 #[(⟨am, nso, nho, fl, ep + 1⟩ : St).val, (⟨m, so, ho, fl, ep⟩ : St).val] W fun e w' => e = .returned (.bool false) ∧ Below W.heap.size W w' := fun W hW => (Follows_any _ HR.out.ok _ RS0.out.run.ok W hW).mono fun _ _ ⟨he, hb⟩ => ⟨he.is_false (fol_back rfl), hb⟩
            unfold St.val at hpk hf1 hf2
            simp only at hpk hf1 hf2
            have HPK := Lib.hid hpk
            have HF1 := Lib.hid hf1
            have HF2 := Lib.hid hf2
            clear hpk hf1 hf2
            have hep0 : 0 ≤ ep := RS0.out.run.ok.epoch.1
            have hep1 : ep ≤ 200 := by have := RS0.out.run.ep; simp only at this; omega
            have n0 : (ep + 1 != ep + 1) = false := by simp
            have n1 : (m != m) = false := by simp
            have n2 : (so != so) = false := by simp
            have n3 : (ho != ho) = false := by simp
            have n4 : (fl != fl) = false := by simp
            have n5 : (af != af) = false := by simp
            have n6 : (am != am) = false := by simp
            have sq0 := BS8.out.cell 0
            have sq1 := BS8.out.cell 1
            have sq2 := BS8.out.cell 2
            have sq3 := BS8.out.cell 3
            have sq4 := BS8.out.cell 4
            simp only [List.getElem?_toArray, List.getElem?_cons_succ, List.getElem?_cons_zero] at sq0 sq1 sq2 sq3 sq4
            have tq0 := BT8.out.cell 0
            have tq1 := BT8.out.cell 1
            have tq2 := BT8.out.cell 2
            have tq3 := BT8.out.cell 3
            have tq4 := BT8.out.cell 4
            simp only [List.getElem?_toArray, List.getElem?_cons_succ, List.getElem?_cons_zero] at tq0 tq1 tq2 tq3 tq4
            go_wp2_with fail
            refine (HPK.out _).mono ?_; rintro e wq1 ⟨rfl, hb1⟩
            have Bs1 := Lib.hid (BS8.out.bl hb1)
            have Bt1 := Lib.hid (BT8.out.bl hb1)
            have L1 := Lib.hid (bl L8.out hb1)
            have T1 := Lib.hid (T8.out.below hb1)
            clear sq0 sq1 sq2 sq3 sq4 tq0 tq1 tq2 tq3 tq4
            clear hb1 BS8 BT8 L8 T8
            have sq0 := Bs1.out.cell 0
            have sq1 := Bs1.out.cell 1
            have sq2 := Bs1.out.cell 2
            have sq3 := Bs1.out.cell 3
            have sq4 := Bs1.out.cell 4
            simp only [List.getElem?_toArray, List.getElem?_cons_succ, List.getElem?_cons_zero] at sq0 sq1 sq2 sq3 sq4
            have tq0 := Bt1.out.cell 0
            have tq1 := Bt1.out.cell 1
            have tq2 := Bt1.out.cell 2
            have tq3 := Bt1.out.cell 3
            have tq4 := Bt1.out.cell 4
            simp only [List.getElem?_toArray, List.getElem?_cons_succ, List.getElem?_cons_zero] at tq0 tq1 tq2 tq3 tq4
            go_wp2_with fail
            refine (HF1.out _ T1.out).mono ?_; rintro e wq2 ⟨rfl, hb2⟩
            have Bs2 := Lib.hid (Bs1.out.bl hb2)
            have Bt2 := Lib.hid (Bt1.out.bl hb2)
            have L2 := Lib.hid (bl L1.out hb2)
            have T2 := Lib.hid (T1.out.below hb2)
            clear sq0 sq1 sq2 sq3 sq4 tq0 tq1 tq2 tq3 tq4
            clear hb2 Bs1 Bt1 L1 T1
            have sq0 := Bs2.out.cell 0
            have sq1 := Bs2.out.cell 1
            have sq2 := Bs2.out.cell 2
            have sq3 := Bs2.out.cell 3
            have sq4 := Bs2.out.cell 4
            simp only [List.getElem?_toArray, List.getElem?_cons_succ, List.getElem?_cons_zero] at sq0 sq1 sq2 sq3 sq4
            have tq0 := Bt2.out.cell 0
            have tq1 := Bt2.out.cell 1
            have tq2 := Bt2.out.cell 2
            have tq3 := Bt2.out.cell 3
            have tq4 := Bt2.out.cell 4
            simp only [List.getElem?_toArray, List.getElem?_cons_succ, List.getElem?_cons_zero] at tq0 tq1 tq2 tq3 tq4
            go_wp2_with fail
            refine (HF2.out _ T2.out).mono ?_; rintro e wq3 ⟨rfl, hb3⟩
            have Bs3 := Lib.hid (Bs2.out.bl hb3)
            have Bt3 := Lib.hid (Bt2.out.bl hb3)
            have L3 := Lib.hid (bl L2.out hb3)
            have T3 := Lib.hid (T2.out.below hb3)
            clear sq0 sq1 sq2 sq3 sq4 tq0 tq1 tq2 tq3 tq4
            clear hb3 Bs2 Bt2 L2 T2
            have sq0 := Bs3.out.cell 0
            have sq1 := Bs3.out.cell 1
            have sq2 := Bs3.out.cell 2
            have sq3 := Bs3.out.cell 3
            have sq4 := Bs3.out.cell 4
            simp only [List.getElem?_toArray, List.getElem?_cons_succ, List.getElem?_cons_zero] at sq0 sq1 sq2 sq3 sq4
            have sf0 := Bs3.out.frozen 0
            have sf1 := Bs3.out.frozen 1
            have sf2 := Bs3.out.frozen 2
            have sf3 := Bs3.out.frozen 3
            have sf4 := Bs3.out.frozen 4
            have tq0 := Bt3.out.cell 0
            have tq1 := Bt3.out.cell 1
            have tq2 := Bt3.out.cell 2
            have tq3 := Bt3.out.cell 3
            have tq4 := Bt3.out.cell 4
            simp only [List.getElem?_toArray, List.getElem?_cons_succ, List.getElem?_cons_zero] at tq0 tq1 tq2 tq3 tq4
            have ck0 := ((bl LZ.out L3.out).cell (p := ⟨b, o + k * 5, none⟩) hb).trans HC.out.1
            have ck1 := ((bl LZ.out L3.out).cell (p := ⟨b, o + k * 5 + 1, none⟩) hb).trans HC.out.2.1
            have ck3 := ((bl LZ.out L3.out).cell (p := ⟨b, o + k * 5 + 3, none⟩) hb).trans HC.out.2.2.2.1
            go_wp2_with fail
            refine (Guard_any m am _ T3.out).mono ?_; rintro e w' ⟨rfl, rfl⟩
            go_wp2_with fail
            go_quiet (fail)
            have RSZ := Lib.hid (RS0.out.go (below_drewN L3.out nq))
            have BTZ := Lib.hid (Bt3.out.drewN nq)
            have hnr : u4.ownBlock ≠ some wr.heap.size := fun h => by have := (RS0.out.row.lt _ h).2; omega
            have hns0 : u4.ownBlock ≠ some w.heap.size := fun h => by have := (RS0.out.row.lt _ h).1; omega
            obtain ⟨i0, hi0, hz0, hz1, hz2⟩ := info_parts int_info
            have hplen := RS0.out.plen
            go_wp2_with (at_builtin; refine wpList_append_own _ rfl _ _ 49 rfl (w.heap.size + 1) 3 i0 (.int .i64 0) 1 8 Tryd.underlying49 hi0 hz0 hz1 hz2 rfl (by decide) _ _ _ rfl (RSZ.out.row.alloc _) ⟨wq3.heap.size, 0, none⟩ 1 1 [.int .i64 am] rfl rfl ?c1 ?c2 ?c3 ?c4 ?c5 ?_)
            case c1 => intro j u hj; rcases j with _ | j <;> simp at hj; subst hj; rw [show (⟨wq3.heap.size, 0, none⟩ : Addr).add 0 = ⟨wq3.heap.size, 0, none⟩ from rfl]; exact (Blk.new (wq3.drewN nq) _ _).cell 0
            case c2 => intro u hu; simp at hu; subst hu; rfl
            case c3 => unfold maxLen; omega
            case c4 => omega
            case c5 => have := RSZ.out.bl.size; have := RSZ.out.bs.lt; simp at *; omega
            intro v10 w10 hown10 hgrow10 _
            obtain ⟨hrow10, hbl10, _⟩ := own_push (x := am) RSZ.out.bl (Nat.le_succ _) (by have := RSZ.out.bs.lt; omega) RSZ.out.row hown10 hgrow10
            have bt10 := (BTZ.out.alloc _).grown hgrow10 (fun e => hnr e.symm)
            have bs10 := (RSZ.out.bs.alloc _).grown hgrow10 (fun e => hns0 e.symm)
            have t0 := bt10.cell 0
            have t1 := bt10.cell 1
            have t2 := bt10.cell 2
            have t3 := bt10.cell 3
            have t4 := bt10.cell 4
            have s0 := bs10.cell 0
            have s1 := bs10.cell 1
            have s2 := bs10.cell 2
            have s3 := bs10.cell 3
            have s4 := bs10.cell 4
            have f0 := bs10.frozen 0
            have f1 := bs10.frozen 1
            have f2 := bs10.frozen 2
            have f3 := bs10.frozen 3
            have f4 := bs10.frozen 4
            simp only [List.getElem?_toArray, List.getElem?_cons_succ, List.getElem?_cons_zero] at t0 t1 t2 t3 t4 s0 s1 s2 s3 s4
            have hfin : RS w (((((w10.setCell ⟨w.heap.size, 0, none⟩ (.int .i64 am)).setCell ⟨w.heap.size, 1, none⟩ (.int .i64 nso)).setCell ⟨w.heap.size, 2, none⟩ (.bool nho)).setCell ⟨w.heap.size, 3, none⟩ (.int .i64 fl)).setCell ⟨w.heap.size, 4, none⟩ (.int .u64 (ep + 1))) ⟨am, nso, nho, fl, ep + 1⟩ (k + 1) v10 (pl ++ [am]) :=
              ⟨HR.out, blk_set5 bs10, keep_set5 hrow10 (by omega), RS0.out.path.snoc HWY.out, by simp; omega, below_set5 hbl10 (Nat.le_refl _)⟩
            have HFIN := Lib.hid hfin
            clear hfin hrow10 hbl10 bt10 bs10 hown10 hgrow10 hnr hns0
            go_wp2_with fail
            go_roundw
            case rel => exact ⟨k + 1, ⟨am, nso, nho, fl, ep + 1⟩, pl ++ [am], by omega, rfl, by go_num, HFIN.out⟩
            case measure => simp [intOf]; omega
          · have hS : decideS ⟨m, so, ho, fl, ep⟩ ⟨aso, am, afr⟩ = St.zero := by unfold decideS; rw [if_neg hE]
            have hE1 : (decideE ⟨m, so, ho, fl, ep⟩ ⟨aso, am, afr⟩ != 0) = true := by simpa using hE
            rw [hS] at hDc
            generalize decideE ⟨m, so, ho, fl, ep⟩ ⟨aso, am, afr⟩ = er at *
            unfold St.zero at hDc
            clear hE hS
            have HT1 := Lib.hid (show Tab wz.drew from T1.out)
            have HCC := Lib.hid (hDc _ HT1.out)
            unfold St.val Ask.val at HCC
            simp only at HCC
            clear hHc hHe hDc HT1
            refine drawn_two (S := Below wr.heap.size wr) [0, 1, 2, 3, 4, 5, 6, 7, 8, 9, 10, 11, 12, 13, 14, 15, 16] 17 [18, 19, 20] 21 [22] _ _ (by kernel_rfl) (by kernel_rfl) (by kernel_rfl) rfl rfl rfl LB.out.drew ?_
            simp only [pick, List.map_cons, List.map_nil, List.getElem?_cons_zero, List.getElem?_cons_succ, Option.getD_some]
            repeat (go_big_quiet_step (fail))
            refine wpQuiet_nil ?_
            go_wp2_with fail
            refine HCC.out.mono ?_; rintro e w7 ⟨rfl, hb7⟩
            have L7 := Lib.hid (bl LB.out.drew hb7)
            have BT7 := Lib.hid ((BT.out.drew).bl hb7)
            clear hb7
            go_wp2_with fail
            refine behind_normal ⟨L7.out, ?_⟩
            try simp only [pick, List.map_cons, List.map_nil, List.getElem?_cons_zero, List.getElem?_cons_succ, Option.getD_some]
            repeat (go_big_quiet_step (fail))
            refine wpQuiet_nil ?_
            have t0 := BT7.out.cell 0
            have t1 := BT7.out.cell 1
            have t2 := BT7.out.cell 2
            have t3 := BT7.out.cell 3
            have t4 := BT7.out.cell 4
            simp only [List.getElem?_toArray, List.getElem?_cons_succ, List.getElem?_cons_zero] at t0 t1 t2 t3 t4
            have g0 := BT7.out.frozen 0
            have g1 := BT7.out.frozen 1
            have g2 := BT7.out.frozen 2
            have g3 := BT7.out.frozen 3
            have g4 := BT7.out.frozen 4
            clear hs0 hs1 hs2 hs3 hs4 hc2 hc3 hc4 hnonempty
            go_wp2_with fail
            refine behind_normal ⟨below_set5 L7.out (Nat.le_refl _), ?_⟩
            try simp only [pick, List.map_cons, List.map_nil, List.getElem?_cons_zero, List.getElem?_cons_succ, Option.getD_some]
            repeat (go_big_quiet_step (fail))
            refine wpQuiet_nil ?_
            have BT8 := Lib.hid (blk_set5 (x0 := .int .i64 0) (x1 := .int .i64 0) (x2 := .bool false) (x3 := .int .i64 0) (x4 := .int .u64 0) BT7.out)
            have L8 := Lib.hid (below_set5 (x0 := .int .i64 0) (x1 := .int .i64 0) (x2 := .bool false) (x3 := .int .i64 0) (x4 := .int .u64 0) L7.out (Nat.le_refl wr.heap.size))
            clear t0 t1 t2 t3 t4 g0 g1 g2 g3 g4 L7 BT7 BS LB T1 RS1 BT
            generalize (((((w7.setCell ⟨wr.heap.size, 0, none⟩ (.int .i64 0)).setCell ⟨wr.heap.size, 1, none⟩ (.int .i64 0)).setCell ⟨wr.heap.size, 2, none⟩ (.bool false)).setCell ⟨wr.heap.size, 3, none⟩ (.int .i64 0)).setCell ⟨wr.heap.size, 4, none⟩ (.int .u64 0)) = w8 at *
            have T8 := Lib.hid (T0.out.below L8.out)
            clear T0
            have z0 := BT8.out.cell 0
            have z1 := BT8.out.cell 1
            have z2 := BT8.out.cell 2
            have z3 := BT8.out.cell 3
            have z4 := BT8.out.cell 4
            simp only [List.getElem?_toArray, List.getElem?_cons_succ, List.getElem?_cons_zero] at z0 z1 z2 z3 z4
            have RSZ := Lib.hid (RS0.out.go L8.out).next
            go_wp2_with fail
            go_roundw
            case rel => exact ⟨k + 1, ⟨m, so, ho, fl, ep⟩, pl, by omega, rfl, by go_num, RSZ.out⟩
            case measure => simp [intOf]; omega
        · have BT := Lib.hid (Blk.new wr 24 #[.int .i64 m, .int .i64 so, .bool ho, .int .i64 fl, .int .u64 ep])
          have RS1 := Lib.hid (RS0.out.go ((Below.refl _ _).alloc (Nat.le_refl _) (.cells #[.int .i64 m, .int .i64 so, .bool ho, .int .i64 fl, .int .u64 ep] 24)))
          have BS := Lib.hid RS1.out.bs
          have LB := Lib.hid (show Below wr.heap.size wr (wr.alloc (.cells #[.int .i64 m, .int .i64 so, .bool ho, .int .i64 fl, .int .u64 ep] 24)) from (Below.refl _ _).alloc (Nat.le_refl _) _)
          have T1 := Lib.hid (T0.out.below LB.out)
          go_upto_region 12 with fail
          clear s0 s1 s2 s3 s4 ck0
          generalize wr.alloc (.cells #[.int .i64 m, .int .i64 so, .bool ho, .int .i64 fl, .int .u64 ep] 24) = wz at *
          have hnonempty : Nonempty (Held (Below wr.heap.size wr)) := ⟨⟨wr, Below.refl _ _⟩⟩
          have LZ := Lib.hid RS0.out.bl
          have hs0 : ∀ x : Held (Below wr.heap.size wr), x.w.cell? ⟨w.heap.size, 0, none⟩ = some (.int .i64 m) := fun x => (RS0.out.bs.bl x.ok).cell 0
          have hs1 : ∀ x : Held (Below wr.heap.size wr), x.w.cell? ⟨w.heap.size, 1, none⟩ = some (.int .i64 so) := fun x => (RS0.out.bs.bl x.ok).cell 1
          have hs2 : ∀ x : Held (Below wr.heap.size wr), x.w.cell? ⟨w.heap.size, 2, none⟩ = some (.bool ho) := fun x => (RS0.out.bs.bl x.ok).cell 2
          have hs3 : ∀ x : Held (Below wr.heap.size wr), x.w.cell? ⟨w.heap.size, 3, none⟩ = some (.int .i64 fl) := fun x => (RS0.out.bs.bl x.ok).cell 3
          have hs4 : ∀ x : Held (Below wr.heap.size wr), x.w.cell? ⟨w.heap.size, 4, none⟩ = some (.int .u64 ep) := fun x => (RS0.out.bs.bl x.ok).cell 4
          have hc1 : ∀ x : Held (Below wr.heap.size wr), x.w.cell? ⟨b, o + k * 5 + 1, none⟩ = some (.int .i64 af) := fun x => ((bl LZ.out x.ok).cell (p := ⟨b, o + k * 5 + 1, none⟩) hb).trans HC.out.2.1
          rcases hHe with ⟨f0, f1, hE, hR, hS⟩ | ⟨hff, hE⟩
          · have HFOL := Lib.hid (show Fol ⟨m, so, ho, fl, ep⟩ ⟨m, so, ho, af, ep + 1⟩ from .inl ⟨hE, hS⟩)
            rw [hS] at hR
            have HR := Lib.hid hR
            rw [hE, hS] at hHc
            clear hE hS hR
            have HCC := Lib.hid hHc
            unfold St.val at HCC
            simp only at HCC
            clear hHc hDe hDc
            refine drawn_two (S := Below wr.heap.size wr) [0, 1, 2, 3, 4, 5] 6 [7, 8, 9] 10 [11] _ _ (by kernel_rfl) (by kernel_rfl) (by kernel_rfl) rfl rfl rfl LB.out.drew ?_
            simp only [pick, List.map_cons, List.map_nil, List.getElem?_cons_zero, List.getElem?_cons_succ, Option.getD_some]
            repeat (go_big_quiet_step (fail))
            refine wpQuiet_nil ?_
            go_wp2_with fail
            refine (HCC.out _).mono ?_; rintro e w7 ⟨rfl, hb7⟩
            have L7 := Lib.hid (bl LB.out.drew hb7)
            have BT7 := Lib.hid ((BT.out.drew).bl hb7)
            clear hb7
            go_wp2_with fail
            refine behind_normal ⟨L7.out, ?_⟩
            try simp only [pick, List.map_cons, List.map_nil, List.getElem?_cons_zero, List.getElem?_cons_succ, Option.getD_some]
            repeat (go_big_quiet_step (fail))
            refine wpQuiet_nil ?_
            have t0 := BT7.out.cell 0
            have t1 := BT7.out.cell 1
            have t2 := BT7.out.cell 2
            have t3 := BT7.out.cell 3
            have t4 := BT7.out.cell 4
            simp only [List.getElem?_toArray, List.getElem?_cons_succ, List.getElem?_cons_zero] at t0 t1 t2 t3 t4
            have g0 := BT7.out.frozen 0
            have g1 := BT7.out.frozen 1
            have g2 := BT7.out.frozen 2
            have g3 := BT7.out.frozen 3
            have g4 := BT7.out.frozen 4
            clear hs0 hs1 hs2 hs3 hs4 hc1 hnonempty
            go_wp2_with fail
            refine behind_normal ⟨below_set5 L7.out (Nat.le_refl _), ?_⟩
            try simp only [pick, List.map_cons, List.map_nil, List.getElem?_cons_zero, List.getElem?_cons_succ, Option.getD_some]
            repeat (go_big_quiet_step (fail))
            refine wpQuiet_nil ?_
            have BT8 := Lib.hid (blk_set5 (x0 := .int .i64 m) (x1 := .int .i64 so) (x2 := .bool ho) (x3 := .int .i64 af) (x4 := .int .u64 (ep + 1)) BT7.out)
            have L8 := Lib.hid (below_set5 (x0 := .int .i64 m) (x1 := .int .i64 so) (x2 := .bool ho) (x3 := .int .i64 af) (x4 := .int .u64 (ep + 1)) L7.out (Nat.le_refl wr.heap.size))
            clear t0 t1 t2 t3 t4 g0 g1 g2 g3 g4 L7 BT7 BS LB T1 RS1 BT
            generalize (((((w7.setCell ⟨wr.heap.size, 0, none⟩ (.int .i64 m)).setCell ⟨wr.heap.size, 1, none⟩ (.int .i64 so)).setCell ⟨wr.heap.size, 2, none⟩ (.bool ho)).setCell ⟨wr.heap.size, 3, none⟩ (.int .i64 af)).setCell ⟨wr.heap.size, 4, none⟩ (.int .u64 (ep + 1))) = w8 at *
            have T8 := Lib.hid (T0.out.below L8.out)
            clear T0
            have BS8 := Lib.hid (RS0.out.bs.bl L8.out)
            have hpk := Pack_ok ⟨m, so, ho, af, ep + 1⟩ HR.out.ok HR.out.may
            have hf1 : ∀ W, Tab W → Calls Tryd.prog 19 #[(⟨m, so, ho, fl, ep⟩ : St).val, (⟨m, so, ho, af, ep + 1⟩ : St).val] W fun e w' => e = .returned (.bool true) ∧ Below W.heap.size W w' := fun W hW => (Follows_any _ RS0.out.run.ok _ HR.out.ok W hW).mono fun _ _ ⟨he, hb⟩ => ⟨he.is_true HFOL.out, hb⟩
            have hf2 : ∀ W, Tab W → Calls Tryd.prog 19 #[(⟨m, so, ho, af, ep + 1⟩ : St).val, (⟨m, so, ho, fl, ep⟩ : St).val] W fun e w' => e = .returned (.bool false) ∧ Below W.heap.size W w' := fun W hW => (Follows_any _ HR.out.ok _ RS0.out.run.ok W hW).mono fun _ _ ⟨he, hb⟩ => ⟨he.is_false (fol_back rfl), hb⟩
            unfold St.val at hpk hf1 hf2
            simp only at hpk hf1 hf2
            have HPK := Lib.hid hpk
            have HF1 := Lib.hid hf1
            have HF2 := Lib.hid hf2
            clear hpk hf1 hf2
            have hep0 : 0 ≤ ep := RS0.out.run.ok.epoch.1
            have hep1 : ep ≤ 200 := by have := RS0.out.run.ep; simp only at this; omega
            have n0 : (ep + 1 != ep + 1) = false := by simp
            have n1 : (m != m) = false := by simp
            have n2 : (so != so) = false := by simp
            have n3 : (ho != ho) = false := by simp
            have n4 : (fl != fl) = false := by simp
            have n5 : (af != af) = false := by simp
            have n6 : (am != am) = false := by simp
            have sq0 := BS8.out.cell 0
            have sq1 := BS8.out.cell 1
            have sq2 := BS8.out.cell 2
            have sq3 := BS8.out.cell 3
            have sq4 := BS8.out.cell 4
            simp only [List.getElem?_toArray, List.getElem?_cons_succ, List.getElem?_cons_zero] at sq0 sq1 sq2 sq3 sq4
            have tq0 := BT8.out.cell 0
            have tq1 := BT8.out.cell 1
            have tq2 := BT8.out.cell 2
            have tq3 := BT8.out.cell 3
            have tq4 := BT8.out.cell 4
            simp only [List.getElem?_toArray, List.getElem?_cons_succ, List.getElem?_cons_zero] at tq0 tq1 tq2 tq3 tq4
            go_wp2_with fail
            refine (HPK.out _).mono ?_; rintro e wq1 ⟨rfl, hb1⟩
            have Bs1 := Lib.hid (BS8.out.bl hb1)
            have Bt1 := Lib.hid (BT8.out.bl hb1)
            have L1 := Lib.hid (bl L8.out hb1)
            have T1 := Lib.hid (T8.out.below hb1)
            clear sq0 sq1 sq2 sq3 sq4 tq0 tq1 tq2 tq3 tq4
            clear hb1 BS8 BT8 L8 T8
            have sq0 := Bs1.out.cell 0
            have sq1 := Bs1.out.cell 1
            have sq2 := Bs1.out.cell 2
            have sq3 := Bs1.out.cell 3
            have sq4 := Bs1.out.cell 4
            simp only [List.getElem?_toArray, List.getElem?_cons_succ, List.getElem?_cons_zero] at sq0 sq1 sq2 sq3 sq4
            have tq0 := Bt1.out.cell 0
            have tq1 := Bt1.out.cell 1
            have tq2 := Bt1.out.cell 2
            have tq3 := Bt1.out.cell 3
            have tq4 := Bt1.out.cell 4
            simp only [List.getElem?_toArray, List.getElem?_cons_succ, List.getElem?_cons_zero] at tq0 tq1 tq2 tq3 tq4
            go_wp2_with fail
            refine (HF1.out _ T1.out).mono ?_; rintro e wq2 ⟨rfl, hb2⟩
            have Bs2 := Lib.hid (Bs1.out.bl hb2)
            have Bt2 := Lib.hid (Bt1.out.bl hb2)
            have L2 := Lib.hid (bl L1.out hb2)
            have T2 := Lib.hid (T1.out.below hb2)
            clear sq0 sq1 sq2 sq3 sq4 tq0 tq1 tq2 tq3 tq4
            clear hb2 Bs1 Bt1 L1 T1
            have sq0 := Bs2.out.cell 0
            have sq1 := Bs2.out.cell 1
            have sq2 := Bs2.out.cell 2
            have sq3 := Bs2.out.cell 3
            have sq4 := Bs2.out.cell 4
            simp only [List.getElem?_toArray, List.getElem?_cons_succ, List.getElem?_cons_zero] at sq0 sq1 sq2 sq3 sq4
            have tq0 := Bt2.out.cell 0
            have tq1 := Bt2.out.cell 1
            have tq2 := Bt2.out.cell 2
            have tq3 := Bt2.out.cell 3
            have tq4 := Bt2.out.cell 4
            simp only [List.getElem?_toArray, List.getElem?_cons_succ, List.getElem?_cons_zero] at tq0 tq1 tq2 tq3 tq4
            go_wp2_with fail
            refine (HF2.out _ T2.out).mono ?_; rintro e wq3 ⟨rfl, hb3⟩
            have Bs3 := Lib.hid (Bs2.out.bl hb3)
            have Bt3 := Lib.hid (Bt2.out.bl hb3)
            have L3 := Lib.hid (bl L2.out hb3)
            have T3 := Lib.hid (T2.out.below hb3)
            clear sq0 sq1 sq2 sq3 sq4 tq0 tq1 tq2 tq3 tq4
            clear hb3 Bs2 Bt2 L2 T2
            have sq0 := Bs3.out.cell 0
            have sq1 := Bs3.out.cell 1
            have sq2 := Bs3.out.cell 2
            have sq3 := Bs3.out.cell 3
            have sq4 := Bs3.out.cell 4
            simp only [List.getElem?_toArray, List.getElem?_cons_succ, List.getElem?_cons_zero] at sq0 sq1 sq2 sq3 sq4
            have sf0 := Bs3.out.frozen 0
            have sf1 := Bs3.out.frozen 1
            have sf2 := Bs3.out.frozen 2
            have sf3 := Bs3.out.frozen 3
            have sf4 := Bs3.out.frozen 4
            have tq0 := Bt3.out.cell 0
            have tq1 := Bt3.out.cell 1
            have tq2 := Bt3.out.cell 2
            have tq3 := Bt3.out.cell 3
            have tq4 := Bt3.out.cell 4
            simp only [List.getElem?_toArray, List.getElem?_cons_succ, List.getElem?_cons_zero] at tq0 tq1 tq2 tq3 tq4
            have ck0 := ((bl LZ.out L3.out).cell (p := ⟨b, o + k * 5, none⟩) hb).trans HC.out.1
            have ck1 := ((bl LZ.out L3.out).cell (p := ⟨b, o + k * 5 + 1, none⟩) hb).trans HC.out.2.1
            have ck3 := ((bl LZ.out L3.out).cell (p := ⟨b, o + k * 5 + 3, none⟩) hb).trans HC.out.2.2.2.1
            go_wp2_with fail
            go_quiet (fail)
            have RSZ := Lib.hid (RS0.out.go (below_drewN L3.out nq))
            have hfin := RS.turn (t := ⟨m, so, ho, af, ep + 1⟩) RSZ.out RSZ.out.row RSZ.out.path (by have := RSZ.out.plen; omega) HR.out
            simp only at hfin
            have HFIN := Lib.hid hfin
            clear hfin
            go_wp2_with fail
            go_roundw
            case rel => exact ⟨k + 1, ⟨m, so, ho, af, ep + 1⟩, pl, by omega, rfl, by go_num, HFIN.out⟩
            case measure => simp [intOf]; omega
          · have hS : healthS ⟨m, so, ho, fl, ep⟩ af = St.zero := by unfold healthS; rw [hE, if_neg (by decide)]
            rw [hE, hS] at hHc
            have HCC := Lib.hid hHc
            unfold St.val St.zero at HCC
            simp only at HCC
            clear hHc hDe hDc hE hS
            refine drawn_two (S := Below wr.heap.size wr) [0, 1, 2, 3, 4, 5] 6 [7, 8, 9] 10 [11] _ _ (by kernel_rfl) (by kernel_rfl) (by kernel_rfl) rfl rfl rfl LB.out.drew ?_
            simp only [pick, List.map_cons, List.map_nil, List.getElem?_cons_zero, List.getElem?_cons_succ, Option.getD_some]
            repeat (go_big_quiet_step (fail))
            refine wpQuiet_nil ?_
            go_wp2_with fail
            refine (HCC.out _).mono ?_; rintro e w7 ⟨rfl, hb7⟩
            have L7 := Lib.hid (bl LB.out.drew hb7)
            have BT7 := Lib.hid ((BT.out.drew).bl hb7)
            clear hb7
            go_wp2_with fail
            refine behind_normal ⟨L7.out, ?_⟩
            try simp only [pick, List.map_cons, List.map_nil, List.getElem?_cons_zero, List.getElem?_cons_succ, Option.getD_some]
            repeat (go_big_quiet_step (fail))
            refine wpQuiet_nil ?_
            have t0 := BT7.out.cell 0
            have t1 := BT7.out.cell 1
            have t2 := BT7.out.cell 2
            have t3 := BT7.out.cell 3
            have t4 := BT7.out.cell 4
            simp only [List.getElem?_toArray, List.getElem?_cons_succ, List.getElem?_cons_zero] at t0 t1 t2 t3 t4
            have g0 := BT7.out.frozen 0
            have g1 := BT7.out.frozen 1
            have g2 := BT7.out.frozen 2
            have g3 := BT7.out.frozen 3
            have g4 := BT7.out.frozen 4
            clear hs0 hs1 hs2 hs3 hs4 hc1 hnonempty
            go_wp2_with fail
            refine behind_normal ⟨below_set5 L7.out (Nat.le_refl _), ?_⟩
            try simp only [pick, List.map_cons, List.map_nil, List.getElem?_cons_zero, List.getElem?_cons_succ, Option.getD_some]
            repeat (go_big_quiet_step (fail))
            refine wpQuiet_nil ?_
            have BT8 := Lib.hid (blk_set5 (x0 := .int .i64 0) (x1 := .int .i64 0) (x2 := .bool false) (x3 := .int .i64 0) (x4 := .int .u64 0) BT7.out)
            have L8 := Lib.hid (below_set5 (x0 := .int .i64 0) (x1 := .int .i64 0) (x2 := .bool false) (x3 := .int .i64 0) (x4 := .int .u64 0) L7.out (Nat.le_refl wr.heap.size))
            clear t0 t1 t2 t3 t4 g0 g1 g2 g3 g4 L7 BT7 BS LB T1 RS1 BT
            generalize (((((w7.setCell ⟨wr.heap.size, 0, none⟩ (.int .i64 0)).setCell ⟨wr.heap.size, 1, none⟩ (.int .i64 0)).setCell ⟨wr.heap.size, 2, none⟩ (.bool false)).setCell ⟨wr.heap.size, 3, none⟩ (.int .i64 0)).setCell ⟨wr.heap.size, 4, none⟩ (.int .u64 0)) = w8 at *
            have T8 := Lib.hid (T0.out.below L8.out)
            clear T0
            have z0 := BT8.out.cell 0
            have z1 := BT8.out.cell 1
            have z2 := BT8.out.cell 2
            have z3 := BT8.out.cell 3
            have z4 := BT8.out.cell 4
            simp only [List.getElem?_toArray, List.getElem?_cons_succ, List.getElem?_cons_zero] at z0 z1 z2 z3 z4
            have RSZ := Lib.hid (RS0.out.go L8.out).next
            go_wp2_with fail
            go_roundw
            case rel => exact ⟨k + 1, ⟨m, so, ho, fl, ep⟩, pl, by omega, rfl, by go_num, RSZ.out⟩
            case measure => simp [intOf]; omega
      · have hd1 : decide ((k : Int) < (n : Int)) = false := decide_eq_false (by omega)
        have L0 := Lib.hid hrs.bl
        have T0 := Lib.hid (HT.out.below hrs.bl)
        have hint := ints_of_own hrs.row (by have := hrs.plen; unfold maxLen; omega)
        have HPA := Lib.hid (Path_any u4 pl wr T0.out hint)
        have HPF := Lib.hid (pathF_none hrs.path.good)
        clear hrs hint
        go_wp2_with fail
        refine HPA.out.mono ?_; rintro e w' ⟨rfl, rfl⟩
        rw [HPF.out]
        go_wp2_with fail
        refine (awake_any _ T0.out).mono ?_; rintro e w2 ⟨rfl, hb2⟩
        have L3 := Lib.hid (bl L0.out hb2)
        clear hb2
        go_wp2_with fail
        go_ret
        exact ⟨rfl, L3.out⟩
  · have hn1 : decide ((200 : Int) < (n : Int)) = true := decide_eq_true (by omega)
    go_enter Tryd.func8, Tryd.ntmps8
    go_wp2_with fail
    refine (awake_any _ HT.out).mono ?_; rintro e w2 ⟨rfl, hb2⟩
    have L3 := Lib.hid hb2
    clear hb2
    go_wp2_with fail
    go_ret
    exact ⟨rfl, L3.out⟩
end Go.Proofs.YtjnhmoafljfnkaaDoor.Reg
