/-
  ReadWhole, walked. Conditions stand at each. By an AI agent; by mkrwh.py.
-/
import Derived.Test.YtihogagnjikghaaRwP
import Derived.Test.YtihogagnjikghaaIn
import Derived.Test.YtihogagnjikghaaSch
import Derived.Test.YtihogagnjikghaaLw09
import Derived.Deep.CutRange
namespace Go.Proofs.Ytihogagnjikghaa.Bank
set_option linter.unusedVariables false
set_option linter.unusedSimpArgs false
open Go Go.RowKit Go.Proofs.Ytihogagnjikghaa.Base
theorem rset5_blk {w : World} {b : Nat} {t : TypeId} {a0 a1 a2 a3 a4 x0 x1 x2 x3 x4 : Value} (h : Blk w b t #[a0, a1, a2, a3, a4]) :
    Blk (((((w.setCell ⟨b, 0, none⟩ x0).setCell ⟨b, 1, none⟩ x1).setCell ⟨b, 2, none⟩ x2).setCell ⟨b, 3, none⟩ x3).setCell ⟨b, 4, none⟩ x4) b t #[x0, x1, x2, x3, x4] := by
  have := ((((h.set_ 0 x0).set_ 1 x1).set_ 2 x2).set_ 3 x3).set_ 4 x4
  simpa using this
theorem rset5_ex {T : Nat → Prop} {w0 w : World} {b : Nat} {x0 x1 x2 x3 x4 : Value} (h : Ex T w0 w) (hg : T b ∨ w0.heap.size ≤ b) : Ex T w0 (((((w.setCell ⟨b, 0, none⟩ x0).setCell ⟨b, 1, none⟩ x1).setCell ⟨b, 2, none⟩ x2).setCell ⟨b, 3, none⟩ x3).setCell ⟨b, 4, none⟩ x4) := by
  have h0 := h.setCell (q := ⟨b, 0, none⟩) hg x0
  have h1 := h0.setCell (q := ⟨b, 1, none⟩) hg x1
  have h2 := h1.setCell (q := ⟨b, 2, none⟩) hg x2
  have h3 := h2.setCell (q := ⟨b, 3, none⟩) hg x3
  exact h3.setCell (q := ⟨b, 4, none⟩) hg x4
theorem rset5_below {B : Nat} {w0 w : World} {b : Nat} {x0 x1 x2 x3 x4 : Value} (h : Below B w0 w) (hg : B ≤ b) : Below B w0 (((((w.setCell ⟨b, 0, none⟩ x0).setCell ⟨b, 1, none⟩ x1).setCell ⟨b, 2, none⟩ x2).setCell ⟨b, 3, none⟩ x3).setCell ⟨b, 4, none⟩ x4) := by
  have h0 := h.setCell (p := ⟨b, 0, none⟩) hg x0
  have h1 := h0.setCell (p := ⟨b, 1, none⟩) hg x1
  have h2 := h1.setCell (p := ⟨b, 2, none⟩) hg x2
  have h3 := h2.setCell (p := ⟨b, 3, none⟩) hg x3
  exact h3.setCell (p := ⟨b, 4, none⟩) hg x4
theorem wslice_info : (Try.prog.info? 42).map (fun i => (i.zero, i.size, i.bytes)) = some (some (.slice none 0 0), 1, 24) := by kernel_rfl
theorem wint_info : (Try.prog.info? 3).map (fun i => (i.zero, i.size, i.bytes)) = some (some (.int .i64 0), 1, 8) := by kernel_rfl
set_option maxRecDepth 100000 in
theorem pair9_of_trod {H : Type} {enc : TypeId × Value → H} {W : World} {r : Reach} {b : Nat} {v : Value} {d : DataW H} {p : List MemPlace}
    (hv : Value.okWide Try.prog W r b 58 v) (h : DataW.Trod enc Try.prog W 0 (fun _ => true) true 58 v d p) : ∃ x : Int × Int, v = .agg #[.int .i64 x.1, .int .i64 x.2] := by
  obtain ⟨xs, hl, rfl, _⟩ := arr_of_trod Try.underlying58 Try.underlying3 (by kernel_rfl) (by kernel_rfl) hv h
  match xs, hl with
  | [a, c], _ => exact ⟨(a, c), rfl⟩
set_option maxRecDepth 100000 in
set_option maxHeartbeats 60000000 in
theorem ReadWhole_walk (v : Value) (x : Nat × (Nat → Value) × (Nat → List Int)) (v2 : Value) (y : Int × Int) (v3 : Value) (ps : List Int) (w : World) (hx : Rows2 w .u64 v x.1 x.2.1 x.2.2) (hy : v2 = .agg #[.int .i64 y.1, .int .i64 y.2]) (ht : Ints w .i64 v3 ps) (hf : ∀ z ∈ ps, (Lit.int .i64 z).wf = true) :
    Calls Try.prog 4 #[v, v2, v3] w fun e w' => e = .returned (.bool true) ∧ Below w.heap.size w w' := by
  obtain ⟨n, vs, xs⟩ := x
  obtain ⟨dd, T⟩ := y
  subst hy
  simp only at hx ⊢
  obtain ⟨A, ca, rfl, hln, hfa⟩ := hx.form
  obtain ⟨AP, cp, rfl, hpl, hpf⟩ := ht.form
  have HX := Lib.hid hx
  have HPF := Lib.hid hf
  have HPX := Lib.hid hpf
  clear ht hf hpf hpl hx hln
  obtain ⟨na, hna⟩ : ∃ na, ps.length = na := ⟨_, rfl⟩
  have HNA := Lib.hid hna
  simp only [hna]
  clear hna
  go_enter Try.func4, Try.ntmps4
  go_upto_region 1 with fail
  obtain ⟨B, hB⟩ : ∃ B, w.heap.size = B := ⟨_, rfl⟩
  have hxb : Blk (w.alloc (.cells #[.int .i64 dd, .int .i64 T] 58)) B 58 #[.int .i64 dd, .int .i64 T] := hB ▸ Blk.new w 58 #[.int .i64 dd, .int .i64 T]
  have hl : Below w.heap.size w (w.alloc (.cells #[.int .i64 dd, .int .i64 T] 58)) := (Below.refl w.heap.size w).alloc (Nat.le_refl _) _
  simp only [hB] at ⊢
  have HB := Lib.hid hB
  have X0 := Lib.hid hxb
  have L0 := Lib.hid hl
  clear hB hxb hl
  generalize (w.alloc (.cells #[.int .i64 dd, .int .i64 T] 58)) = w1 at *
  have xc0 := X0.out.cell 0
  have xc1 := X0.out.cell 1
  simp only [List.getElem?_toArray, List.getElem?_cons_succ, List.getElem?_cons_zero] at xc0 xc1
  by_cases a0 : (n : Int) < 1
  · have k0 : decide ((n : Int) < 1) = true := decide_eq_true a0
    clear a0 hfa
    go_wp2_with fail
    refine (awake_any _).mono ?_; rintro e wz ⟨rfl, hz⟩
    have LZ := Lib.hid (bl L0.out hz)
    clear hz
    go_wp2_with fail
    go_ret
    exact ⟨rfl, LZ.out⟩
  have k0 : decide ((n : Int) < 1) = false := decide_eq_false a0
  by_cases a1 : (n : Int) > 40
  · have k1 : decide ((n : Int) > 40) = true := decide_eq_true a1
    clear a0 a1 hfa
    go_wp2_with fail
    refine (awake_any _).mono ?_; rintro e wz ⟨rfl, hz⟩
    have LZ := Lib.hid (bl L0.out hz)
    clear hz
    go_wp2_with fail
    go_ret
    exact ⟨rfl, LZ.out⟩
  have k1 : decide ((n : Int) > 40) = false := decide_eq_false a1
  obtain ⟨b, o, rfl, hb, hcs⟩ := hfa (by omega)
  obtain ⟨A0, c0, e0, hl0, hf0⟩ := (HX.out.rows 0 (by omega)).1.form
  have cc0 := (L0.out.cell (p := ⟨b, o + 0, none⟩) hb).trans (hcs 0 (by omega))
  rw [Nat.add_zero, e0] at cc0
  have HCS := Lib.hid hcs
  have HBB := Lib.hid hb
  generalize hm : (xs 0).length = m at *
  have HM := Lib.hid hm
  have HE0 := Lib.hid e0
  have HN := Lib.hid (show 1 ≤ n ∧ n ≤ 40 by omega)
  have kn0 : (0 : Int) < (n : Int) := by omega
  clear hcs hb hm e0 hf0 hl0 hfa a0 a1
  by_cases a2 : (m : Int) < 1
  · have k2 : decide ((m : Int) < 1) = true := decide_eq_true a2
    clear a2
    go_wp2_with fail
    refine (awake_any _).mono ?_; rintro e wz ⟨rfl, hz⟩
    have LZ := Lib.hid (bl L0.out hz)
    clear hz
    go_wp2_with fail
    go_ret
    exact ⟨rfl, LZ.out⟩
  have k2 : decide ((m : Int) < 1) = false := decide_eq_false a2
  by_cases a3 : (m : Int) > 6
  · have k3 : decide ((m : Int) > 6) = true := decide_eq_true a3
    clear a2 a3
    go_wp2_with fail
    refine (awake_any _).mono ?_; rintro e wz ⟨rfl, hz⟩
    have LZ := Lib.hid (bl L0.out hz)
    clear hz
    go_wp2_with fail
    go_ret
    exact ⟨rfl, LZ.out⟩
  have k3 : decide ((m : Int) > 6) = false := decide_eq_false a3
  by_cases a4 : dd < 2
  · have k4 : decide (dd < 2) = true := decide_eq_true a4
    clear a2 a3 a4
    go_wp2_with fail
    refine (awake_any _).mono ?_; rintro e wz ⟨rfl, hz⟩
    have LZ := Lib.hid (bl L0.out hz)
    clear hz
    go_wp2_with fail
    go_ret
    exact ⟨rfl, LZ.out⟩
  have k4 : decide (dd < 2) = false := decide_eq_false a4
  by_cases a5 : dd > 16
  · have k5 : decide (dd > 16) = true := decide_eq_true a5
    clear a2 a3 a4 a5
    go_wp2_with fail
    refine (awake_any _).mono ?_; rintro e wz ⟨rfl, hz⟩
    have LZ := Lib.hid (bl L0.out hz)
    clear hz
    go_wp2_with fail
    go_ret
    exact ⟨rfl, LZ.out⟩
  have k5 : decide (dd > 16) = false := decide_eq_false a5
  by_cases a6 : T < 1
  · have k6 : decide (T < 1) = true := decide_eq_true a6
    clear a2 a3 a4 a5 a6
    go_wp2_with fail
    refine (awake_any _).mono ?_; rintro e wz ⟨rfl, hz⟩
    have LZ := Lib.hid (bl L0.out hz)
    clear hz
    go_wp2_with fail
    go_ret
    exact ⟨rfl, LZ.out⟩
  have k6 : decide (T < 1) = false := decide_eq_false a6
  by_cases a7 : T > 16
  · have k7 : decide (T > 16) = true := decide_eq_true a7
    clear a2 a3 a4 a5 a6 a7
    go_wp2_with fail
    refine (awake_any _).mono ?_; rintro e wz ⟨rfl, hz⟩
    have LZ := Lib.hid (bl L0.out hz)
    clear hz
    go_wp2_with fail
    go_ret
    exact ⟨rfl, LZ.out⟩
  have k7 : decide (T > 16) = false := decide_eq_false a7
  by_cases a8 : (na : Int) > 400
  · have k8 : decide ((na : Int) > 400) = true := decide_eq_true a8
    clear a2 a3 a4 a5 a6 a7 a8
    go_wp2_with fail
    refine (awake_any _).mono ?_; rintro e wz ⟨rfl, hz⟩
    have LZ := Lib.hid (bl L0.out hz)
    clear hz
    go_wp2_with fail
    go_ret
    exact ⟨rfl, LZ.out⟩
  have k8 : decide ((na : Int) > 400) = false := decide_eq_false a8
  obtain ⟨d, hd⟩ : ∃ d : Nat, dd = d := ⟨dd.toNat, by omega⟩
  subst hd
  have HMB := Lib.hid (show 1 ≤ m ∧ m ≤ 6 by omega)
  have HDB := Lib.hid (show 2 ≤ d ∧ d ≤ 16 by omega)
  have HTB := Lib.hid (show 1 ≤ T ∧ T ≤ 16 by omega)
  have HNB := Lib.hid (show na ≤ 400 by omega)
  clear a2 a3 a4 a5 a6 a7 a8
  go_upto_region 4 with fail
  clear k0 k1 k2 k3 k4 k5 k6 k7 k8 cc0 xc0 xc1
  obtain ⟨w2, rfl⟩ : ∃ w2 : World, w2 = w1 := ⟨_, rfl⟩
  go_loopw [7] (fun iv wr => ∃ (k : Nat), k ≤ n ∧ iv = .int .i64 k ∧ (∀ j, j < k → (xs j).length = m) ∧ Blk wr B 58 #[.int .i64 d, .int .i64 T] ∧ Below w.heap.size w wr) (fun iv _ => n + 1 - (intOf iv).toNat)
  case atStart => exact ⟨0, by omega, rfl, fun j hj => by omega, X0.out, L0.out⟩
  case round =>
    clear X0 L0
    obtain ⟨k, hk, rfl, hle, hxb, hl⟩ := hrel
    have X0 := Lib.hid hxb
    have L0 := Lib.hid hl
    have HLE := Lib.hid hle
    clear hxb hl hle
    by_cases hlt : k < n
    · have kd : decide ((k : Int) < (n : Int)) = true := decide_eq_true (by omega)
      have ki0 : (0 : Int) ≤ (k : Int) := by omega
      have ki1 : (k : Int) < (n : Int) := by omega
      have ki5 : (k : Int) ≤ 40 := by have := HN.out; omega
      have HK := Lib.hid hlt
      obtain ⟨Ak, ck, ek, -, -⟩ := (HX.out.rows k hlt).1.form
      go_upto_region 6 with fail
      have hne : Nonempty (Held (fun W => W = wr.drew)) := ⟨⟨_, rfl⟩⟩
      have pk : ∀ x : Held (fun W => W = wr.drew), x.w.cell? ⟨b, o + k, none⟩ = some (.slice Ak (xs k).length ck) := fun x => by rw [x.ok, ← ek]; exact (L0.out.drew.cell (p := ⟨b, o + k, none⟩) HBB.out).trans (HCS.out k hlt)
      have p0 : ∀ x : Held (fun W => W = wr.drew), x.w.cell? ⟨b, o, none⟩ = some (.slice A0 m c0) := fun x => by rw [x.ok, ← HE0.out]; exact (L0.out.drew.cell (p := ⟨b, o, none⟩) HBB.out).trans (HCS.out 0 (by have := HN.out; omega))
      clear ek
      generalize hlk : (xs k).length = lk at *
      refine drawn_bars (S := fun _ => True) [] [0, 1, 2, 3, 4, 5, 6, 7, 8, 9] (by kernel_rfl) (by kernel_rfl) (by kernel_rfl) rfl trivial ?_
      refine Phased.end_ ?_
      simp only [pick, List.map_cons, List.map_nil, List.getElem?_cons_zero, List.getElem?_cons_succ, Option.getD_some]
      repeat (go_big_quiet_step (fail))
      refine wpQuiet_nil ?_
      clear hne pk p0
      have X_2 := Lib.hid X0.out.drew
      have L_2 := Lib.hid L0.out.drew
      clear X0 L0
      generalize wr.drew = wd at *
      by_cases hmk : lk = m
      case neg =>
        have hne : ((lk : Int) != (m : Int)) = true := by rw [bne_iff_ne]; omega
        go_wp2_with fail
        refine (awake_any _).mono ?_; rintro e wz ⟨rfl, hz⟩
        have LZ := Lib.hid (bl L_2.out hz)
        clear hz
        go_wp2_with fail
        go_ret
        exact ⟨rfl, LZ.out⟩
      have hmk1 : ((lk : Int) != (m : Int)) = false := by rw [hmk]; simp
      have HMK := Lib.hid (hlk.trans hmk)
      clear hmk hlk hlt hk
      go_wp2_with fail
      exact ⟨⟨k + 1, HK.out, by go_num, fun j hj => by
        by_cases h : j = k
        · rw [h]; exact HMK.out
        · exact HLE.out j (by omega), X_2.out, L_2.out⟩, by have := HK.out; simp [intOf]; omega⟩
    · obtain rfl : k = n := by omega
      have kd : decide ((k : Int) < (k : Int)) = false := decide_eq_false (by omega)
      obtain ⟨n, rfl⟩ : ∃ n, n = k := ⟨_, rfl⟩
      clear hlt hk
      have kn0 : (0 : Int) < (n : Int) := by have := HN.out; omega
      go_upto_region 8 with fail
      clear kd
      have HSP := Lib.hid (fun W => spot_in m d (by have := HMB.out; omega) HDB.out W)
      go_cut [8, 9, 10] from 93 to 103 (fun s8 s9 s10 wx => ∃ (sb g h : Nat), s8 = .pointer (some ⟨sb, 0, none⟩) ∧ s9 = .pointer (some ⟨g, 0, none⟩) ∧ s10 = .bool true ∧ Blk wx sb 23 #[.int .i64 0, .int .i64 1, .int .i64 2, .int .i64 m, .int .i64 d] ∧ BankAt wx g h (zeros (2 + m * d)) 0 ∧ (wr.heap.size ≤ h ∧ h < g ∧ g < wx.heap.size ∧ wr.heap.size ≤ sb ∧ sb < wx.heap.size ∧ sb ≠ g ∧ sb ≠ h) ∧ Below wr.heap.size wr wx)
      case first =>
        have hne : Nonempty (Held (Below wr.heap.size wr)) := ⟨⟨wr, Below.refl _ _⟩⟩
        have p0 : ∀ y : Held (Below wr.heap.size wr), y.w.cell? ⟨b, o, none⟩ = some (.slice A0 m c0) := fun y => by rw [← HE0.out]; exact ((bl L0.out y.ok).cell (p := ⟨b, o, none⟩) HBB.out).trans (HCS.out 0 (by have := HN.out; omega))
        have x0 : ∀ y : Held (Below wr.heap.size wr), y.w.cell? ⟨B, 0, none⟩ = some (.int .i64 d) := fun y => (X0.out.bl y.ok).cell 0
        refine drawn_sch (S := (Below wr.heap.size wr)) [] (.two [0, 1, 2, 3, 4, 5] 6 (.bar [7, 8, 9, 10] 11 (.bar [] 12 (.fin [13, 14]))) 11 (.bar [] 6 (.bar [7, 8, 9, 10] 12 (.fin [13, 14])))) (by kernel_rfl) (by kernel_rfl) (by kernel_rfl) rfl (Below.refl _ _).drew ?_
        refine PhasedC.two_ ?_
        simp only [pick, List.map_cons, List.map_nil, List.getElem?_cons_zero, List.getElem?_cons_succ, Option.getD_some]
        repeat (go_big_quiet_step (fail))
        refine wpQuiet_nil ?_
        clear p0 x0
        refine ⟨?_, ?_⟩
        · skip
          go_wp2_with fail
          refine (HSP.out wr.drew).mono ?_; rintro e w3 ⟨g, h, rfl, hk, q1, q2, q3, hb⟩
          have hb2 := bl (Below.refl wr.heap.size wr).drew hb
          go_wp2_with fail
          refine behind_normal ⟨(Below wr.heap.size wr), fun W h => h, by first | exact hb2 | exact fun _ => hb2, ?_⟩
          refine PhasedC.bar_ ?_
          simp only [pick, List.map_cons, List.map_nil, List.getElem?_cons_zero, List.getElem?_cons_succ, Option.getD_some]
          repeat (go_big_quiet_step (fail))
          refine wpQuiet_nil ?_
          go_wp2_with fail
          have LB := Lib.hid (hb2.alloc hb2.size (.cells #[.int .i64 0, .int .i64 0, .int .i64 0, .int .i64 0, .int .i64 0] 23))
          have BT := Lib.hid (Blk.new w3 23 #[.int .i64 0, .int .i64 0, .int .i64 0, .int .i64 0, .int .i64 0])
          have KT := Lib.hid (hk.ex (T := fun _ => False) ((Ex.refl _ w3).alloc (.cells #[.int .i64 0, .int .i64 0, .int .i64 0, .int .i64 0, .int .i64 0] 23)) (fun h => h) (fun h => h))
          have BS := Lib.hid (show wr.heap.size ≤ h ∧ h < g ∧ g < w3.heap.size ∧ wr.heap.size ≤ w3.heap.size from ⟨q1, q2, q3, hb2.size⟩)
          refine behind_normal ⟨(Below wr.heap.size wr), fun W h => h, by first | exact LB.out | exact fun _ => LB.out, ?_⟩
          refine PhasedC.bar_ ?_
          simp only [pick, List.map_cons, List.map_nil, List.getElem?_cons_zero, List.getElem?_cons_succ, Option.getD_some]
          repeat (go_big_quiet_step (fail))
          refine wpQuiet_nil ?_
          generalize hw4 : w3.alloc (.cells #[.int .i64 0, .int .i64 0, .int .i64 0, .int .i64 0, .int .i64 0] 23) = w4 at *
          generalize w3.heap.size = sb at *
          clear hw4 hk hb hb2 q1 q2 q3
          have z0 := BT.out.cell 0
          have f0 := BT.out.frozen 0
          have z1 := BT.out.cell 1
          have f1 := BT.out.frozen 1
          have z2 := BT.out.cell 2
          have f2 := BT.out.frozen 2
          have z3 := BT.out.cell 3
          have f3 := BT.out.frozen 3
          have z4 := BT.out.cell 4
          have f4 := BT.out.frozen 4
          simp only [List.getElem?_toArray, List.getElem?_cons_succ, List.getElem?_cons_zero] at z0 z1 z2 z3 z4
          go_wp2_with fail
          have hb9 := rset5_blk (x0 := .int .i64 0) (x1 := .int .i64 1) (x2 := .int .i64 2) (x3 := .int .i64 m) (x4 := .int .i64 d) BT.out
          have LB2 := Lib.hid (rset5_below (x0 := .int .i64 0) (x1 := .int .i64 1) (x2 := .int .i64 2) (x3 := .int .i64 m) (x4 := .int .i64 d) (b := sb) LB.out (by have := BS.out; omega))
          have hk9 := KT.out.ex (rset5_ex (T := fun b => b = sb) (b := sb) (x0 := .int .i64 0) (x1 := .int .i64 1) (x2 := .int .i64 2) (x3 := .int .i64 m) (x4 := .int .i64 d) (Ex.refl _ w4) (.inl rfl)) (by have := BS.out; omega) (by have := BS.out; omega)
          refine behind_normal ⟨(Below wr.heap.size wr), fun W h => h, by first | exact LB2.out | exact fun _ => LB2.out, ?_⟩
          refine PhasedC.fin_ ?_
          simp only [pick, List.map_cons, List.map_nil, List.getElem?_cons_zero, List.getElem?_cons_succ, Option.getD_some]
          repeat (go_big_quiet_step (fail))
          refine wpQuiet_nil ?_
          go_wp2_with fail
          go_meet
          exact ⟨sb, g, h, rfl, rfl, rfl, hb9, hk9, by have h1 := BS.out; have h2 := hb9.lt; have h3 := hk9.head.lt; omega, LB2.out⟩
        · skip
          go_wp2_with fail
          have LB0 := Lib.hid (((Below.refl wr.heap.size wr).alloc (Nat.le_refl _) (.cells #[.int .i64 0, .int .i64 0, .int .i64 0, .int .i64 0, .int .i64 0] 23)).drew)
          have BT0 := Lib.hid (show Blk (wr.alloc (.cells #[.int .i64 0, .int .i64 0, .int .i64 0, .int .i64 0, .int .i64 0] 23)).drew wr.heap.size 23 #[.int .i64 0, .int .i64 0, .int .i64 0, .int .i64 0, .int .i64 0] from (Blk.new wr 23 #[.int .i64 0, .int .i64 0, .int .i64 0, .int .i64 0, .int .i64 0]).drew)
          refine behind_normal ⟨(Below wr.heap.size wr), fun W h => h, by first | exact LB0.out | exact fun _ => LB0.out, ?_⟩
          refine PhasedC.bar_ ?_
          simp only [pick, List.map_cons, List.map_nil, List.getElem?_cons_zero, List.getElem?_cons_succ, Option.getD_some]
          repeat (go_big_quiet_step (fail))
          refine wpQuiet_nil ?_
          generalize hw3 : (wr.alloc (.cells #[.int .i64 0, .int .i64 0, .int .i64 0, .int .i64 0, .int .i64 0] 23)).drew = w3 at *
          clear hw3
          go_wp2_with fail
          refine (HSP.out w3).mono ?_; rintro e w4 ⟨g, h, rfl, hk, q1, q2, q3, hb⟩
          have LB := Lib.hid (bl LB0.out hb)
          have BT := Lib.hid (BT0.out.bl hb)
          have KT := Lib.hid hk
          have BS := Lib.hid (show wr.heap.size ≤ h ∧ h < g ∧ wr.heap.size < h ∧ wr.heap.size < g from by have := BT0.out.lt; omega)
          clear hb hk q1 q2 q3
          go_wp2_with fail
          refine behind_normal ⟨(Below wr.heap.size wr), fun W h => h, by first | exact LB.out | exact fun _ => LB.out, ?_⟩
          refine PhasedC.bar_ ?_
          simp only [pick, List.map_cons, List.map_nil, List.getElem?_cons_zero, List.getElem?_cons_succ, Option.getD_some]
          repeat (go_big_quiet_step (fail))
          refine wpQuiet_nil ?_

          have z0 := BT.out.cell 0
          have f0 := BT.out.frozen 0
          have z1 := BT.out.cell 1
          have f1 := BT.out.frozen 1
          have z2 := BT.out.cell 2
          have f2 := BT.out.frozen 2
          have z3 := BT.out.cell 3
          have f3 := BT.out.frozen 3
          have z4 := BT.out.cell 4
          have f4 := BT.out.frozen 4
          simp only [List.getElem?_toArray, List.getElem?_cons_succ, List.getElem?_cons_zero] at z0 z1 z2 z3 z4
          go_wp2_with fail
          have hb9 := rset5_blk (x0 := .int .i64 0) (x1 := .int .i64 1) (x2 := .int .i64 2) (x3 := .int .i64 m) (x4 := .int .i64 d) BT.out
          have LB2 := Lib.hid (rset5_below (x0 := .int .i64 0) (x1 := .int .i64 1) (x2 := .int .i64 2) (x3 := .int .i64 m) (x4 := .int .i64 d) (b := wr.heap.size) LB.out (by have := BS.out; omega))
          have hk9 := KT.out.ex (rset5_ex (T := fun b => b = wr.heap.size) (b := wr.heap.size) (x0 := .int .i64 0) (x1 := .int .i64 1) (x2 := .int .i64 2) (x3 := .int .i64 m) (x4 := .int .i64 d) (Ex.refl _ w4) (.inl rfl)) (by have := BS.out; omega) (by have := BS.out; omega)
          refine behind_normal ⟨(Below wr.heap.size wr), fun W h => h, by first | exact LB2.out | exact fun _ => LB2.out, ?_⟩
          refine PhasedC.fin_ ?_
          simp only [pick, List.map_cons, List.map_nil, List.getElem?_cons_zero, List.getElem?_cons_succ, Option.getD_some]
          repeat (go_big_quiet_step (fail))
          refine wpQuiet_nil ?_
          go_wp2_with fail
          go_meet
          exact ⟨wr.heap.size, g, h, rfl, rfl, rfl, hb9, hk9, by have h1 := BS.out; have h2 := hb9.lt; have h3 := hk9.head.lt; omega, LB2.out⟩
      obtain ⟨sb, g, h, rfl, rfl, rfl, hsb, hk, hq, hl⟩ := hcut
      obtain ⟨wx, rfl⟩ : ∃ W : World, W = wc := ⟨_, rfl⟩
      have S1 := Lib.hid hsb
      have K1 := Lib.hid hk
      have X1 := Lib.hid (X0.out.bl hl)
      have L1 := Lib.hid (bl L0.out hl)
      have OQ := Lib.hid (show B < wr.heap.size ∧ wr.heap.size ≤ h ∧ h < g ∧ g < wx.heap.size ∧ wr.heap.size ≤ sb ∧ sb < wx.heap.size ∧ sb ≠ g ∧ sb ≠ h from ⟨X0.out.lt, hq⟩)
      clear hsb hk hq hl X0 L0 HSP
      have p0 : wx.cell? ⟨b, o, none⟩ = some (.slice A0 m c0) := by rw [← HE0.out]; exact (L1.out.cell (p := ⟨b, o, none⟩) HBB.out).trans (HCS.out 0 (by have := HN.out; omega))
      have hmk := make_words m (by have := HMB.out; omega) wx
      go_upto_region 18 with fail
      clear hmk p0
      have hm0 := Mem.start (rc := fun k => xs ((fun _ => 0) k)) L1.out (by have := OQ.out; have := HB.out; omega) K1.out X1.out S1.out
      have M0 := Lib.hid hm0
      have PU0 := Lib.hid (Pur.zero (m := m) (d := d) (n := n) (T := T) (vs := vs) (xs := xs) (mi := fun _ => 0) (mv := fun _ => .slice none 0 0))
      clear hm0 L1 K1 X1 S1
      generalize ((((wx.alloc (.cells ((zeros m).map (Value.int .u64)).toArray 43)).alloc (.cells #[.slice (some ⟨wx.heap.size, 0, none⟩) m m] 42)).alloc (.cells #[.pointer none, .pointer none] 63)).alloc (.cells #[.slice none 0 0, .slice none 0 0] 64)) = w4 at *
      generalize hmb : wx.heap.size + 1 + 1 + 1 = mb at *
      generalize hob : wx.heap.size + 1 + 1 = ob at *
      generalize hdb : wx.heap.size + 1 = db at *
      generalize hzb : wx.heap.size = zb at *
      clear hmb hob hdb hzb OQ HB
      obtain ⟨wk, rfl⟩ : ∃ wk : World, wk = w4 := ⟨_, rfl⟩
      go_loopw [11, 12, 15, 16, 17] (fun s11 s12 s15 s16 s17 wr => ∃ (i nx : Nat) (t : Int) (ws : List Int) (lam mi : Nat → Nat) (st : Nat → Option O1) (mv : Nat → Value) (dl nl : List Nat) (rd : Option R1) (hd : Int), i ≤ na ∧ s17 = .int .i64 i ∧ nx ≤ i ∧ s12 = .int .i64 nx ∧ dl.length ≤ i ∧ nl.length ≤ i ∧ s15 = rdV rd ∧ Mem w wr ⟨g, h, B, sb, zb, ob, mb, m, d, T⟩ lam ws t (fun k => xs (mi k)) st mv s11 (.slice (some ⟨zb, 0, none⟩) m m :: dl.map vs) s16 nl rd ∧ Pur m d n T vs xs ws mi st mv dl nl rd hd) (fun s11 s12 s15 s16 s17 _ => na + 1 - (intOf s17).toNat)
      case atStart => exact ⟨0, 0, 0, _, _, _, _, _, [], [], none, _, by omega, rfl, by omega, rfl, by simp, by simp, rfl, M0.out, PU0.out⟩
      case round =>
        clear M0 PU0
        obtain ⟨i, nx, t, ws, lam, mi, st, mv, dl, nl, rd, hd, hi, rfl, hnx, rfl, hdl, hnl, hr15, hM, hP⟩ := hrel
        obtain ⟨DA, dc, hdv⟩ := orow_form hM.done.1
        obtain ⟨NA, nc, hnv⟩ := orow_form hM.news.1
        rw [show (.slice (some ⟨zb, 0, none⟩) m m :: dl.map vs).length = dl.length + 1 by simp] at hdv
        subst hdv hnv
        have M0 := Lib.hid hM
        have PU := Lib.hid hP
        have HI := Lib.hid (show i ≤ na ∧ nx ≤ i ∧ dl.length ≤ i ∧ nl.length ≤ i from ⟨hi, hnx, hdl, hnl⟩)
        have HWF := Lib.hid hM.bank.fit
        clear hM hP hnx hdl hnl
        by_cases hend : i = na
        case pos =>
          have kd : decide ((i : Int) < (na : Int)) = false := decide_eq_false (by omega)
          have kdn : decide (i < na) = false := decide_eq_false (by omega)
          have kdm : ¬ i < na := by omega
          clear hi hend
          go_wp2_with fail
          refine (awake_any _).mono ?_; rintro e wz ⟨rfl, hz⟩
          have LZ := Lib.hid (bl M0.out.low hz)
          clear hz
          go_wp2_with fail
          go_ret
          exact ⟨rfl, LZ.out⟩
        have HIN := Lib.hid (show i < na by omega)
        have kd : decide ((i : Int) < (na : Int)) = true := decide_eq_true (by have := HIN.out; omega)
        clear hend hi
        obtain ⟨b2, o2, rfl, hb2, hx2⟩ := HPX.out (by intro e; have h1 := HNA.out; have h2 := HIN.out; rw [e] at h1; simp at h1; omega)
        have hx3 := (M0.out.low.cell (p := ⟨b2, o2 + i, none⟩) hb2).trans (hx2 i (by rw [HNA.out]; exact HIN.out))
        have ki0 : (0 : Int) ≤ (i : Int) := by omega
        have ki1 : (i : Int) < (na : Int) := by have := HIN.out; omega
        have ki5 : (i : Int) ≤ 400 := by have := HI.out; have := HNB.out; omega
        obtain ⟨pk, hp⟩ : ∃ pk, nth ps i = pk := ⟨_, rfl⟩
        rw [hp] at hx3
        obtain ⟨k, hk4, km1, km2⟩ := mod4 pk
        have HK4 := Lib.hid hk4
        obtain ⟨rm, hrm⟩ : ∃ r, pk.tmod 4 = r := ⟨_, rfl⟩
        rw [hrm] at km1 km2
        clear hb2 hx2 hp hk4
        by_cases hk2 : k < 2
        case neg =>
          have kg : decide ((k : Int) < 2) = false := decide_eq_false (by omega)
          as_aux_lemma =>
            have kx5 : (nx : Int) ≤ 400 := by have := HI.out; have := HNB.out; omega
            clear hk2
            cases rd with
            | some s =>
              as_aux_lemma =>
                have MX := Lib.hid M0.out
                have PUX := Lib.hid PU.out
                have HNN := Lib.hid (show nl.length ≤ i from HI.out.2.2.2)
                clear M0 PU
                simp only [rdV, Option.map_some] at hr15
                subst hr15
                go_upto_region 42 with fail
                clear hx3 km1 km2 kg hrm
                have hN5 : (dl.length : Int) ≤ 400 := by have := HI.out; have := HNB.out; omega
                have hN0 : (0 : Int) ≤ (dl.length : Int) := by omega
                have hwa : wrap64 ((dl.length : Int) + 1 - 1) = (dl.length : Int) := by unfold wrap64; omega
                have hwb : wrap64 (dl.length : Int) = (dl.length : Int) := by unfold wrap64; omega
                obtain ⟨i0_, hi0, hz0, hz1, hz2⟩ := info_parts wint_info
                have OWN := Lib.hid MX.out.news.1
                go_wp2_with (at_builtin; refine wpList_append_own_at _ rfl _ _ 59 rfl w.heap.size 3 i0_ (.int .i64 0) 1 8 Try.underlying59 hi0 hz0 hz1 hz2 rfl (by decide) _ _ _ rfl (OWN.out.alloc _) ⟨wr.heap.size, 0, none⟩ 1 1 [.int .i64 (dl.length : Int)] rfl rfl ?c1 ?c2 ?c3 ?c4 ?c5 ?_)
                case c1 =>
                  have hbn := Blk.new wr 3 #[.int .i64 (dl.length : Int)]
                  intro j u hj
                  match j, hj with
                  | 0, hj => simp at hj; subst hj; exact hbn.cell 0
                case c2 =>
                  intro u hu
                  simp only [List.mem_cons, List.not_mem_nil, or_false] at hu
                  subst hu; rfl
                case c3 => have := HNN.out; have := HNB.out; unfold maxLen; omega
                case c4 => have := HNN.out; have := HNB.out; omega
                case c5 => have := MX.out.low.size; simp; omega
                intro v' w8 hown' hgrow _ hat
                have hgr : Ex (fun b => (Value.slice NA nl.length nc).ownBlock = some b) wr w8 := ((Ex.refl _ wr).alloc (.cells #[.int .i64 (dl.length : Int)] 3)).trans (ex_grown hgrow)
                obtain ⟨lam2, hl1, hl2⟩ := lam_new lam wr.heap.size 2
                have hown2 := hown'
                rw [show natV nl ++ [Value.int .i64 (dl.length : Int)] = natV (nl ++ [dl.length]) from natV_push _ _] at hown2
                have hm1 := MX.out.pushNews (z := dl.length) hgr hown2 hat (by simp) hl1 hl2
                have HRS := Lib.hid (fun t {x' : RS} {got' : List Int} {t' : Int} he => PUX.out.rstep (by have := HMB.out; omega) HDB.out (by have := HI.out; have := HNB.out; omega) HLE.out HWF.out rfl t (x' := x') (got' := got') (t' := t') he)
                obtain ⟨nl2, hnl2⟩ : ∃ l, nl ++ [dl.length] = l := ⟨_, rfl⟩
                rw [hnl2] at HRS hm1
                have HNL2 := Lib.hid (show nl2.length ≤ i + 1 ∧ 1 ≤ nl2.length by rw [← hnl2, List.length_append]; simp only [List.length_cons, List.length_nil]; have := HNN.out; omega)
                obtain ⟨NB, nb, hv'⟩ := orow_form hm1.news.1
                subst hv'
                have M1 := Lib.hid hm1
                clear hm1 hown' hown2 hgrow hat hgr hl1 hl2 hnl2 OWN hwa hwb MX
                obtain ⟨hra, hro, hrr, hlo, hlr⟩ := M1.out.rdr s rfl
                obtain ⟨hri, -⟩ := PUX.out.rds s rfl
                obtain ⟨x1, got1, t1, he⟩ : ∃ a b c, rdStep (spotOf m d) T s.x s.got ws t = (a, b, c) := ⟨_, _, _, rfl⟩
                have HS := Lib.hid (HRS.out t he)
                have hcall := RStep_any g h s.o s.r ws t (spotOf m d) T s.x s.got w8 M1.out.bank hra hri (M1.out.rdne rfl)
                rw [he] at hcall
                simp only at hcall
                have HC := Lib.hid hcall
                clear hcall he hra hro hrr hlo hlr hri HRS PUX
                go_wp2_with fail
                refine HC.out.mono ?_; rintro e w6 ⟨rfl, hk6, ho6, hx6⟩
                have M2 := Lib.hid (M1.out.rstep rfl hx6 hk6 ho6)
                have O6 := Lib.hid ho6
                clear hk6 ho6 hx6 M1 HC
                obtain ⟨hst, hmo, hinv, hcs3⟩ := HS.out
                have HINV := Lib.hid hinv
                obtain ⟨mm, hmm⟩ : ∃ z, mostR (spotOf m d) T = z := ⟨_, rfl⟩
                have HMM := Lib.hid hmm
                rw [hmm, hst] at hmo
                have g1 : ((nl2.length : Int) != (nl2.length : Int)) = false := by simp
                have g2 : decide ((nl2.length : Int) > mm) = false := decide_eq_false (by omega)
                have HST6 := Lib.hid hst
                have HSM := Lib.hid (fun W => RMost_any (spotOf m d) T W)
                unfold Spot.val spotOf at HSM
                simp only at HSM
                have s0 : w6.cell? ⟨sb, 0, none⟩ = some (.int .i64 0) := M2.out.spot.cell 0
                have s1 : w6.cell? ⟨sb, 1, none⟩ = some (.int .i64 1) := M2.out.spot.cell 1
                have s2 : w6.cell? ⟨sb, 2, none⟩ = some (.int .i64 2) := M2.out.spot.cell 2
                have s3 : w6.cell? ⟨sb, 3, none⟩ = some (.int .i64 m) := M2.out.spot.cell 3
                have s4 : w6.cell? ⟨sb, 4, none⟩ = some (.int .i64 d) := M2.out.spot.cell 4
                have x_0 : w6.cell? ⟨B, 0, none⟩ = some (.int .i64 d) := M2.out.box.cell 0
                have x_1 : w6.cell? ⟨B, 1, none⟩ = some (.int .i64 T) := M2.out.box.cell 1
                have hn5 : (nl2.length : Int) ≤ 401 := by have := HNL2.out; have := HI.out; have := HNB.out; omega
                have HC3 := Lib.hid hcs3
                clear hst hmo hinv hmm hcs3 HS
                obtain ⟨hw, hhw⟩ : ∃ z, x1.how = z := ⟨_, rfl⟩
                have HHW := Lib.hid hhw
                have g3 : (hw == 3) = false := beq_eq_false_iff_ne.2 (by rw [← hhw]; rcases HC3.out with h9 | h9 | h9 <;> (have := h9.1; omega))
                rw [hhw]
                clear hhw
                go_wp2_with fail
                refine (RSteps_any s.o s.r (spotOf m d) T x1 got1 w6 O6.out).mono ?_; rintro e w66 ⟨rfl, rfl⟩
                rw [HST6.out]
                go_wp2_with fail
                refine (HSM.out w6).mono ?_; rintro e w7 ⟨rfl, hl7⟩
                rw [show mostR ⟨0, 1, 2, (m : Int), (d : Int)⟩ T = mm from HMM.out]
                have M3 := Lib.hid (M2.out.bl hl7)
                have O7 := Lib.hid (O6.out.below hl7)
                clear hl7 M2 O6 HSM s0 s1 s2 s3 s4 x_0 x_1
                rcases HC3.out with ⟨h0, hp⟩ | ⟨h1, hb1, hb2, hge, hgn, hgt, hp⟩ | ⟨h2, hsp, hp⟩
                · have e0 : hw = 0 := HHW.out.symm.trans h0
                  subst e0
                  have P6 := Lib.hid hp
                  clear h0 hp HC3
                  go_upto_region 51 with fail
                  clear g1 g2 g3
                  have hne : Nonempty (Held (fun W => W = w7.drew)) := ⟨⟨_, rfl⟩⟩
                  refine drawn_bars (S := fun _ => True) [] [0, 1, 2, 3, 4, 5, 6, 7, 8, 9, 10, 11, 12, 13, 14, 15, 16, 17] (by kernel_rfl) (by kernel_rfl) (by kernel_rfl) rfl trivial ?_
                  refine Phased.end_ ?_
                  simp only [pick, List.map_cons, List.map_nil, List.getElem?_cons_zero, List.getElem?_cons_succ, Option.getD_some]
                  repeat (go_big_quiet_step (fail))
                  refine wpQuiet_nil ?_
                  have M4 := Lib.hid (M3.out.bl (Below.refl w7.heap.size w7).drew)
                  clear M3 hne
                  generalize w7.drew = w9 at *
                  go_wp2_with fail
                  exact ⟨⟨i + 1, nx, t1, ws, lam2, mi, st, mv, dl, nl2, _, hd, by have := HIN.out; omega, by go_num, by have := HI.out; omega, rfl, by have := HI.out; omega, by have := HNL2.out; omega, rfl, M4.out, P6.out⟩, by have := HIN.out; simp [intOf]; omega⟩
                · have e0 : hw = 1 := HHW.out.symm.trans h1
                  subst e0
                  have P6 := Lib.hid hp
                  obtain ⟨j, hj⟩ : ∃ j : Nat, x1.begun = (j : Int) + 1 := ⟨(x1.begun - 1).toNat, by omega⟩
                  have ej : (x1.begun - 1).toNat = j := by omega
                  rw [ej] at hge hgn hgt
                  rw [hj] at hb2
                  have HJ := Lib.hid (show j < nl2.length by omega)
                  obtain ⟨gz, hgz⟩ : ∃ z, gnth nl2 j = z := ⟨_, rfl⟩
                  rw [hgz] at hge hgn hgt
                  have HGT := Lib.hid hgt
                  have HGE := Lib.hid hge
                  have HBE := Lib.hid hj
                  have HGZ := Lib.hid hgz
                  have HGN := Lib.hid hgn
                  have HH1 := Lib.hid h1
                  have j1 : decide ((j : Int) + 1 < 1) = false := decide_eq_false (by omega)
                  have j2 : decide ((j : Int) + 1 > (nl2.length : Int)) = false := decide_eq_false (by have := HJ.out; omega)
                  have j3 : wrap64 ((j : Int) + 1 - 1) = (j : Int) := by have := HJ.out; unfold wrap64; omega
                  have j4 : ((gz : Int) != (gz : Int)) = false := by simp
                  have j5 : IntKind.u64.wrap (gz : Int) = (gz : Int) := u64_wrap_in (by omega)
                  have jj0 : (0 : Int) ≤ (j : Int) := by omega
                  have jj1 : (j : Int) < (nl2.length : Int) := by have := HJ.out; omega
                  have jj2 : j < nl2.length := HJ.out
                  have jj3 : decide (j < nl2.length) = true := decide_eq_true HJ.out
                  have gg0 : (0 : Int) ≤ (gz : Int) := by omega
                  have gg1 : (gz : Int) < (dl.length : Int) + 1 := by omega
                  clear h1 hb1 hb2 hge hgn hgt hp hj ej hgz HC3
                  go_wp2_with fail
                  refine (RGot_done s.o s.r (spotOf m d) T x1 got1 w7 O7.out HINV.out HH1.out).mono ?_; rintro e w9 ⟨q9, rfl, hrow, hq9, hl9⟩
                  rw [HGE.out]
                  have M4 := Lib.hid (M3.out.bl hl9)
                  have O9 := Lib.hid (O7.out.below hl9)
                  have R9 := Lib.hid hrow
                  clear hl9 hrow hq9 M3 O7
                  obtain ⟨vz, hvz⟩ : ∃ u, (.slice (some ⟨zb, 0, none⟩) m m :: dl.map vs)[gz]? = some u := ⟨_, List.getElem?_eq_getElem (by simp; have := HGN.out; omega)⟩
                  obtain ⟨nb1, nb2, hnv, -, -, hnc⟩ := orow_at M4.out.news.1 (natV_len _) (natV_at nl2 HJ.out)
                  have hod := M4.out.done.1
                  rw [show (.slice (some ⟨zb, 0, none⟩) m m :: dl.map vs).length = dl.length + 1 by simp] at hod
                  obtain ⟨db1, db2, hdv, -, -, hdc⟩ := orow_at hod (by simp) hvz
                  rw [HGZ.out] at hnc
                  injection hnv with hnv1 hnv2 hnv3
                  injection hdv with hdv1 hdv2 hdv3
                  subst hnv1 hdv1
                  have HVZ := Lib.hid hvz
                  clear hod hnv2 hnv3 hdv2 hdv3 hvz
                  have HIZ := Lib.hid (show Ints w9 .u64 vz (recsF m xs dl gz) by
                    have h9 := HVZ.out
                    unfold recsF
                    by_cases hz : gz = 0
                    · subst hz
                      rw [if_pos rfl]
                      simp only [List.getElem?_cons_zero, Option.some.injEq] at h9
                      subst h9
                      have h8 := Row.ints M4.out.zrow (by have := HMB.out; simp [zeros, maxLen]; omega)
                      simpa [zeros] using h8
                    · rw [if_neg hz]
                      obtain ⟨gy, rfl⟩ : ∃ gy, gz = gy + 1 := ⟨gz - 1, by omega⟩
                      have hgy : gy < dl.length := by have := HGN.out; omega
                      simp only [List.getElem?_cons_succ, List.getElem?_map, List.getElem?_eq_getElem hgy, Option.map_some, Option.some.injEq] at h9
                      subst h9
                      have e9 : dl[gy] = gnth dl gy := by simp [gnth, List.getD_eq_getElem?_getD, List.getElem?_eq_getElem hgy]
                      rw [e9]
                      exact (HX.out.rows _ (P6.out.dls gy hgy)).1.below M4.out.low)
                  have HWD := Lib.hid (words_any (.slice (some ⟨q9, 0, none⟩) got1.length got1.length) vz got1 (recsF m xs dl gz) w9 (Row.ints R9.out (by have := HINV.out.len; have := HMB.out; have e9 : (spotOf (m : Int) (d : Int)).words = (m : Int) := rfl; unfold maxLen; omega)) HIZ.out (by have := HINV.out.len; have := HMB.out; have e9 : (spotOf (m : Int) (d : Int)).words = (m : Int) := rfl; omega))
                  go_wp2_with fail
                  refine (RAt_any s.o s.r (spotOf m d) T x1 got1 w9 O9.out).mono ?_; rintro e w99 ⟨rfl, rfl⟩
                  rw [if_pos HH1.out, HBE.out]
                  go_wp2_with fail
                  refine HWD.out.mono ?_; rintro e w10 ⟨rfl, hl10⟩
                  rw [decide_eq_true HGT.out]
                  have M5 := Lib.hid (M4.out.bl hl10)
                  clear hl10 M4 hnc hdc j1 j2 j3 j4 j5 HWD
                  go_upto_region 51 with fail
                  clear g1 g2 g3
                  have hne : Nonempty (Held (fun W => W = w10.drew)) := ⟨⟨_, rfl⟩⟩
                  refine drawn_bars (S := fun _ => True) [] [0, 1, 2, 3, 4, 5, 6, 7, 8, 9, 10, 11, 12, 13, 14, 15, 16, 17] (by kernel_rfl) (by kernel_rfl) (by kernel_rfl) rfl trivial ?_
                  refine Phased.end_ ?_
                  simp only [pick, List.map_cons, List.map_nil, List.getElem?_cons_zero, List.getElem?_cons_succ, Option.getD_some]
                  repeat (go_big_quiet_step (fail))
                  refine wpQuiet_nil ?_
                  have M6 := Lib.hid (M5.out.bl (Below.refl w10.heap.size w10).drew).noRd
                  clear M5 hne
                  generalize w10.drew = w11 at *
                  go_wp2_with fail
                  exact ⟨⟨i + 1, nx, t1, ws, lam2, mi, st, mv, dl, nl2, none, hd, by have := HIN.out; omega, by go_num, by have := HI.out; omega, rfl, by have := HI.out; omega, by have := HNL2.out; omega, rfl, M6.out, P6.out⟩, by have := HIN.out; simp [intOf]; omega⟩
                · have e0 : hw = 2 := HHW.out.symm.trans h2
                  subst e0
                  have P6 := Lib.hid hp
                  obtain ⟨nb1, nb2, hnv, -, -, hnc⟩ := orow_at M3.out.news.1 (natV_len _) (natV_at nl2 (show 0 < nl2.length by have := HNL2.out; omega))
                  injection hnv with hnv1 hnv2 hnv3
                  subst hnv1
                  have hg0 := P6.out.nls 0 (by have := HNL2.out; omega)
                  obtain ⟨gz, hgz⟩ : ∃ z, gnth nl2 0 = z := ⟨_, rfl⟩
                  rw [hgz] at hnc hsp hg0
                  have kp0 : 0 ≤ T * ((d : Int) - 1) := Int.mul_nonneg (by have := HTB.out; omega) (by have := HDB.out; omega)
                  have j1 : wrap64 ((d : Int) - 1) = (d : Int) - 1 := by have := HDB.out; unfold wrap64; omega
                  have j2 : wrap64 (T * ((d : Int) - 1)) = T * ((d : Int) - 1) := by unfold wrap64; omega
                  have j3 : wrap64 ((dl.length : Int) - (gz : Int)) = (dl.length : Int) - (gz : Int) := by unfold wrap64; omega
                  have j4 : decide ((dl.length : Int) - (gz : Int) < T * ((d : Int) - 1)) = false := decide_eq_false (by omega)
                  have j6 : wrap64 ((dl.length : Int) + 1 - 1) = (dl.length : Int) := by unfold wrap64; omega
                  have jj0 : (0 : Int) < (nl2.length : Int) := by have := HNL2.out; omega
                  have jj2 : 0 < nl2.length := by have := HNL2.out; omega
                  have jj3 : decide (0 < nl2.length) = true := decide_eq_true jj2
                  clear h2 hsp hp hgz hg0 kp0 hnv2 hnv3 HC3
                  go_upto_region 51 with fail
                  clear g1 g2 g3
                  have hne : Nonempty (Held (fun W => W = w7.drew)) := ⟨⟨_, rfl⟩⟩
                  have q0 : ∀ y : Held (fun W => W = w7.drew), y.w.cell? ⟨nb1, 0, none⟩ = some (.int .i64 (gz : Int)) := fun y => by rw [y.ok]; exact hnc
                  have q1 : ∀ y : Held (fun W => W = w7.drew), y.w.cell? ⟨B, 0, none⟩ = some (.int .i64 d) := fun y => by rw [y.ok]; exact M3.out.box.cell 0
                  have q2 : ∀ y : Held (fun W => W = w7.drew), y.w.cell? ⟨B, 1, none⟩ = some (.int .i64 T) := fun y => by rw [y.ok]; exact M3.out.box.cell 1
                  refine drawn_bars (S := fun _ => True) [] [0, 1, 2, 3, 4, 5, 6, 7, 8, 9, 10, 11, 12, 13, 14, 15, 16, 17] (by kernel_rfl) (by kernel_rfl) (by kernel_rfl) rfl trivial ?_
                  refine Phased.end_ ?_
                  simp only [pick, List.map_cons, List.map_nil, List.getElem?_cons_zero, List.getElem?_cons_succ, Option.getD_some]
                  repeat (go_big_quiet_step (fail))
                  refine wpQuiet_nil ?_
                  have M6 := Lib.hid (M3.out.bl (Below.refl w7.heap.size w7).drew).noRd
                  clear M3 hne q0 q1 q2 hnc j1 j2 j3 j4 j6
                  generalize w7.drew = w11 at *
                  go_wp2_with fail
                  exact ⟨⟨i + 1, nx, t1, ws, lam2, mi, st, mv, dl, nl2, none, hd, by have := HIN.out; omega, by go_num, by have := HI.out; omega, rfl, by have := HI.out; omega, by have := HNL2.out; omega, rfl, M6.out, P6.out⟩, by have := HIN.out; simp [intOf]; omega⟩
            | none =>
              as_aux_lemma =>
                simp only [rdV, Option.map_none] at hr15
                subst hr15
                have HMAY := Lib.hid (spot_right (m := m) (d := d) (by have := HMB.out; omega) HDB.out T HTB.out)
                have HNR := Lib.hid (RNew_in (spotOf m d) T wr HMAY.out)
                unfold Spot.val spotOf at HNR
                simp only [Int.toNat_natCast] at HNR
                have s0 : wr.cell? ⟨sb, 0, none⟩ = some (.int .i64 0) := M0.out.spot.cell 0
                have s1 : wr.cell? ⟨sb, 1, none⟩ = some (.int .i64 1) := M0.out.spot.cell 1
                have s2 : wr.cell? ⟨sb, 2, none⟩ = some (.int .i64 2) := M0.out.spot.cell 2
                have s3 : wr.cell? ⟨sb, 3, none⟩ = some (.int .i64 m) := M0.out.spot.cell 3
                have s4 : wr.cell? ⟨sb, 4, none⟩ = some (.int .i64 d) := M0.out.spot.cell 4
                have x_0 : wr.cell? ⟨B, 0, none⟩ = some (.int .i64 d) := M0.out.box.cell 0
                have x_1 : wr.cell? ⟨B, 1, none⟩ = some (.int .i64 T) := M0.out.box.cell 1
                go_wp2_with fail
                refine HNR.out.mono ?_; rintro e w5 ⟨ro, rr, rfl, hrd, q1, q2, hl⟩
                obtain ⟨lam5, hl1, hl2⟩ := lam_new lam wr.heap.size 5
                have hm1 := M0.out.nilNews.newRd (s := ⟨ro, rr, RS.zero, zeros m⟩) hl hrd (by show wr.heap.size ≤ ro; have q3 : wr.heap.size ≤ rr := q1; omega) q1 hl1 hl2
                have hp1 := PU.out.rnew (s := ⟨ro, rr, RS.zero, zeros m⟩) HMAY.out rfl rfl
                obtain ⟨s, hs9⟩ : ∃ s : R1, (⟨ro, rr, RS.zero, zeros m⟩ : R1) = s := ⟨_, rfl⟩
                have hs8 : ro = s.o := by rw [← hs9]
                rw [hs9] at hm1 hp1
                have MX := Lib.hid hm1
                have PUX := Lib.hid hp1
                have HNN := Lib.hid (show ([] : List Nat).length ≤ i from by simp)
                clear hs9 hm1 hp1 hrd q1 q2 hl hl1 hl2 M0 PU s0 s1 s2 s3 s4 x_0 x_1 HNR
                subst hs8
                go_upto_region 42 with fail
                clear hx3 km1 km2 kg hrm
                have hN5 : (dl.length : Int) ≤ 400 := by have := HI.out; have := HNB.out; omega
                have hN0 : (0 : Int) ≤ (dl.length : Int) := by omega
                have hwa : wrap64 ((dl.length : Int) + 1 - 1) = (dl.length : Int) := by unfold wrap64; omega
                have hwb : wrap64 (dl.length : Int) = (dl.length : Int) := by unfold wrap64; omega
                obtain ⟨i0_, hi0, hz0, hz1, hz2⟩ := info_parts wint_info
                have OWN := Lib.hid MX.out.news.1
                go_wp2_with (at_builtin; refine wpList_append_own_at _ rfl _ _ 59 rfl w.heap.size 3 i0_ (.int .i64 0) 1 8 Try.underlying59 hi0 hz0 hz1 hz2 rfl (by decide) _ _ _ rfl (OWN.out.alloc _) ⟨w5.heap.size, 0, none⟩ 1 1 [.int .i64 (dl.length : Int)] rfl rfl ?c1 ?c2 ?c3 ?c4 ?c5 ?_)
                case c1 =>
                  have hbn := Blk.new w5 3 #[.int .i64 (dl.length : Int)]
                  intro j u hj
                  match j, hj with
                  | 0, hj => simp at hj; subst hj; exact hbn.cell 0
                case c2 =>
                  intro u hu
                  simp only [List.mem_cons, List.not_mem_nil, or_false] at hu
                  subst hu; rfl
                case c3 => have := HNN.out; have := HNB.out; unfold maxLen; omega
                case c4 => have := HNN.out; have := HNB.out; omega
                case c5 => have := MX.out.low.size; simp; omega
                intro v' w8 hown' hgrow _ hat
                have hgr : Ex (fun b => (Value.slice none 0 0).ownBlock = some b) w5 w8 := ((Ex.refl _ w5).alloc (.cells #[.int .i64 (dl.length : Int)] 3)).trans (ex_grown hgrow)
                obtain ⟨lam2, hl1, hl2⟩ := lam_new lam5 w5.heap.size 2
                have hown2 := hown'
                rw [show natV ([] : List Nat) ++ [Value.int .i64 (dl.length : Int)] = natV (([] : List Nat) ++ [dl.length]) from natV_push _ _] at hown2
                have hm1 := MX.out.pushNews (z := dl.length) hgr hown2 hat (by simp) hl1 hl2
                have HRS := Lib.hid (fun t {x' : RS} {got' : List Int} {t' : Int} he => PUX.out.rstep (by have := HMB.out; omega) HDB.out (by have := HI.out; have := HNB.out; omega) HLE.out HWF.out rfl t (x' := x') (got' := got') (t' := t') he)
                obtain ⟨nl2, hnl2⟩ : ∃ l, ([] : List Nat) ++ [dl.length] = l := ⟨_, rfl⟩
                rw [hnl2] at HRS hm1
                have HNL2 := Lib.hid (show nl2.length ≤ i + 1 ∧ 1 ≤ nl2.length by rw [← hnl2, List.length_append]; simp only [List.length_cons, List.length_nil]; have := HNN.out; omega)
                obtain ⟨NB, nb, hv'⟩ := orow_form hm1.news.1
                subst hv'
                have M1 := Lib.hid hm1
                clear hm1 hown' hown2 hgrow hat hgr hl1 hl2 hnl2 OWN hwa hwb MX
                obtain ⟨hra, hro, hrr, hlo, hlr⟩ := M1.out.rdr s rfl
                obtain ⟨hri, -⟩ := PUX.out.rds s rfl
                obtain ⟨x1, got1, t1, he⟩ : ∃ a b c, rdStep (spotOf m d) T s.x s.got ws t = (a, b, c) := ⟨_, _, _, rfl⟩
                have HS := Lib.hid (HRS.out t he)
                have hcall := RStep_any g h s.o s.r ws t (spotOf m d) T s.x s.got w8 M1.out.bank hra hri (M1.out.rdne rfl)
                rw [he] at hcall
                simp only at hcall
                have HC := Lib.hid hcall
                clear hcall he hra hro hrr hlo hlr hri HRS PUX
                go_wp2_with fail
                refine HC.out.mono ?_; rintro e w6 ⟨rfl, hk6, ho6, hx6⟩
                have M2 := Lib.hid (M1.out.rstep rfl hx6 hk6 ho6)
                have O6 := Lib.hid ho6
                clear hk6 ho6 hx6 M1 HC
                obtain ⟨hst, hmo, hinv, hcs3⟩ := HS.out
                have HINV := Lib.hid hinv
                obtain ⟨mm, hmm⟩ : ∃ z, mostR (spotOf m d) T = z := ⟨_, rfl⟩
                have HMM := Lib.hid hmm
                rw [hmm, hst] at hmo
                have g1 : ((nl2.length : Int) != (nl2.length : Int)) = false := by simp
                have g2 : decide ((nl2.length : Int) > mm) = false := decide_eq_false (by omega)
                have HST6 := Lib.hid hst
                have HSM := Lib.hid (fun W => RMost_any (spotOf m d) T W)
                unfold Spot.val spotOf at HSM
                simp only at HSM
                have s0 : w6.cell? ⟨sb, 0, none⟩ = some (.int .i64 0) := M2.out.spot.cell 0
                have s1 : w6.cell? ⟨sb, 1, none⟩ = some (.int .i64 1) := M2.out.spot.cell 1
                have s2 : w6.cell? ⟨sb, 2, none⟩ = some (.int .i64 2) := M2.out.spot.cell 2
                have s3 : w6.cell? ⟨sb, 3, none⟩ = some (.int .i64 m) := M2.out.spot.cell 3
                have s4 : w6.cell? ⟨sb, 4, none⟩ = some (.int .i64 d) := M2.out.spot.cell 4
                have x_0 : w6.cell? ⟨B, 0, none⟩ = some (.int .i64 d) := M2.out.box.cell 0
                have x_1 : w6.cell? ⟨B, 1, none⟩ = some (.int .i64 T) := M2.out.box.cell 1
                have hn5 : (nl2.length : Int) ≤ 401 := by have := HNL2.out; have := HI.out; have := HNB.out; omega
                have HC3 := Lib.hid hcs3
                clear hst hmo hinv hmm hcs3 HS
                obtain ⟨hw, hhw⟩ : ∃ z, x1.how = z := ⟨_, rfl⟩
                have HHW := Lib.hid hhw
                have g3 : (hw == 3) = false := beq_eq_false_iff_ne.2 (by rw [← hhw]; rcases HC3.out with h9 | h9 | h9 <;> (have := h9.1; omega))
                rw [hhw]
                clear hhw
                go_wp2_with fail
                refine (RSteps_any s.o s.r (spotOf m d) T x1 got1 w6 O6.out).mono ?_; rintro e w66 ⟨rfl, rfl⟩
                rw [HST6.out]
                go_wp2_with fail
                refine (HSM.out w6).mono ?_; rintro e w7 ⟨rfl, hl7⟩
                rw [show mostR ⟨0, 1, 2, (m : Int), (d : Int)⟩ T = mm from HMM.out]
                have M3 := Lib.hid (M2.out.bl hl7)
                have O7 := Lib.hid (O6.out.below hl7)
                clear hl7 M2 O6 HSM s0 s1 s2 s3 s4 x_0 x_1
                rcases HC3.out with ⟨h0, hp⟩ | ⟨h1, hb1, hb2, hge, hgn, hgt, hp⟩ | ⟨h2, hsp, hp⟩
                · have e0 : hw = 0 := HHW.out.symm.trans h0
                  subst e0
                  have P6 := Lib.hid hp
                  clear h0 hp HC3
                  go_upto_region 51 with fail
                  clear g1 g2 g3
                  have hne : Nonempty (Held (fun W => W = w7.drew)) := ⟨⟨_, rfl⟩⟩
                  refine drawn_bars (S := fun _ => True) [] [0, 1, 2, 3, 4, 5, 6, 7, 8, 9, 10, 11, 12, 13, 14, 15, 16, 17] (by kernel_rfl) (by kernel_rfl) (by kernel_rfl) rfl trivial ?_
                  refine Phased.end_ ?_
                  simp only [pick, List.map_cons, List.map_nil, List.getElem?_cons_zero, List.getElem?_cons_succ, Option.getD_some]
                  repeat (go_big_quiet_step (fail))
                  refine wpQuiet_nil ?_
                  have M4 := Lib.hid (M3.out.bl (Below.refl w7.heap.size w7).drew)
                  clear M3 hne
                  generalize w7.drew = w9 at *
                  go_wp2_with fail
                  exact ⟨⟨i + 1, nx, t1, ws, lam2, mi, st, mv, dl, nl2, _, hd, by have := HIN.out; omega, by go_num, by have := HI.out; omega, rfl, by have := HI.out; omega, by have := HNL2.out; omega, rfl, M4.out, P6.out⟩, by have := HIN.out; simp [intOf]; omega⟩
                · have e0 : hw = 1 := HHW.out.symm.trans h1
                  subst e0
                  have P6 := Lib.hid hp
                  obtain ⟨j, hj⟩ : ∃ j : Nat, x1.begun = (j : Int) + 1 := ⟨(x1.begun - 1).toNat, by omega⟩
                  have ej : (x1.begun - 1).toNat = j := by omega
                  rw [ej] at hge hgn hgt
                  rw [hj] at hb2
                  have HJ := Lib.hid (show j < nl2.length by omega)
                  obtain ⟨gz, hgz⟩ : ∃ z, gnth nl2 j = z := ⟨_, rfl⟩
                  rw [hgz] at hge hgn hgt
                  have HGT := Lib.hid hgt
                  have HGE := Lib.hid hge
                  have HBE := Lib.hid hj
                  have HGZ := Lib.hid hgz
                  have HGN := Lib.hid hgn
                  have HH1 := Lib.hid h1
                  have j1 : decide ((j : Int) + 1 < 1) = false := decide_eq_false (by omega)
                  have j2 : decide ((j : Int) + 1 > (nl2.length : Int)) = false := decide_eq_false (by have := HJ.out; omega)
                  have j3 : wrap64 ((j : Int) + 1 - 1) = (j : Int) := by have := HJ.out; unfold wrap64; omega
                  have j4 : ((gz : Int) != (gz : Int)) = false := by simp
                  have j5 : IntKind.u64.wrap (gz : Int) = (gz : Int) := u64_wrap_in (by omega)
                  have jj0 : (0 : Int) ≤ (j : Int) := by omega
                  have jj1 : (j : Int) < (nl2.length : Int) := by have := HJ.out; omega
                  have jj2 : j < nl2.length := HJ.out
                  have jj3 : decide (j < nl2.length) = true := decide_eq_true HJ.out
                  have gg0 : (0 : Int) ≤ (gz : Int) := by omega
                  have gg1 : (gz : Int) < (dl.length : Int) + 1 := by omega
                  clear h1 hb1 hb2 hge hgn hgt hp hj ej hgz HC3
                  go_wp2_with fail
                  refine (RGot_done s.o s.r (spotOf m d) T x1 got1 w7 O7.out HINV.out HH1.out).mono ?_; rintro e w9 ⟨q9, rfl, hrow, hq9, hl9⟩
                  rw [HGE.out]
                  have M4 := Lib.hid (M3.out.bl hl9)
                  have O9 := Lib.hid (O7.out.below hl9)
                  have R9 := Lib.hid hrow
                  clear hl9 hrow hq9 M3 O7
                  obtain ⟨vz, hvz⟩ : ∃ u, (.slice (some ⟨zb, 0, none⟩) m m :: dl.map vs)[gz]? = some u := ⟨_, List.getElem?_eq_getElem (by simp; have := HGN.out; omega)⟩
                  obtain ⟨nb1, nb2, hnv, -, -, hnc⟩ := orow_at M4.out.news.1 (natV_len _) (natV_at nl2 HJ.out)
                  have hod := M4.out.done.1
                  rw [show (.slice (some ⟨zb, 0, none⟩) m m :: dl.map vs).length = dl.length + 1 by simp] at hod
                  obtain ⟨db1, db2, hdv, -, -, hdc⟩ := orow_at hod (by simp) hvz
                  rw [HGZ.out] at hnc
                  injection hnv with hnv1 hnv2 hnv3
                  injection hdv with hdv1 hdv2 hdv3
                  subst hnv1 hdv1
                  have HVZ := Lib.hid hvz
                  clear hod hnv2 hnv3 hdv2 hdv3 hvz
                  have HIZ := Lib.hid (show Ints w9 .u64 vz (recsF m xs dl gz) by
                    have h9 := HVZ.out
                    unfold recsF
                    by_cases hz : gz = 0
                    · subst hz
                      rw [if_pos rfl]
                      simp only [List.getElem?_cons_zero, Option.some.injEq] at h9
                      subst h9
                      have h8 := Row.ints M4.out.zrow (by have := HMB.out; simp [zeros, maxLen]; omega)
                      simpa [zeros] using h8
                    · rw [if_neg hz]
                      obtain ⟨gy, rfl⟩ : ∃ gy, gz = gy + 1 := ⟨gz - 1, by omega⟩
                      have hgy : gy < dl.length := by have := HGN.out; omega
                      simp only [List.getElem?_cons_succ, List.getElem?_map, List.getElem?_eq_getElem hgy, Option.map_some, Option.some.injEq] at h9
                      subst h9
                      have e9 : dl[gy] = gnth dl gy := by simp [gnth, List.getD_eq_getElem?_getD, List.getElem?_eq_getElem hgy]
                      rw [e9]
                      exact (HX.out.rows _ (P6.out.dls gy hgy)).1.below M4.out.low)
                  have HWD := Lib.hid (words_any (.slice (some ⟨q9, 0, none⟩) got1.length got1.length) vz got1 (recsF m xs dl gz) w9 (Row.ints R9.out (by have := HINV.out.len; have := HMB.out; have e9 : (spotOf (m : Int) (d : Int)).words = (m : Int) := rfl; unfold maxLen; omega)) HIZ.out (by have := HINV.out.len; have := HMB.out; have e9 : (spotOf (m : Int) (d : Int)).words = (m : Int) := rfl; omega))
                  go_wp2_with fail
                  refine (RAt_any s.o s.r (spotOf m d) T x1 got1 w9 O9.out).mono ?_; rintro e w99 ⟨rfl, rfl⟩
                  rw [if_pos HH1.out, HBE.out]
                  go_wp2_with fail
                  refine HWD.out.mono ?_; rintro e w10 ⟨rfl, hl10⟩
                  rw [decide_eq_true HGT.out]
                  have M5 := Lib.hid (M4.out.bl hl10)
                  clear hl10 M4 hnc hdc j1 j2 j3 j4 j5 HWD
                  go_upto_region 51 with fail
                  clear g1 g2 g3
                  have hne : Nonempty (Held (fun W => W = w10.drew)) := ⟨⟨_, rfl⟩⟩
                  refine drawn_bars (S := fun _ => True) [] [0, 1, 2, 3, 4, 5, 6, 7, 8, 9, 10, 11, 12, 13, 14, 15, 16, 17] (by kernel_rfl) (by kernel_rfl) (by kernel_rfl) rfl trivial ?_
                  refine Phased.end_ ?_
                  simp only [pick, List.map_cons, List.map_nil, List.getElem?_cons_zero, List.getElem?_cons_succ, Option.getD_some]
                  repeat (go_big_quiet_step (fail))
                  refine wpQuiet_nil ?_
                  have M6 := Lib.hid (M5.out.bl (Below.refl w10.heap.size w10).drew).noRd
                  clear M5 hne
                  generalize w10.drew = w11 at *
                  go_wp2_with fail
                  exact ⟨⟨i + 1, nx, t1, ws, lam2, mi, st, mv, dl, nl2, none, hd, by have := HIN.out; omega, by go_num, by have := HI.out; omega, rfl, by have := HI.out; omega, by have := HNL2.out; omega, rfl, M6.out, P6.out⟩, by have := HIN.out; simp [intOf]; omega⟩
                · have e0 : hw = 2 := HHW.out.symm.trans h2
                  subst e0
                  have P6 := Lib.hid hp
                  obtain ⟨nb1, nb2, hnv, -, -, hnc⟩ := orow_at M3.out.news.1 (natV_len _) (natV_at nl2 (show 0 < nl2.length by have := HNL2.out; omega))
                  injection hnv with hnv1 hnv2 hnv3
                  subst hnv1
                  have hg0 := P6.out.nls 0 (by have := HNL2.out; omega)
                  obtain ⟨gz, hgz⟩ : ∃ z, gnth nl2 0 = z := ⟨_, rfl⟩
                  rw [hgz] at hnc hsp hg0
                  have kp0 : 0 ≤ T * ((d : Int) - 1) := Int.mul_nonneg (by have := HTB.out; omega) (by have := HDB.out; omega)
                  have j1 : wrap64 ((d : Int) - 1) = (d : Int) - 1 := by have := HDB.out; unfold wrap64; omega
                  have j2 : wrap64 (T * ((d : Int) - 1)) = T * ((d : Int) - 1) := by unfold wrap64; omega
                  have j3 : wrap64 ((dl.length : Int) - (gz : Int)) = (dl.length : Int) - (gz : Int) := by unfold wrap64; omega
                  have j4 : decide ((dl.length : Int) - (gz : Int) < T * ((d : Int) - 1)) = false := decide_eq_false (by omega)
                  have j6 : wrap64 ((dl.length : Int) + 1 - 1) = (dl.length : Int) := by unfold wrap64; omega
                  have jj0 : (0 : Int) < (nl2.length : Int) := by have := HNL2.out; omega
                  have jj2 : 0 < nl2.length := by have := HNL2.out; omega
                  have jj3 : decide (0 < nl2.length) = true := decide_eq_true jj2
                  clear h2 hsp hp hgz hg0 kp0 hnv2 hnv3 HC3
                  go_upto_region 51 with fail
                  clear g1 g2 g3
                  have hne : Nonempty (Held (fun W => W = w7.drew)) := ⟨⟨_, rfl⟩⟩
                  have q0 : ∀ y : Held (fun W => W = w7.drew), y.w.cell? ⟨nb1, 0, none⟩ = some (.int .i64 (gz : Int)) := fun y => by rw [y.ok]; exact hnc
                  have q1 : ∀ y : Held (fun W => W = w7.drew), y.w.cell? ⟨B, 0, none⟩ = some (.int .i64 d) := fun y => by rw [y.ok]; exact M3.out.box.cell 0
                  have q2 : ∀ y : Held (fun W => W = w7.drew), y.w.cell? ⟨B, 1, none⟩ = some (.int .i64 T) := fun y => by rw [y.ok]; exact M3.out.box.cell 1
                  refine drawn_bars (S := fun _ => True) [] [0, 1, 2, 3, 4, 5, 6, 7, 8, 9, 10, 11, 12, 13, 14, 15, 16, 17] (by kernel_rfl) (by kernel_rfl) (by kernel_rfl) rfl trivial ?_
                  refine Phased.end_ ?_
                  simp only [pick, List.map_cons, List.map_nil, List.getElem?_cons_zero, List.getElem?_cons_succ, Option.getD_some]
                  repeat (go_big_quiet_step (fail))
                  refine wpQuiet_nil ?_
                  have M6 := Lib.hid (M3.out.bl (Below.refl w7.heap.size w7).drew).noRd
                  clear M3 hne q0 q1 q2 hnc j1 j2 j3 j4 j6
                  generalize w7.drew = w11 at *
                  go_wp2_with fail
                  exact ⟨⟨i + 1, nx, t1, ws, lam2, mi, st, mv, dl, nl2, none, hd, by have := HIN.out; omega, by go_num, by have := HI.out; omega, rfl, by have := HI.out; omega, by have := HNL2.out; omega, rfl, M6.out, P6.out⟩, by have := HIN.out; simp [intOf]; omega⟩
        case pos =>
          subst hr15
          have kg : decide ((k : Int) < 2) = true := decide_eq_true (by omega)
          have HK := Lib.hid hk2
          have kk0 : (0 : Int) ≤ (k : Int) := by omega
          have kk1 : (k : Int) < 2 := by omega
          clear hk2
          obtain ⟨pc, pf⟩ := M0.out.opc HK.out
          simp only at pc pf
          cases hst : st k with
          | some s =>
            as_aux_lemma =>
              rw [hst] at pc
              simp only [opV, Option.map_some] at pc
              have HST := Lib.hid hst
              have MX := Lib.hid M0.out
              have PUX := Lib.hid PU.out
              clear hst M0 PU
              have kx5 : (nx : Int) ≤ 400 := by have := HI.out; have := HNB.out; omega
              go_upto_region 29 with fail
              clear hx3 km1 km2 kg hrm pf
              obtain ⟨hoa, hso, hsr, hlo, hlr⟩ := MX.out.ops k s HK.out HST.out
              obtain ⟨hwi, hmv, hmn⟩ := PUX.out.inv k s HK.out HST.out
              have hnes := MX.out.opne HK.out HST.out
              obtain ⟨x1, ws1, t1, he⟩ : ∃ a b c, wStep (spotOf m d) (xs (mi k)) 16 s.x ws t = (a, b, c) := ⟨_, _, _, rfl⟩
              have HS := Lib.hid (PUX.out.wstep (by have := HMB.out; omega) HDB.out (by have := HI.out; have := HNB.out; omega) HLE.out HWF.out HK.out HST.out t he)
              have hcall := WStep_any g h s.o s.r s.cc ws t (spotOf m d) (xs (mi k)) 16 s.x wr MX.out.bank hoa hwi hnes
              rw [he] at hcall
              simp only at hcall
              clear he hoa hso hsr hlo hlr hwi hmv hmn hnes
              have HC := Lib.hid hcall
              clear hcall
              go_wp2_with fail
              refine HC.out.mono ?_; rintro e w6 ⟨rfl, hk6, ho6, hx6⟩
              have M1 := Lib.hid (MX.out.wstep HK.out HST.out hx6 hk6 ho6)
              have O6 := Lib.hid ho6
              obtain ⟨pc6, pf6⟩ := M1.out.opc HK.out
              rw [updX_self] at pc6
              simp only [opV, Option.map_some] at pc6 pf6
              clear hk6 ho6 hx6 MX HC pc
              rcases HS.out with ⟨h0, h', hp⟩ | ⟨h2, h', hp⟩ | ⟨h1, hg, hmv, hmn, h', hp⟩
              · rw [h0]
                have P6 := Lib.hid hp
                clear h0 hp HS
                go_wp2_with fail
                exact ⟨⟨i + 1, nx, t1, ws1, _, _, _, _, dl, nl, rd, h', by have := HIN.out; omega, by go_num, by have := HI.out; omega, by go_num, by have := HI.out; omega, by have := HI.out; omega, rfl, M1.out, P6.out⟩, by have := HIN.out; simp [intOf]; omega⟩
              · rw [h2]
                have P6 := Lib.hid hp
                have hm2 := M1.out.setOp HK.out none (fun s h => by cases h)
                rw [updX_updX] at hm2
                have M2 := Lib.hid hm2
                clear h2 hp HS hm2 M1
                go_wp2_with fail
                exact ⟨⟨i + 1, nx, t1, ws1, _, _, _, _, dl, nl, rd, h', by have := HIN.out; omega, by go_num, by have := HI.out; omega, by go_num, by have := HI.out; omega, by have := HI.out; omega, rfl, M2.out, P6.out⟩, by have := HIN.out; simp [intOf]; omega⟩
              · rw [h1]
                have P6 := Lib.hid hp
                obtain ⟨Am, cm, em, -, -⟩ := (HX.out.rows (mi k) hmn).1.form
                rw [HLE.out _ hmn] at em
                obtain ⟨mc6, -⟩ := M1.out.mic HK.out
                rw [hmv, em] at mc6
                simp only at mc6
                have HEM := Lib.hid em
                have HG6 := Lib.hid hg
                have hN5 : (dl.length : Int) ≤ 400 := by have := HI.out; have := HNB.out; omega
                have hu : IntKind.u64.wrap ((dl.length : Int) + 1) = (dl.length : Int) + 1 := u64_wrap_in (by omega)
                have knn : (((dl.length : Int) + 1) != ((dl.length : Int) + 1)) = false := by simp
                obtain ⟨i0_, hi0, hz0, hz1, hz2⟩ := info_parts wslice_info
                have hod := M1.out.done.1
                rw [show (.slice (some ⟨zb, 0, none⟩) m m :: dl.map vs).length = dl.length + 1 by simp] at hod
                have OWD := Lib.hid hod
                clear h1 hp hg hmv hmn em HS hod
                go_wp2_with fail
                refine (WGen_any s.o s.r s.cc (spotOf m d) (xs (mi k)) 16 x1 w6 O6.out).mono ?_; rintro e w7 ⟨rfl, rfl⟩
                rw [HG6.out]
                go_wp2_with (at_builtin; refine wpList_append_own_at _ rfl _ _ 57 rfl w.heap.size 42 i0_ (.slice none 0 0) 1 24 Try.underlying57 hi0 hz0 hz1 hz2 rfl (by decide) _ _ _ rfl (OWD.out.alloc _) ⟨w6.heap.size, 0, none⟩ 1 1 [.slice Am m cm] rfl rfl ?c1 ?c2 ?c3 ?c4 ?c5 ?_)
                case c1 =>
                  have hbn := Blk.new w6 42 #[.slice Am m cm]
                  intro j u hj
                  match j, hj with
                  | 0, hj => simp at hj; subst hj; exact hbn.cell 0
                case c2 =>
                  intro u hu
                  simp only [List.mem_cons, List.not_mem_nil, or_false] at hu
                  subst hu; rfl
                case c3 => have := HI.out; have := HNB.out; unfold maxLen; omega
                case c4 => have := HI.out; have := HNB.out; omega
                case c5 => have := M1.out.low.size; simp; omega
                intro v' w8 hown' hgrow _ hat
                have hgr : Ex (fun b => (Value.slice DA (dl.length + 1) dc).ownBlock = some b) w6 w8 := ((Ex.refl _ w6).alloc (.cells #[.slice Am m cm] 42)).trans (ex_grown hgrow)
                obtain ⟨lam2, hl1, hl2⟩ := lam_new lam w6.heap.size 1
                have hm2 := M1.out.pushDone (u := .slice Am m cm) hgr (by rw [show (.slice (some ⟨zb, 0, none⟩) m m :: dl.map vs).length = dl.length + 1 by simp]; exact hown') hat (by simp) hl1 hl2
                rw [show (.slice (some ⟨zb, 0, none⟩) m m :: dl.map vs) ++ [Value.slice Am m cm] = (.slice (some ⟨zb, 0, none⟩) m m :: (dl ++ [mi k]).map vs) by rw [← HEM.out]; simp] at hm2
                have hm3 := hm2.setOp HK.out none (fun s h => by cases h)
                rw [updX_updX] at hm3
                obtain ⟨pc8, pf8⟩ := hm2.opc HK.out
                rw [updX_self] at pc8
                simp only [opV, Option.map_some] at pc8 pf8
                have M3 := Lib.hid hm3
                clear hm2 hm3 hgr hown' hgrow hat hl1 hl2 M1 OWD O6
                clear pc6 pf6 mc6 hu knn
                go_wp2_with fail
                exact ⟨⟨i + 1, nx, t1, ws1, _, _, _, _, dl ++ [mi k], nl, rd, h', by have := HIN.out; omega, by go_num, by have := HI.out; omega, by go_num, by have := HI.out; rw [List.length_append]; simp; omega, by have := HI.out; omega, rfl, M3.out, P6.out⟩, by have := HIN.out; simp [intOf]; omega⟩
          | none =>
            as_aux_lemma =>
              rw [hst] at pc
              simp only [opV, Option.map_none] at pc
              have HST := Lib.hid hst
              clear hst
              obtain ⟨j, hj⟩ : ∃ j, nx % n = j := ⟨_, rfl⟩
              have HJ := Lib.hid (show j < n by rw [← hj]; exact Nat.mod_lt _ (by have := HN.out; omega))
              have kj : (nx : Int).tmod (n : Int) = (j : Int) := by rw [← hj]; rfl
              have knz : ((n : Int) == 0) = false := beq_eq_false_iff_ne.2 (by have := HN.out; omega)
              have kj0 : (0 : Int) ≤ (j : Int) := by omega
              have kj1 : (j : Int) < (n : Int) := by have := HJ.out; omega
              have kx5 : (nx : Int) ≤ 400 := by have := HI.out; have := HNB.out; omega
              obtain ⟨Aj, cj, ej, -, hfj⟩ := (HX.out.rows j HJ.out).1.form
              have HLJ := Lib.hid (HLE.out j HJ.out)
              obtain ⟨bj, oj, rfl, hbj, hcj⟩ := hfj (by intro hh; have := HLJ.out; rw [hh] at this; simp at this; have := HMB.out; omega)
              rw [HLJ.out] at ej hcj
              have jc : wr.cell? ⟨b, o + j, none⟩ = some (.slice (some ⟨bj, oj, none⟩) m cj) := by rw [← ej]; exact (M0.out.low.cell (p := ⟨b, o + j, none⟩) HBB.out).trans (HCS.out j HJ.out)
              obtain ⟨mc, mf⟩ := M0.out.mic HK.out
              simp only at mc mf
              have HEJ := Lib.hid ej
              have HCJ := Lib.hid hcj
              have HBJ := Lib.hid hbj
              clear hj hfj hbj hcj ej
              go_upto_region 25 with fail
              clear hx3 km1 km2 kg hrm kj knz jc mc mf pc pf
              have hm1 := (M0.out.setMine HK.out (.slice (some ⟨bj, oj, none⟩) m cj)).setRc HST.out (xs j)
              rw [← rc_upd] at hm1
              simp only at hm1
              have M1 := Lib.hid hm1
              clear hm1 M0
              generalize wr.setCell ⟨mb, k, none⟩ (.slice (some ⟨bj, oj, none⟩) m cj) = wm at *
              have HMAY := Lib.hid (spot_right (m := m) (d := d) (by have := HMB.out; omega) HDB.out 16 (by omega))
              have HNW := Lib.hid (fun W (hW : Below wm.heap.size wm W) => WNew_in (spotOf m d) 16 bj oj m cj (xs j) W HMAY.out rfl HLJ.out (Nat.lt_of_lt_of_le HBJ.out (bl M1.out.low hW).size) (fun i hi => ((bl M1.out.low hW).cell (p := ⟨bj, oj + i, none⟩) HBJ.out).trans (HCJ.out i hi)))
              unfold Spot.val spotOf at HNW
              simp only at HNW
              have hne : Nonempty (Held (Below wm.heap.size wm)) := ⟨⟨wm, Below.refl _ _⟩⟩
              have s0 : ∀ y : Held (Below wm.heap.size wm), y.w.cell? ⟨sb, 0, none⟩ = some (.int .i64 0) := fun y => (M1.out.spot.bl y.ok).cell 0
              have s1 : ∀ y : Held (Below wm.heap.size wm), y.w.cell? ⟨sb, 1, none⟩ = some (.int .i64 1) := fun y => (M1.out.spot.bl y.ok).cell 1
              have s2 : ∀ y : Held (Below wm.heap.size wm), y.w.cell? ⟨sb, 2, none⟩ = some (.int .i64 2) := fun y => (M1.out.spot.bl y.ok).cell 2
              have s3 : ∀ y : Held (Below wm.heap.size wm), y.w.cell? ⟨sb, 3, none⟩ = some (.int .i64 m) := fun y => (M1.out.spot.bl y.ok).cell 3
              have s4 : ∀ y : Held (Below wm.heap.size wm), y.w.cell? ⟨sb, 4, none⟩ = some (.int .i64 d) := fun y => (M1.out.spot.bl y.ok).cell 4
              have mcc : ∀ y : Held (Below wm.heap.size wm), y.w.cell? ⟨mb, k, none⟩ = some (.slice (some ⟨bj, oj, none⟩) m cj) := fun y => by
                have h9 := ((M1.out.bl y.ok).mic HK.out).1
                rw [updX_self] at h9
                exact h9
              refine drawn_bars (S := (Below wm.heap.size wm)) [([0, 1, 2, 3], 4)] [5, 6, 7, 8, 9] (by kernel_rfl) (by kernel_rfl) (by kernel_rfl) rfl (Below.refl _ _).drew ?_
              refine Phased.go ?_
              simp only [pick, List.map_cons, List.map_nil, List.getElem?_cons_zero, List.getElem?_cons_succ, Option.getD_some]
              repeat (go_big_quiet_step (fail))
              refine wpQuiet_nil ?_
              go_wp2_with fail
              refine (HNW.out _ (Below.refl wm.heap.size wm).drew).mono ?_; rintro e w5 ⟨ow, rw0, cc, rfl, hwo, q1, q2, hl3⟩
              have hl4 := bl (Below.refl wm.heap.size wm).drew hl3
              go_wp2_with fail
              refine behind_normal ⟨(Below wm.heap.size wm), fun W h => h, hl4, ?_⟩
              refine Phased.end_ ?_
              have hne5 : Nonempty (Held (fun W => W = w5)) := ⟨⟨_, rfl⟩⟩
              simp only [pick, List.map_cons, List.map_nil, List.getElem?_cons_zero, List.getElem?_cons_succ, Option.getD_some]
              repeat (go_big_quiet_step (fail))
              refine wpQuiet_nil ?_
              clear hne5 HNW hne mcc s0 s1 s2 s3 s4
              obtain ⟨lam2, hl1, hl2⟩ := lam_new lam wm.heap.size (3 + k)
              have hno := M1.out.newOp (k := k) (s := ⟨ow, rw0, cc, WS.zero⟩) hl4 (by rw [updX_self]; exact hwo) (by show wm.heap.size ≤ ow; have q3 : wm.heap.size ≤ rw0 := q1; omega) q1 hl1 hl2
              have hm3 := hno.1.setOp HK.out (some ⟨ow, rw0, cc, WS.zero⟩) (fun s h => by injection h with h; subst h; exact hno.2)
              have hpn := PU.out.new (s := ⟨ow, rw0, cc, WS.zero⟩) HMAY.out HK.out HST.out HJ.out HLJ.out (fun y hy => u64_bounds ((HX.out.rows j HJ.out).2 y hy)) rfl
              rw [HEJ.out] at hpn
              obtain ⟨pc5, pf5⟩ := hno.1.opc HK.out
              rw [HST.out] at pc5
              obtain ⟨pc, -⟩ := hm3.opc HK.out
              rw [updX_self] at pc
              simp only [opV, Option.map_none, Option.map_some] at pc5 pf5 pc hm3
              have MX := Lib.hid hm3
              have PUX := Lib.hid hpn
              clear hno hm3 hpn hwo q1 q2 hl3 hl4 hl1 hl2 M1 PU
              go_upto_region 29 with fail
              clear pc5 pf5
              generalize w5.setCell ⟨ob, k, none⟩ (.pointer (some ⟨ow, 0, none⟩)) = w55 at *
              obtain ⟨s, hs9⟩ : ∃ s : O1, (⟨ow, rw0, cc, WS.zero⟩ : O1) = s := ⟨_, rfl⟩
              have hs8 : ow = s.o := by rw [← hs9]
              rw [hs9] at MX PUX
              have HST2 := Lib.hid (updX_self st k (some s))
              clear hs9 HST HEJ
              subst hs8
              have HST := Lib.hid HST2.out
              clear HST2
              generalize updX st k (some s) = st2 at *
              generalize updX mi k j = mi2 at *
              generalize updX mv k (.slice (some ⟨bj, oj, none⟩) m cj) = mv2 at *
              obtain ⟨hoa, hso, hsr, hlo, hlr⟩ := MX.out.ops k s HK.out HST.out
              obtain ⟨hwi, hmv, hmn⟩ := PUX.out.inv k s HK.out HST.out
              have hnes := MX.out.opne HK.out HST.out
              obtain ⟨x1, ws1, t1, he⟩ : ∃ a b c, wStep (spotOf m d) (xs (mi2 k)) 16 s.x ws t = (a, b, c) := ⟨_, _, _, rfl⟩
              have HS := Lib.hid (PUX.out.wstep (by have := HMB.out; omega) HDB.out (by have := HI.out; have := HNB.out; omega) HLE.out HWF.out HK.out HST.out t he)
              have hcall := WStep_any g h s.o s.r s.cc ws t (spotOf m d) (xs (mi2 k)) 16 s.x w55 MX.out.bank hoa hwi hnes
              rw [he] at hcall
              simp only at hcall
              clear he hoa hso hsr hlo hlr hwi hmv hmn hnes
              have HC := Lib.hid hcall
              clear hcall
              go_wp2_with fail
              refine HC.out.mono ?_; rintro e w6 ⟨rfl, hk6, ho6, hx6⟩
              have M1 := Lib.hid (MX.out.wstep HK.out HST.out hx6 hk6 ho6)
              have O6 := Lib.hid ho6
              obtain ⟨pc6, pf6⟩ := M1.out.opc HK.out
              rw [updX_self] at pc6
              simp only [opV, Option.map_some] at pc6 pf6
              clear hk6 ho6 hx6 MX HC pc
              rcases HS.out with ⟨h0, h', hp⟩ | ⟨h2, h', hp⟩ | ⟨h1, hg, hmv, hmn, h', hp⟩
              · rw [h0]
                have P6 := Lib.hid hp
                clear h0 hp HS
                go_wp2_with fail
                exact ⟨⟨i + 1, (nx + 1), t1, ws1, _, _, _, _, dl, nl, rd, h', by have := HIN.out; omega, by go_num, by have := HI.out; omega, by go_num, by have := HI.out; omega, by have := HI.out; omega, rfl, M1.out, P6.out⟩, by have := HIN.out; simp [intOf]; omega⟩
              · rw [h2]
                have P6 := Lib.hid hp
                have hm2 := M1.out.setOp HK.out none (fun s h => by cases h)
                rw [updX_updX] at hm2
                have M2 := Lib.hid hm2
                clear h2 hp HS hm2 M1
                go_wp2_with fail
                exact ⟨⟨i + 1, (nx + 1), t1, ws1, _, _, _, _, dl, nl, rd, h', by have := HIN.out; omega, by go_num, by have := HI.out; omega, by go_num, by have := HI.out; omega, by have := HI.out; omega, rfl, M2.out, P6.out⟩, by have := HIN.out; simp [intOf]; omega⟩
              · rw [h1]
                have P6 := Lib.hid hp
                obtain ⟨Am, cm, em, -, -⟩ := (HX.out.rows (mi2 k) hmn).1.form
                rw [HLE.out _ hmn] at em
                obtain ⟨mc6, -⟩ := M1.out.mic HK.out
                rw [hmv, em] at mc6
                simp only at mc6
                have HEM := Lib.hid em
                have HG6 := Lib.hid hg
                have hN5 : (dl.length : Int) ≤ 400 := by have := HI.out; have := HNB.out; omega
                have hu : IntKind.u64.wrap ((dl.length : Int) + 1) = (dl.length : Int) + 1 := u64_wrap_in (by omega)
                have knn : (((dl.length : Int) + 1) != ((dl.length : Int) + 1)) = false := by simp
                obtain ⟨i0_, hi0, hz0, hz1, hz2⟩ := info_parts wslice_info
                have hod := M1.out.done.1
                rw [show (.slice (some ⟨zb, 0, none⟩) m m :: dl.map vs).length = dl.length + 1 by simp] at hod
                have OWD := Lib.hid hod
                clear h1 hp hg hmv hmn em HS hod
                go_wp2_with fail
                refine (WGen_any s.o s.r s.cc (spotOf m d) (xs (mi2 k)) 16 x1 w6 O6.out).mono ?_; rintro e w7 ⟨rfl, rfl⟩
                rw [HG6.out]
                go_wp2_with (at_builtin; refine wpList_append_own_at _ rfl _ _ 57 rfl w.heap.size 42 i0_ (.slice none 0 0) 1 24 Try.underlying57 hi0 hz0 hz1 hz2 rfl (by decide) _ _ _ rfl (OWD.out.alloc _) ⟨w6.heap.size, 0, none⟩ 1 1 [.slice Am m cm] rfl rfl ?c1 ?c2 ?c3 ?c4 ?c5 ?_)
                case c1 =>
                  have hbn := Blk.new w6 42 #[.slice Am m cm]
                  intro j u hj
                  match j, hj with
                  | 0, hj => simp at hj; subst hj; exact hbn.cell 0
                case c2 =>
                  intro u hu
                  simp only [List.mem_cons, List.not_mem_nil, or_false] at hu
                  subst hu; rfl
                case c3 => have := HI.out; have := HNB.out; unfold maxLen; omega
                case c4 => have := HI.out; have := HNB.out; omega
                case c5 => have := M1.out.low.size; simp; omega
                intro v' w8 hown' hgrow _ hat
                have hgr : Ex (fun b => (Value.slice DA (dl.length + 1) dc).ownBlock = some b) w6 w8 := ((Ex.refl _ w6).alloc (.cells #[.slice Am m cm] 42)).trans (ex_grown hgrow)
                obtain ⟨lam2, hl1, hl2⟩ := lam_new lam2 w6.heap.size 1
                have hm2 := M1.out.pushDone (u := .slice Am m cm) hgr (by rw [show (.slice (some ⟨zb, 0, none⟩) m m :: dl.map vs).length = dl.length + 1 by simp]; exact hown') hat (by simp) hl1 hl2
                rw [show (.slice (some ⟨zb, 0, none⟩) m m :: dl.map vs) ++ [Value.slice Am m cm] = (.slice (some ⟨zb, 0, none⟩) m m :: (dl ++ [mi2 k]).map vs) by rw [← HEM.out]; simp] at hm2
                have hm3 := hm2.setOp HK.out none (fun s h => by cases h)
                rw [updX_updX] at hm3
                obtain ⟨pc8, pf8⟩ := hm2.opc HK.out
                rw [updX_self] at pc8
                simp only [opV, Option.map_some] at pc8 pf8
                have M3 := Lib.hid hm3
                clear hm2 hm3 hgr hown' hgrow hat hl1 hl2 M1 OWD O6
                clear pc6 pf6 mc6 hu knn
                go_wp2_with fail
                exact ⟨⟨i + 1, (nx + 1), t1, ws1, _, _, _, _, dl ++ [mi2 k], nl, rd, h', by have := HIN.out; omega, by go_num, by have := HI.out; omega, by go_num, by have := HI.out; rw [List.length_append]; simp; omega, by have := HI.out; omega, rfl, M3.out, P6.out⟩, by have := HIN.out; simp [intOf]; omega⟩
end Go.Proofs.Ytihogagnjikghaa.Bank
