/-
  Log: Write, keep. Printed by wip/tools/mklgq.py. Conditions stand at each. By an AI agent.
-/
import Derived.Test.YthhellgaafbokaaLgO
import Derived.Test.YthhellgaafbokaaTail
import Derived.Test.YthhellgaafbokaaRegU
namespace Go.Proofs.Ythhellgaafbokaa.Lg
set_option linter.unusedVariables false
set_option linter.unusedSimpArgs false
open Go Go.RowKit Go.Proofs.Ythhellgaafbokaa.Base Go.Proofs.Ythhellgaafbokaa.Reg

set_option maxRecDepth 100000 in
theorem Write_in (log long : Int) (s : St) (hs : s.Ok) (hm : mayE s = 0) (h : HasP log long) (w : World) :
    Calls Try.prog 19 #[.agg #[.int .i64 0, .int .i64 log, .int .i64 long, .slice none 0 0, .int .i64 0], s.val] w fun e w' => ∃ o, e = .returned (.tuple #[.pointer (some ⟨o, 0, none⟩), .int .i64 0]) ∧ LgAt w' o o log long ⟨true, s, wordI s, 0, 0⟩ [] ∧ w.heap.size ≤ o ∧ Below w.heap.size w w' := by
  have HP := Lib.hid (fun W => Pack_ok s hs hm W)
  have HE := Lib.hid (fun W => Entry_any log long 0 W (by omega))
  have hr := (entF_range (e := 0) h).1
  obtain ⟨en, hen⟩ : ∃ en, entF log long 0 = en := ⟨_, rfl⟩
  rw [hen] at HE hr
  have kl : decide (en < 0) = false := decide_eq_false (by have := h.2; omega)
  clear h hr hen hs hm
  unfold St.val at HP ⊢
  have L0 := Lib.hid (((Below.refl w.heap.size w).alloc (Nat.le_refl _) (.cells #[.int .i64 0, .int .i64 log, .int .i64 long, .slice none 0 0, .int .i64 0] 33)).alloc (by simp) (.cells #[.int .i64 s.mode, .int .i64 s.source, .bool s.hold, .int .i64 s.flags, .int .u64 s.epoch] 28))
  have hq := (Blk.new w 33 #[.int .i64 0, .int .i64 log, .int .i64 long, .slice none 0 0, .int .i64 0]).alloc (.cells #[.int .i64 s.mode, .int .i64 s.source, .bool s.hold, .int .i64 s.flags, .int .u64 s.epoch] 28)
  have hs := Blk.new (w.alloc (.cells #[.int .i64 0, .int .i64 log, .int .i64 long, .slice none 0 0, .int .i64 0] 33)) 28 #[.int .i64 s.mode, .int .i64 s.source, .bool s.hold, .int .i64 s.flags, .int .u64 s.epoch]
  go_enter Try.func19, Try.ntmps19
  go_upto_region 1 with fail
  obtain ⟨sb, hsb⟩ : ∃ sb, (w.alloc (.cells #[.int .i64 0, .int .i64 log, .int .i64 long, .slice none 0 0, .int .i64 0] 33)).heap.size = sb := ⟨_, rfl⟩
  have hsb2 : w.heap.size + 1 = sb := by rw [← hsb]; simp
  simp only [hsb] at hs
  simp only [hsb2]
  generalize ((w.alloc (.cells #[.int .i64 0, .int .i64 log, .int .i64 long, .slice none 0 0, .int .i64 0] 33)).alloc (.cells #[.int .i64 s.mode, .int .i64 s.source, .bool s.hold, .int .i64 s.flags, .int .u64 s.epoch] 28)) = w1 at *
  have hs1 := hs
  have d0 := hs1.cell 0
  have d1 := hs1.cell 1
  have d2 := hs1.cell 2
  have d3 := hs1.cell 3
  have d4 := hs1.cell 4
  simp only [List.getElem?_toArray, List.getElem?_cons_succ, List.getElem?_cons_zero] at d0 d1 d2 d3 d4
  go_wp2_with fail
  refine (HP.out _).mono ?_; rintro e w2 ⟨rfl, hb⟩
  have L1 := Lib.hid (bl L0.out hb)
  have hq1 := hq.bl hb
  have hs2 := hs.bl hb
  clear d0 d1 d2 d3 d4 hs1 hb hs hq
  have c0 := hq1.cell 0
  have c1 := hq1.cell 1
  have c2 := hq1.cell 2
  have c3 := hq1.cell 3
  have c4 := hq1.cell 4
  simp only [List.getElem?_toArray, List.getElem?_cons_succ, List.getElem?_cons_zero] at c0 c1 c2 c3 c4
  go_wp2_with fail
  refine (HE.out _).mono ?_; rintro e w3 ⟨rfl, hb⟩
  have L2 := Lib.hid (bl L1.out hb)
  have hq2 := hq1.bl hb
  have hs1 := hs2.bl hb
  clear c0 c1 c2 c3 c4 hq1 hs2 hb
  have hq1 := hq2
  have c0 := hq1.cell 0
  have c1 := hq1.cell 1
  have c2 := hq1.cell 2
  have c3 := hq1.cell 3
  have c4 := hq1.cell 4
  simp only [List.getElem?_toArray, List.getElem?_cons_succ, List.getElem?_cons_zero] at c0 c1 c2 c3 c4
  have d0 := hs1.cell 0
  have d1 := hs1.cell 1
  have d2 := hs1.cell 2
  have d3 := hs1.cell 3
  have d4 := hs1.cell 4
  simp only [List.getElem?_toArray, List.getElem?_cons_succ, List.getElem?_cons_zero] at d0 d1 d2 d3 d4
  clear hq1 hq2 hs1
  go_wp2_with fail
  go_ret2
  exact ⟨_, rfl, LgAt.new w3 log long ⟨true, s, wordI s, 0, 0⟩, L2.out.size, bl L2.out ((Below.refl _ _).alloc (Nat.le_refl _) _)⟩
set_option maxRecDepth 100000 in
theorem Write_no (log long : Int) (s : St) (hs : s.Ok) (hm : mayE s = 0) (h : ¬ HasP log long) (w : World) :
    Calls Try.prog 19 #[.agg #[.int .i64 0, .int .i64 log, .int .i64 long, .slice none 0 0, .int .i64 0], s.val] w fun e w' => e = .returned (.tuple #[.pointer none, .int .i64 1]) ∧ Below w.heap.size w w' := by
  have HP := Lib.hid (fun W => Pack_ok s hs hm W)
  have HE := Lib.hid (fun W => Entry_any log long 0 W (by omega))
  rw [entF_bad h] at HE
  clear h hs hm
  unfold St.val at HP ⊢
  have L0 := Lib.hid (((Below.refl w.heap.size w).alloc (Nat.le_refl _) (.cells #[.int .i64 0, .int .i64 log, .int .i64 long, .slice none 0 0, .int .i64 0] 33)).alloc (by simp) (.cells #[.int .i64 s.mode, .int .i64 s.source, .bool s.hold, .int .i64 s.flags, .int .u64 s.epoch] 28))
  have hq := (Blk.new w 33 #[.int .i64 0, .int .i64 log, .int .i64 long, .slice none 0 0, .int .i64 0]).alloc (.cells #[.int .i64 s.mode, .int .i64 s.source, .bool s.hold, .int .i64 s.flags, .int .u64 s.epoch] 28)
  have hs := Blk.new (w.alloc (.cells #[.int .i64 0, .int .i64 log, .int .i64 long, .slice none 0 0, .int .i64 0] 33)) 28 #[.int .i64 s.mode, .int .i64 s.source, .bool s.hold, .int .i64 s.flags, .int .u64 s.epoch]
  go_enter Try.func19, Try.ntmps19
  go_upto_region 1 with fail
  obtain ⟨sb, hsb⟩ : ∃ sb, (w.alloc (.cells #[.int .i64 0, .int .i64 log, .int .i64 long, .slice none 0 0, .int .i64 0] 33)).heap.size = sb := ⟨_, rfl⟩
  have hsb2 : w.heap.size + 1 = sb := by rw [← hsb]; simp
  simp only [hsb] at hs
  simp only [hsb2]
  generalize ((w.alloc (.cells #[.int .i64 0, .int .i64 log, .int .i64 long, .slice none 0 0, .int .i64 0] 33)).alloc (.cells #[.int .i64 s.mode, .int .i64 s.source, .bool s.hold, .int .i64 s.flags, .int .u64 s.epoch] 28)) = w1 at *
  have hs1 := hs
  have d0 := hs1.cell 0
  have d1 := hs1.cell 1
  have d2 := hs1.cell 2
  have d3 := hs1.cell 3
  have d4 := hs1.cell 4
  simp only [List.getElem?_toArray, List.getElem?_cons_succ, List.getElem?_cons_zero] at d0 d1 d2 d3 d4
  go_wp2_with fail
  refine (HP.out _).mono ?_; rintro e w2 ⟨rfl, hb⟩
  have L1 := Lib.hid (bl L0.out hb)
  have hq1 := hq.bl hb
  have hs2 := hs.bl hb
  clear d0 d1 d2 d3 d4 hs1 hb hs hq
  have c0 := hq1.cell 0
  have c1 := hq1.cell 1
  have c2 := hq1.cell 2
  have c3 := hq1.cell 3
  have c4 := hq1.cell 4
  simp only [List.getElem?_toArray, List.getElem?_cons_succ, List.getElem?_cons_zero] at c0 c1 c2 c3 c4
  go_wp2_with fail
  refine (HE.out _).mono ?_; rintro e w3 ⟨rfl, hb⟩
  have L2 := Lib.hid (bl L1.out hb)
  have hq2 := hq1.bl hb
  have hs1 := hs2.bl hb
  clear c0 c1 c2 c3 c4 hq1 hs2 hb
  clear hq2 hs1
  go_wp2_with fail
  go_ret2
  exact ⟨rfl, L2.out⟩
set_option maxRecDepth 100000 in
theorem Write_bad (log long : Int) (s : St) (hs : s.Ok) (hb : mayE s ≠ 0) (w : World) :
    Calls Try.prog 19 #[.agg #[.int .i64 0, .int .i64 log, .int .i64 long, .slice none 0 0, .int .i64 0], s.val] w fun e w' => e = .returned (.tuple #[.pointer none, .int .i64 (mayE s)]) ∧ Below w.heap.size w w' := by
  have HP := Lib.hid (fun W => Pack_bad s hs hb W)
  obtain ⟨me, hme⟩ : ∃ me, mayE s = me := ⟨_, rfl⟩
  rw [hme] at hb ⊢
  simp only [hme] at HP
  have km : (me == 0) = false := by simpa using hb
  clear hs hb hme
  unfold St.val at HP ⊢
  have L0 := Lib.hid (((Below.refl w.heap.size w).alloc (Nat.le_refl _) (.cells #[.int .i64 0, .int .i64 log, .int .i64 long, .slice none 0 0, .int .i64 0] 33)).alloc (by simp) (.cells #[.int .i64 s.mode, .int .i64 s.source, .bool s.hold, .int .i64 s.flags, .int .u64 s.epoch] 28))
  have hq := (Blk.new w 33 #[.int .i64 0, .int .i64 log, .int .i64 long, .slice none 0 0, .int .i64 0]).alloc (.cells #[.int .i64 s.mode, .int .i64 s.source, .bool s.hold, .int .i64 s.flags, .int .u64 s.epoch] 28)
  have hs := Blk.new (w.alloc (.cells #[.int .i64 0, .int .i64 log, .int .i64 long, .slice none 0 0, .int .i64 0] 33)) 28 #[.int .i64 s.mode, .int .i64 s.source, .bool s.hold, .int .i64 s.flags, .int .u64 s.epoch]
  go_enter Try.func19, Try.ntmps19
  go_upto_region 1 with fail
  obtain ⟨sb, hsb⟩ : ∃ sb, (w.alloc (.cells #[.int .i64 0, .int .i64 log, .int .i64 long, .slice none 0 0, .int .i64 0] 33)).heap.size = sb := ⟨_, rfl⟩
  have hsb2 : w.heap.size + 1 = sb := by rw [← hsb]; simp
  simp only [hsb] at hs
  simp only [hsb2]
  generalize ((w.alloc (.cells #[.int .i64 0, .int .i64 log, .int .i64 long, .slice none 0 0, .int .i64 0] 33)).alloc (.cells #[.int .i64 s.mode, .int .i64 s.source, .bool s.hold, .int .i64 s.flags, .int .u64 s.epoch] 28)) = w1 at *
  have hs1 := hs
  have d0 := hs1.cell 0
  have d1 := hs1.cell 1
  have d2 := hs1.cell 2
  have d3 := hs1.cell 3
  have d4 := hs1.cell 4
  simp only [List.getElem?_toArray, List.getElem?_cons_succ, List.getElem?_cons_zero] at d0 d1 d2 d3 d4
  go_wp2_with fail
  refine (HP.out _).mono ?_; rintro e w2 ⟨rfl, hb⟩
  have L1 := Lib.hid (bl L0.out hb)
  have hq1 := hq.bl hb
  have hs2 := hs.bl hb
  clear d0 d1 d2 d3 d4 hs1 hb hs hq
  clear hq1 hs2
  go_wp2_with fail
  go_ret2
  exact ⟨rfl, L1.out⟩
theorem unS_ok {v : Int} (h : 0 ≤ v ∧ v ≤ 18446744073709551615) : (unS v).Ok := by
  unfold unS
  split
  · exact partsOf_ok h
  · exact ⟨by decide, by decide, by decide, by decide⟩
theorem own_form {w : World} {base e size n : Nat} {v : Value} {xs : List Value} (h : w.ownsRow base e size v n xs) : ∃ A c, v = .slice A n c := by
  rcases h.2 with ⟨rfl, rfl⟩ | ⟨g, cap, cur, rfl, _⟩
  · exact ⟨none, 0, rfl⟩
  · exact ⟨_, _, rfl⟩
def keep1 (log long at_ v : Int) : List St := if unE v = 0 ∧ entF log long (unS v).epoch = at_ then [unS v] else []
theorem LgAt.cells {w : World} {o q : Nat} {log long : Int} {x : LX} {l : List St} (h : LgAt w o q log long x l) : ∃ gv, Blk w o 78 (lgC log long x gv) := by
  obtain ⟨gv, h1, _⟩ := h.form
  exact ⟨gv, h1⟩
set_option maxRecDepth 100000 in
set_option maxHeartbeats 4000000 in
theorem keep_no (o q : Nat) (log long : Int) (x : LX) (l : List St) (at_ v : Int) (w : World) (h : LgAt w o q log long x l) (hv : 0 ≤ v ∧ v ≤ 18446744073709551615) (hl : l.length ≤ 64) (hk : unE v ≠ 0) :
    Calls Try.prog 36 #[.pointer (some ⟨o, 0, none⟩), .int .i64 at_, .int .u64 v] w fun e w' => e = .returned (.tuple #[]) ∧ LgAt w' o q log long x l ∧ Ex (fun _ => False) w w' := by
  have HU := Lib.hid (Unpack_any v hv)
  obtain ⟨s, hs⟩ : ∃ s, unS v = s := ⟨_, rfl⟩
  obtain ⟨ue, hue⟩ : ∃ ue, unE v = ue := ⟨_, rfl⟩
  rw [hs, hue] at HU
  unfold St.val at HU
  have H := Lib.hid h
  have OLT := Lib.hid (And.intro h.lt h.qlt)
  rw [hue] at hk
  have km : (ue == 0) = false := by simpa using hk
  clear hk hue hs h hv hl
  go_enter Try.func36, Try.ntmps36
  go_wp2_with fail
  refine (HU.out _).mono ?_; rintro e w1 ⟨rfl, hb⟩
  have L1 := Lib.hid hb
  clear hb
  go_upto_region 1 with fail
  have hsn := Blk.new w1 28 #[.int .i64 s.mode, .int .i64 s.source, .bool s.hold, .int .i64 s.flags, .int .u64 s.epoch]
  have L2 := Lib.hid (L1.out.alloc L1.out.size (.cells #[.int .i64 s.mode, .int .i64 s.source, .bool s.hold, .int .i64 s.flags, .int .u64 s.epoch] 28))
  obtain ⟨sb, hsb⟩ : ∃ sb, w1.heap.size = sb := ⟨_, rfl⟩
  simp only [hsb] at hsn ⊢
  have ORD := Lib.hid (show o < sb ∧ q < sb from by have := L1.out.size; have := OLT.out; omega)
  generalize w1.alloc (.cells #[.int .i64 s.mode, .int .i64 s.source, .bool s.hold, .int .i64 s.flags, .int .u64 s.epoch] 28) = w2 at *
  have S2 := Lib.hid hsn
  have H2 := Lib.hid (H.out.below L2.out)
  clear hsn hsb L1 H
  go_quiet (fail)
  go_wp2_with fail
  go_end0
  exact ⟨rfl, H2.out.below (below_drewN (Below.refl _ _) _), Ex.of_below (below_drewN L2.out _)⟩
set_option maxRecDepth 100000 in
set_option maxHeartbeats 4000000 in
theorem keep_off (o q : Nat) (log long : Int) (x : LX) (l : List St) (at_ v : Int) (w : World) (h : LgAt w o q log long x l) (hv : 0 ≤ v ∧ v ≤ 18446744073709551615) (hl : l.length ≤ 64) (hk : unE v = 0) (hen : entF log long (unS v).epoch ≠ at_) :
    Calls Try.prog 36 #[.pointer (some ⟨o, 0, none⟩), .int .i64 at_, .int .u64 v] w fun e w' => e = .returned (.tuple #[]) ∧ LgAt w' o q log long x l ∧ Ex (fun _ => False) w w' := by
  have HU := Lib.hid (Unpack_any v hv)
  obtain ⟨s, hs⟩ : ∃ s, unS v = s := ⟨_, rfl⟩
  obtain ⟨ue, hue⟩ : ∃ ue, unE v = ue := ⟨_, rfl⟩
  rw [hs, hue] at HU
  unfold St.val at HU
  have H := Lib.hid h
  have OLT := Lib.hid (And.intro h.lt h.qlt)
  rw [hue] at hk
  subst hk
  rw [hs] at hen
  have HE := Lib.hid (fun W => Entry_any log long s.epoch W (by rw [← hs]; exact (unS_ok hv).epoch))
  obtain ⟨en, hen2⟩ : ∃ en, entF log long s.epoch = en := ⟨_, rfl⟩
  rw [hen2] at HE hen
  have ke : (en == at_) = false := by simpa using hen
  clear hen hen2 hue hs h hv hl
  go_enter Try.func36, Try.ntmps36
  go_wp2_with fail
  refine (HU.out _).mono ?_; rintro e w1 ⟨rfl, hb⟩
  have L1 := Lib.hid hb
  clear hb
  go_upto_region 1 with fail
  have hsn := Blk.new w1 28 #[.int .i64 s.mode, .int .i64 s.source, .bool s.hold, .int .i64 s.flags, .int .u64 s.epoch]
  have L2 := Lib.hid (L1.out.alloc L1.out.size (.cells #[.int .i64 s.mode, .int .i64 s.source, .bool s.hold, .int .i64 s.flags, .int .u64 s.epoch] 28))
  obtain ⟨sb, hsb⟩ : ∃ sb, w1.heap.size = sb := ⟨_, rfl⟩
  simp only [hsb] at hsn ⊢
  have ORD := Lib.hid (show o < sb ∧ q < sb from by have := L1.out.size; have := OLT.out; omega)
  generalize w1.alloc (.cells #[.int .i64 s.mode, .int .i64 s.source, .bool s.hold, .int .i64 s.flags, .int .u64 s.epoch] 28) = w2 at *
  have S2 := Lib.hid hsn
  have H2 := Lib.hid (H.out.below L2.out)
  clear hsn hsb L1 H
  obtain ⟨gv, hb2⟩ := H2.out.cells
  unfold lgC at hb2
  have B2 := Lib.hid hb2
  clear hb2
  have hne : Nonempty (Held (Below w2.heap.size w2)) := ⟨⟨w2, Below.refl _ _⟩⟩
  have p0 : ∀ y : Held (Below w2.heap.size w2), y.w.cell? ⟨o, 0, none⟩ = some (.int .i64 0) := fun y => (B2.out.bl y.ok).cell 0
  have p1 : ∀ y : Held (Below w2.heap.size w2), y.w.cell? ⟨o, 1, none⟩ = some (.int .i64 log) := fun y => (B2.out.bl y.ok).cell 1
  have p2 : ∀ y : Held (Below w2.heap.size w2), y.w.cell? ⟨o, 2, none⟩ = some (.int .i64 long) := fun y => (B2.out.bl y.ok).cell 2
  have p3 : ∀ y : Held (Below w2.heap.size w2), y.w.cell? ⟨o, 3, none⟩ = some (.slice none 0 0) := fun y => (B2.out.bl y.ok).cell 3
  have p4 : ∀ y : Held (Below w2.heap.size w2), y.w.cell? ⟨o, 4, none⟩ = some (.int .i64 0) := fun y => (B2.out.bl y.ok).cell 4
  have p9 : ∀ y : Held (Below w2.heap.size w2), y.w.cell? ⟨sb, 4, none⟩ = some (.int .u64 s.epoch) := fun y => (S2.out.bl y.ok).cell 4
  refine drawn_bars (S := Below w2.heap.size w2) [([0, 1, 2, 3, 4, 5, 6, 7, 8, 10], 9)] [11, 12] (by kernel_rfl) (by kernel_rfl) (by kernel_rfl) rfl (Below.refl _ _).drew ?_
  refine Phased.go ?_
  simp only [pick, List.map_cons, List.map_nil, List.getElem?_cons_zero, List.getElem?_cons_succ, Option.getD_some]
  repeat (go_big_quiet_step (fail))
  refine wpQuiet_nil ?_
  go_wp2_with fail
  refine (HE.out w2.drew).mono ?_; rintro e w3 ⟨rfl, hb⟩
  have hb2 := bl (Below.refl w2.heap.size w2).drew hb
  go_wp2_with fail
  refine behind_normal ⟨_, fun W h => h, hb2, ?_⟩
  refine Phased.end_ ?_
  clear hne p0 p1 p2 p3 p4 p9 hb HE HU
  have hne5 : Nonempty (Held (fun W => W = w3)) := ⟨⟨_, rfl⟩⟩
  simp only [pick, List.map_cons, List.map_nil, List.getElem?_cons_zero, List.getElem?_cons_succ, Option.getD_some]
  repeat (go_big_quiet_step (fail))
  refine wpQuiet_nil ?_
  have L3 := Lib.hid (bl L2.out hb2)
  have H3 := Lib.hid (H2.out.below hb2)
  have S3 := Lib.hid (S2.out.bl hb2)
  clear hne5 hb2 H2 S2 B2
  go_wp2_with fail
  go_end0
  exact ⟨rfl, H3.out, Ex.of_below L3.out⟩
set_option maxRecDepth 100000 in
set_option maxHeartbeats 4000000 in
theorem keep_yes (o q : Nat) (log long : Int) (x : LX) (l : List St) (at_ v : Int) (w : World) (h : LgAt w o q log long x l) (hv : 0 ≤ v ∧ v ≤ 18446744073709551615) (hl : l.length ≤ 64) (hk : unE v = 0) (hen : entF log long (unS v).epoch = at_) :
    Calls Try.prog 36 #[.pointer (some ⟨o, 0, none⟩), .int .i64 at_, .int .u64 v] w fun e w' => e = .returned (.tuple #[]) ∧ (∃ q', LgAt w' o q' log long x (l ++ [unS v]) ∧ (q' = q ∨ w.heap.size ≤ q')) ∧ Ex (fun k => k = o ∨ k = q) w w' := by
  have HU := Lib.hid (Unpack_any v hv)
  obtain ⟨s, hs⟩ : ∃ s, unS v = s := ⟨_, rfl⟩
  obtain ⟨ue, hue⟩ : ∃ ue, unE v = ue := ⟨_, rfl⟩
  rw [hs, hue] at HU
  unfold St.val at HU
  have H := Lib.hid h
  have OLT := Lib.hid (And.intro h.lt h.qlt)
  rw [hue] at hk
  subst hk
  rw [hs] at hen
  rw [hs]
  have HE := Lib.hid (fun W => Entry_any log long s.epoch W (by rw [← hs]; exact (unS_ok hv).epoch))
  obtain ⟨en, hen2⟩ : ∃ en, entF log long s.epoch = en := ⟨_, rfl⟩
  rw [hen2] at HE hen
  have ke : (en == at_) = true := by simpa using hen
  have HL := Lib.hid hl
  clear hen hen2 hue hs h hv hl
  go_enter Try.func36, Try.ntmps36
  go_wp2_with fail
  refine (HU.out _).mono ?_; rintro e w1 ⟨rfl, hb⟩
  have L1 := Lib.hid hb
  clear hb
  go_upto_region 1 with fail
  have hsn := Blk.new w1 28 #[.int .i64 s.mode, .int .i64 s.source, .bool s.hold, .int .i64 s.flags, .int .u64 s.epoch]
  have L2 := Lib.hid (L1.out.alloc L1.out.size (.cells #[.int .i64 s.mode, .int .i64 s.source, .bool s.hold, .int .i64 s.flags, .int .u64 s.epoch] 28))
  obtain ⟨sb, hsb⟩ : ∃ sb, w1.heap.size = sb := ⟨_, rfl⟩
  simp only [hsb] at hsn ⊢
  have ORD := Lib.hid (show o < sb ∧ q < sb from by have := L1.out.size; have := OLT.out; omega)
  generalize w1.alloc (.cells #[.int .i64 s.mode, .int .i64 s.source, .bool s.hold, .int .i64 s.flags, .int .u64 s.epoch] 28) = w2 at *
  have S2 := Lib.hid hsn
  have H2 := Lib.hid (H.out.below L2.out)
  clear hsn hsb L1 H
  obtain ⟨gv, hb2⟩ := H2.out.cells
  unfold lgC at hb2
  have B2 := Lib.hid hb2
  clear hb2
  have hne : Nonempty (Held (Below w2.heap.size w2)) := ⟨⟨w2, Below.refl _ _⟩⟩
  have p0 : ∀ y : Held (Below w2.heap.size w2), y.w.cell? ⟨o, 0, none⟩ = some (.int .i64 0) := fun y => (B2.out.bl y.ok).cell 0
  have p1 : ∀ y : Held (Below w2.heap.size w2), y.w.cell? ⟨o, 1, none⟩ = some (.int .i64 log) := fun y => (B2.out.bl y.ok).cell 1
  have p2 : ∀ y : Held (Below w2.heap.size w2), y.w.cell? ⟨o, 2, none⟩ = some (.int .i64 long) := fun y => (B2.out.bl y.ok).cell 2
  have p3 : ∀ y : Held (Below w2.heap.size w2), y.w.cell? ⟨o, 3, none⟩ = some (.slice none 0 0) := fun y => (B2.out.bl y.ok).cell 3
  have p4 : ∀ y : Held (Below w2.heap.size w2), y.w.cell? ⟨o, 4, none⟩ = some (.int .i64 0) := fun y => (B2.out.bl y.ok).cell 4
  have p9 : ∀ y : Held (Below w2.heap.size w2), y.w.cell? ⟨sb, 4, none⟩ = some (.int .u64 s.epoch) := fun y => (S2.out.bl y.ok).cell 4
  refine drawn_bars (S := Below w2.heap.size w2) [([0, 1, 2, 3, 4, 5, 6, 7, 8, 10], 9)] [11, 12] (by kernel_rfl) (by kernel_rfl) (by kernel_rfl) rfl (Below.refl _ _).drew ?_
  refine Phased.go ?_
  simp only [pick, List.map_cons, List.map_nil, List.getElem?_cons_zero, List.getElem?_cons_succ, Option.getD_some]
  repeat (go_big_quiet_step (fail))
  refine wpQuiet_nil ?_
  go_wp2_with fail
  refine (HE.out w2.drew).mono ?_; rintro e w3 ⟨rfl, hb⟩
  have hb2 := bl (Below.refl w2.heap.size w2).drew hb
  go_wp2_with fail
  refine behind_normal ⟨_, fun W h => h, hb2, ?_⟩
  refine Phased.end_ ?_
  clear hne p0 p1 p2 p3 p4 p9 hb HE HU
  have hne5 : Nonempty (Held (fun W => W = w3)) := ⟨⟨_, rfl⟩⟩
  simp only [pick, List.map_cons, List.map_nil, List.getElem?_cons_zero, List.getElem?_cons_succ, Option.getD_some]
  repeat (go_big_quiet_step (fail))
  refine wpQuiet_nil ?_
  have L3 := Lib.hid (bl L2.out hb2)
  have H3 := Lib.hid (H2.out.below hb2)
  have S3 := Lib.hid (S2.out.bl hb2)
  clear hne5 hb2 H2 S2 B2
  go_wp2_with fail
  have HF := Lib.hid H3.out.form
  have QLT := Lib.hid H3.out.qlt
  clear gv
  obtain ⟨gv, hb3, hr3, hq3⟩ := HF.out
  unfold lgC at hb3
  have B3 := Lib.hid hb3
  have R3 := Lib.hid hr3
  have Q3 := Lib.hid hq3
  clear hb3 hr3 hq3 HF H3
  obtain ⟨i0, hi0, hz0, hz1, hz2⟩ := info_parts st_info
  have hne : Nonempty (Held (Ex (fun k => k = q ∧ k ≠ o) w3)) := ⟨⟨w3, Ex.refl _ _⟩⟩
  have p0 : ∀ y : Held (Ex (fun k => k = q ∧ k ≠ o) w3), y.w.cell? ⟨o, 0, none⟩ = some (.int .i64 0) := fun y => (B3.out.ex y.ok (by omega)).cell 0
  have p14 : ∀ y : Held (Ex (fun k => k = q ∧ k ≠ o) w3), y.w.cell? ⟨o, 14, none⟩ = some gv := fun y => (B3.out.ex y.ok (by omega)).cell 14
  have p20 : ∀ y : Held (Ex (fun k => k = q ∧ k ≠ o) w3), y.w.cell? ⟨sb, 0, none⟩ = some (.int .i64 s.mode) := fun y => (S3.out.ex y.ok (by have := ORD.out; omega)).cell 0
  have p21 : ∀ y : Held (Ex (fun k => k = q ∧ k ≠ o) w3), y.w.cell? ⟨sb, 1, none⟩ = some (.int .i64 s.source) := fun y => (S3.out.ex y.ok (by have := ORD.out; omega)).cell 1
  have p22 : ∀ y : Held (Ex (fun k => k = q ∧ k ≠ o) w3), y.w.cell? ⟨sb, 2, none⟩ = some (.bool s.hold) := fun y => (S3.out.ex y.ok (by have := ORD.out; omega)).cell 2
  have p23 : ∀ y : Held (Ex (fun k => k = q ∧ k ≠ o) w3), y.w.cell? ⟨sb, 3, none⟩ = some (.int .i64 s.flags) := fun y => (S3.out.ex y.ok (by have := ORD.out; omega)).cell 3
  have p24 : ∀ y : Held (Ex (fun k => k = q ∧ k ≠ o) w3), y.w.cell? ⟨sb, 4, none⟩ = some (.int .u64 s.epoch) := fun y => (S3.out.ex y.ok (by have := ORD.out; omega)).cell 4
  refine drawn_tail (S := (Ex (fun k => k = q ∧ k ≠ o) w3)) [10] [([0, 1, 2, 3, 4, 5], 6), ([], 7), ([], 8), ([], 9), ([], 10)] (by kernel_rfl) (by kernel_rfl) (by kernel_rfl) rfl (Ex.refl _ _).drew ?_
  refine PhasedT.go ?_
  simp only [pick, List.map_cons, List.map_nil, List.getElem?_cons_zero, List.getElem?_cons_succ, Option.getD_some]
  repeat (go_big_quiet_step (fail))
  refine wpQuiet_nil ?_
  clear hne p0 p14 p20 p21 p22 p23 p24
  have EE0 := Lib.hid ((Ex.refl (fun k => k = q ∧ k ≠ o) w3).drew)
  have B4 := Lib.hid (B3.out.ex EE0.out (by omega))
  have R4 := Lib.hid (ownsRow_ex (T := fun _ => False) R3.out (Ex.refl _ w3).drew (fun _ _ h => h))
  have L4 := Lib.hid L3.out.drew
  generalize w3.drew = w4 at *
  clear B3 R3 S3
  go_wp2_with fail
  refine behind_normal ⟨(Ex (fun k => k = q ∧ k ≠ o) w3), fun W h => h, by first | exact EE0.out.alloc _ | exact fun _ => EE0.out.alloc _, ?_⟩
  refine PhasedT.go ?_
  simp only [pick, List.map_cons, List.map_nil, List.getElem?_cons_zero, List.getElem?_cons_succ, Option.getD_some]
  repeat (go_big_quiet_step (fail))
  refine wpQuiet_nil ?_
  go_wp2_with (at_builtin; refine wpList_append_own_at _ rfl _ _ 22 rfl (o + 1) 28 i0 (.agg #[.int .i64 0, .int .i64 0, .bool false, .int .i64 0, .int .u64 0]) 5 40 Try.underlying22 hi0 hz0 hz1 hz2 rfl (by decide) _ _ _ rfl (World.ownsRow.alloc R4.out _) ⟨w4.heap.size, 0, none⟩ 1 1 (encS s) rfl rfl ?c1 ?c2 ?c3 ?c4 ?c5 ?_)
  case c1 =>
    have hbn := Blk.new w4 28 #[.int .i64 s.mode, .int .i64 s.source, .bool s.hold, .int .i64 s.flags, .int .u64 s.epoch]
    intro j u hj
    match j, hj with
    | 0, hj => simp [encS] at hj; subst hj; exact hbn.cell 0
    | 1, hj => simp [encS] at hj; subst hj; exact hbn.cell 1
    | 2, hj => simp [encS] at hj; subst hj; exact hbn.cell 2
    | 3, hj => simp [encS] at hj; subst hj; exact hbn.cell 3
    | 4, hj => simp [encS] at hj; subst hj; exact hbn.cell 4
  case c2 => exact encS_one s
  case c3 => have h1 := HL.out; unfold maxLen; omega
  case c4 => have h1 := HL.out; omega
  case c5 => have h1 := B4.out.lt; simp; omega
  intro v' w5 hown' hgrow _ hat
  obtain ⟨va, vc, rfl⟩ := own_form hown'
  have he : Ex (fun k => k = q ∧ k ≠ o) w4 w5 := (((Ex.refl (fun k => k = q ∧ k ≠ o) w4).alloc _).trans (Ex.of_grown hgrow (fun k hk => ⟨Q3.out k hk, by have := (World.ownsRow.lt R4.out k hk).1; omega⟩)))
  have EE1 := Lib.hid (EE0.out.trans he)
  have B5 := Lib.hid (B4.out.ex he (by omega))
  have R5 := Lib.hid (show w5.ownsRow (o + 1) 28 5 (.slice va (l.length + 1) vc) (l ++ [s]).length (flatS (l ++ [s])) from by rw [flatS_append, flatS_one, List.length_append]; exact hown')
  have HAT := Lib.hid (show ∀ k, (Value.slice va (l.length + 1) vc).ownBlock = some k → k = q ∨ w.heap.size ≤ k from fun k hk => by
    rcases hat with h | h
    · exact .inl (Q3.out k (h ▸ hk))
    · rw [h] at hk
      have := L4.out.size
      simp at hk
      exact .inr (by omega))
  clear hown' hgrow hat he B4 R4 EE0
  refine behind_normal ⟨(Ex (fun k => k = q ∧ k ≠ o) w3), fun W h => h, by first | exact EE1.out | exact fun _ => EE1.out, ?_⟩
  refine PhasedT.go ?_
  simp only [pick, List.map_cons, List.map_nil, List.getElem?_cons_zero, List.getElem?_cons_succ, Option.getD_some]
  repeat (go_big_quiet_step (fail))
  refine wpQuiet_nil ?_
  have Bq0 := B5.out.cell 0
  simp only [List.getElem?_toArray, List.getElem?_cons_succ, List.getElem?_cons_zero] at Bq0
  go_wp2_with fail
  clear Bq0
  refine behind_normal ⟨(Ex (fun k => k = q ∧ k ≠ o) w3), fun W h => h, by first | exact EE1.out | exact fun _ => EE1.out, ?_⟩
  refine PhasedT.go ?_
  simp only [pick, List.map_cons, List.map_nil, List.getElem?_cons_zero, List.getElem?_cons_succ, Option.getD_some]
  repeat (go_big_quiet_step (fail))
  refine wpQuiet_nil ?_
  have Bq0 := B5.out.cell 0
  simp only [List.getElem?_toArray, List.getElem?_cons_succ, List.getElem?_cons_zero] at Bq0
  go_wp2_with fail
  clear Bq0
  refine behind_normal ⟨(Ex (fun k => k = q ∧ k ≠ o) w3), fun W h => h, by first | exact EE1.out | exact fun _ => EE1.out, ?_⟩
  refine PhasedT.go ?_
  simp only [pick, List.map_cons, List.map_nil, List.getElem?_cons_zero, List.getElem?_cons_succ, Option.getD_some]
  repeat (go_big_quiet_step (fail))
  refine wpQuiet_nil ?_
  have Bq14 := B5.out.cell 14
  simp only [List.getElem?_toArray, List.getElem?_cons_succ, List.getElem?_cons_zero] at Bq14
  have Bf14 := B5.out.frozen 14
  go_wp2_with fail
  refine behind_normal ⟨(Ex (fun k => k = q ∧ k ≠ o) w3), fun W h => h, by first | exact fun h => absurd h (by decide) | trivial | simp, ?_⟩
  refine PhasedT.end_ ?_
  clear Bq14 Bf14
  go_wp2_with fail
  go_end0
  have hset := B5.out.set_ 14 (.slice va (l.length + 1) vc)
  simp only [List.setIfInBounds_toArray, List.set_cons_succ, List.set_cons_zero] at hset
  have ee : Ex (fun k => k = o) w5 (w5.setCell ⟨o, 14, none⟩ (.slice va (l.length + 1) vc)) := ((Ex.refl (fun k => k = o) w5).setCell (q := ⟨o, 14, none⟩) (.inl rfl) (.slice va (l.length + 1) vc))
  have hR6 := ownsRow_ex R5.out ee (fun k hk h => by have := (World.ownsRow.lt R5.out k hk).1; omega)
  have hall : Ex (fun k => k = o ∨ k = q) w (w5.setCell ⟨o, 14, none⟩ (.slice va (l.length + 1) vc)) := ((Ex.of_below L3.out).trans (EE1.out.mono (fun k h => .inr h.1))).trans (ee.mono (fun k h => .inl h))
  refine ⟨rfl, ?_, hall⟩
  rcases hR6.2 with ⟨_, h0⟩ | ⟨g9, c9, cur9, hv9, hb9, hg9, rest9⟩
  · simp at h0
  · exact ⟨g9, ⟨⟨_, hset, hR6, fun k hk => by rw [hv9] at hk; simp [Value.ownBlock] at hk; exact hk.symm⟩, (Array.getElem?_eq_some_iff.1 hg9).1⟩, HAT.out g9 (by rw [hv9]; rfl)⟩
end Go.Proofs.Ythhellgaafbokaa.Lg
