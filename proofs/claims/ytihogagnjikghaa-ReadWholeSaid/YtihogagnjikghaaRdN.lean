/-
  A reading in memory: how it is made, where it loads, and what is told of it. Conditions stand at each. By an AI agent.
-/
import Derived.Test.YtihogagnjikghaaRd
namespace Go.Proofs.Ytihogagnjikghaa.Bank
set_option linter.unusedVariables false
set_option linter.unusedSimpArgs false
open Go Go.RowKit Go.Proofs.Ytihogagnjikghaa.Base

theorem RNew_may (s : Spot) (tries : Int) (w : World) (hm : mayF s tries = false) :
    Calls Try.prog 9 #[s.val, .int .i64 tries] w fun e w' => e = .returned (.tuple #[.pointer none, .int .i64 10]) ∧ Below w.heap.size w w' := by
  obtain ⟨ow, sq, fi, wo, de⟩ := s
  have hr := rright_any ⟨ow, sq, fi, wo, de⟩ tries (w.alloc (.cells #[.int .i64 ow, .int .i64 sq, .int .i64 fi, .int .i64 wo, .int .i64 de] 23))
  have L0 := Lib.hid ((Below.refl w.heap.size w).alloc (Nat.le_refl _) (.cells #[.int .i64 ow, .int .i64 sq, .int .i64 fi, .int .i64 wo, .int .i64 de] 23))
  rw [hm] at hr
  unfold Spot.val at hr ⊢
  simp only at hr ⊢
  have HR := Lib.hid hr
  clear hm hr
  go_enter Try.func9, Try.ntmps9
  go_wp2_with fail
  refine HR.out.mono ?_; rintro e w' ⟨rfl, hb⟩
  have L1 := Lib.hid (bl L0.out hb)
  clear hb
  go_wp2_with fail
  go_ret2
  exact ⟨rfl, L1.out⟩
set_option maxRecDepth 100000 in
set_option maxHeartbeats 4000000 in
theorem RNew_in (s : Spot) (tries : Int) (w : World) (hm : mayF s tries = true) :
    Calls Try.prog 9 #[s.val, .int .i64 tries] w fun e w' => ∃ o r, e = .returned (.tuple #[.pointer (some ⟨o, 0, none⟩), .int .i64 0]) ∧ RdAt w' o r s tries RS.zero (zeros s.words.toNat) ∧ w.heap.size ≤ r ∧ r < o ∧ Below w.heap.size w w' := by
  obtain ⟨ow, sq, fi, wo, de⟩ := s
  have hright : Spot.Right ⟨ow, sq, fi, wo, de⟩ ∧ 1 ≤ tries ∧ tries ≤ 16 := of_decide_eq_true hm
  have hwo := hright.1.1
  simp only at hwo
  obtain ⟨n, rfl⟩ : ∃ n : Nat, wo = n := ⟨wo.toNat, by omega⟩
  have hr := rright_any ⟨ow, sq, fi, n, de⟩ tries (w.alloc (.cells #[.int .i64 ow, .int .i64 sq, .int .i64 fi, .int .i64 n, .int .i64 de] 23))
  have L0 := Lib.hid ((Below.refl w.heap.size w).alloc (Nat.le_refl _) (.cells #[.int .i64 ow, .int .i64 sq, .int .i64 fi, .int .i64 n, .int .i64 de] 23))
  have B0 := Lib.hid (Blk.new w 23 #[.int .i64 ow, .int .i64 sq, .int .i64 fi, .int .i64 n, .int .i64 de])
  rw [hm] at hr
  unfold Spot.val at hr ⊢
  simp only [Int.toNat_natCast] at hr ⊢
  have HR := Lib.hid hr
  have HN := Lib.hid (show n ≤ 1048576 by omega)
  clear hm hr hright hwo
  go_enter Try.func9, Try.ntmps9
  go_wp2_with fail
  refine HR.out.mono ?_; rintro e w1 ⟨rfl, hb⟩
  have L1 := Lib.hid (bl L0.out hb)
  have B1 := Lib.hid (B0.out.bl hb)
  clear hb L0 B0
  go_upto_region 3 with fail
  have hne : Nonempty (Held (Below w1.heap.size w1)) := ⟨⟨w1, Below.refl _ _⟩⟩
  have s0 : ∀ x : Held (Below w1.heap.size w1), x.w.cell? ⟨w.heap.size, 0, none⟩ = some (.int .i64 ow) := fun x => (B1.out.bl x.ok).cell 0
  have s1 : ∀ x : Held (Below w1.heap.size w1), x.w.cell? ⟨w.heap.size, 1, none⟩ = some (.int .i64 sq) := fun x => (B1.out.bl x.ok).cell 1
  have s2 : ∀ x : Held (Below w1.heap.size w1), x.w.cell? ⟨w.heap.size, 2, none⟩ = some (.int .i64 fi) := fun x => (B1.out.bl x.ok).cell 2
  have s3 : ∀ x : Held (Below w1.heap.size w1), x.w.cell? ⟨w.heap.size, 3, none⟩ = some (.int .i64 n) := fun x => (B1.out.bl x.ok).cell 3
  have s4 : ∀ x : Held (Below w1.heap.size w1), x.w.cell? ⟨w.heap.size, 4, none⟩ = some (.int .i64 de) := fun x => (B1.out.bl x.ok).cell 4
  have hmk := make_words n HN.out w1.drew
  refine drawn_bars (S := Below w1.heap.size w1) [([0, 1, 2, 3], 4), ([5], 6)] [7, 8] (by kernel_rfl) (by kernel_rfl) (by kernel_rfl) rfl (Below.refl _ _).drew ?_
  refine Phased.go ?_
  simp only [pick, List.map_cons, List.map_nil, List.getElem?_cons_zero, List.getElem?_cons_succ, Option.getD_some]
  repeat (go_big_quiet_step (fail))
  refine wpQuiet_nil ?_
  go_wp2_with fail
  have RB := Lib.hid (show Row ((w1.alloc (.cells ((zeros n).map (Value.int .u64)).toArray 43)).drew) w1.heap.size (zeros n) from Blk.new w1 _ _)
  have L2 := Lib.hid ((L1.out.alloc L1.out.size (.cells ((zeros n).map (Value.int .u64)).toArray 43)).drew)
  have LB2 := Lib.hid (show Below w1.heap.size w1 ((w1.alloc (.cells ((zeros n).map (Value.int .u64)).toArray 43)).drew) from ((Below.refl w1.heap.size w1).alloc (Nat.le_refl _) _).drew)
  have S2 := Lib.hid (show w1.heap.size < ((w1.alloc (.cells ((zeros n).map (Value.int .u64)).toArray 43)).drew).heap.size by simp [World.drew])
  clear hne s0 s1 s2 s3 s4 hmk
  generalize (w1.alloc (.cells ((zeros n).map (Value.int .u64)).toArray 43)).drew = w2 at *
  generalize hr1 : w1.heap.size = r1 at *
  refine behind_normal ⟨Below r1 w1, fun W h => h, LB2.out, ?_⟩
  refine Phased.go ?_
  simp only [pick, List.map_cons, List.map_nil, List.getElem?_cons_zero, List.getElem?_cons_succ, Option.getD_some]
  have hne2 : Nonempty (Held (Below r1 w1)) := ⟨⟨w2, LB2.out⟩⟩
  repeat (go_big_quiet_step (fail))
  refine wpQuiet_nil ?_
  go_wp2_with fail
  have OB := Lib.hid (Blk.new w2 82 #[.int .i64 ow, .int .i64 sq, .int .i64 fi, .int .i64 n, .int .i64 de, .int .i64 tries, .int .i64 0, .int .u64 0, .slice (some ⟨r1, 0, none⟩) n n, .int .i64 0, .int .i64 0, .int .i64 0, .int .i64 0])
  have RB3 := Lib.hid (RB.out.bl ((Below.refl w2.heap.size w2).alloc (Nat.le_refl _) (.cells #[.int .i64 ow, .int .i64 sq, .int .i64 fi, .int .i64 n, .int .i64 de, .int .i64 tries, .int .i64 0, .int .u64 0, .slice (some ⟨r1, 0, none⟩) n n, .int .i64 0, .int .i64 0, .int .i64 0, .int .i64 0] 82)))
  have L3 := Lib.hid (L2.out.alloc L2.out.size (.cells #[.int .i64 ow, .int .i64 sq, .int .i64 fi, .int .i64 n, .int .i64 de, .int .i64 tries, .int .i64 0, .int .u64 0, .slice (some ⟨r1, 0, none⟩) n n, .int .i64 0, .int .i64 0, .int .i64 0, .int .i64 0] 82))
  have LB3 := Lib.hid (LB2.out.alloc (by have := S2.out; omega) (.cells #[.int .i64 ow, .int .i64 sq, .int .i64 fi, .int .i64 n, .int .i64 de, .int .i64 tries, .int .i64 0, .int .u64 0, .slice (some ⟨r1, 0, none⟩) n n, .int .i64 0, .int .i64 0, .int .i64 0, .int .i64 0] 82))
  clear hne2
  generalize w2.alloc (.cells #[.int .i64 ow, .int .i64 sq, .int .i64 fi, .int .i64 n, .int .i64 de, .int .i64 tries, .int .i64 0, .int .u64 0, .slice (some ⟨r1, 0, none⟩) n n, .int .i64 0, .int .i64 0, .int .i64 0, .int .i64 0] 82) = w3 at *
  refine behind_normal ⟨fun W => W = w3, fun W h => by rw [h]; exact LB3.out, rfl, ?_⟩
  refine Phased.end_ ?_
  simp only [pick, List.map_cons, List.map_nil, List.getElem?_cons_zero, List.getElem?_cons_succ, Option.getD_some]
  have hne3 : Nonempty (Held (fun W => W = w3)) := ⟨⟨_, rfl⟩⟩
  repeat (go_big_quiet_step (fail))
  refine wpQuiet_nil ?_
  go_wp2_with fail
  go_ret2
  refine ⟨w2.heap.size, r1, rfl, ⟨?_, RB3.out, by have := S2.out; omega⟩, by rw [← hr1]; exact L1.out.size, S2.out, L3.out⟩
  rw [zeros_len]
  have := OB.out
  simpa [rCs, RS.zero] using this
theorem at_any (o r : Nat) (s : Spot) (tries : Int) (x : RS) (got : List Int) (w : World) (h : RdAt w o r s tries x got) (hi : RInv s tries x got) :
    Calls Try.prog 37 #[.pointer (some ⟨o, 0, none⟩)] w fun e w' => e = .returned (.int .i64 (atR s x)) ∧ Below w.heap.size w w' := by
  have B0 := Lib.hid h.head
  unfold rCs at B0
  unfold atR
  have hat := At_any s x.gen w.drew ⟨hi.gen.1, by have := hi.gen.2; omega⟩ hi.right.atOk
  have hpl : wrap64 (atF s x.gen + x.n) = placeR s x.gen x.n := by
    unfold placeR
    have h1 := hi.right.1
    have h2 := hi.right.2.2.2.2
    have h5 := atF_bounds (s := s) (gen := x.gen) hi.right.atOk
    have h6 := hi.n
    rw [atF_ok hi.right.atOk]
    exact wrap64_in _ (by omega)
  have HAT := Lib.hid hat
  have HPL := Lib.hid hpl
  clear h hi hat hpl
  obtain ⟨ow, sq, fi, wo, de⟩ := s
  unfold Spot.val at HAT
  simp only at HAT B0
  generalize atF ⟨ow, sq, fi, wo, de⟩ x.gen = pl at *
  generalize placeR ⟨ow, sq, fi, wo, de⟩ x.gen x.n = pn at *
  have q6 := B0.out.cell 6
  have q0 := B0.out.cell 0
  have q1 := B0.out.cell 1
  simp only [List.getElem?_toArray, List.getElem?_cons_succ, List.getElem?_cons_zero] at q0 q1 q6
  by_cases hn : x.next = 1
  · have kd : (x.next == 1) = true := beq_iff_eq.2 hn
    rw [if_pos hn]
    clear hn
    go_enter Try.func37, Try.ntmps37
    go_upto_region 2 with fail
    clear q0 q1 q6
    have hne : Nonempty (Held (Below w.heap.size w)) := ⟨⟨w, Below.refl _ _⟩⟩
    have p0 : ∀ y : Held (Below w.heap.size w), y.w.cell? ⟨o, 0, none⟩ = some (.int .i64 ow) := fun y => (B0.out.bl y.ok).cell 0
    have p1 : ∀ y : Held (Below w.heap.size w), y.w.cell? ⟨o, 1, none⟩ = some (.int .i64 sq) := fun y => (B0.out.bl y.ok).cell 1
    have p2 : ∀ y : Held (Below w.heap.size w), y.w.cell? ⟨o, 2, none⟩ = some (.int .i64 fi) := fun y => (B0.out.bl y.ok).cell 2
    have p3 : ∀ y : Held (Below w.heap.size w), y.w.cell? ⟨o, 3, none⟩ = some (.int .i64 wo) := fun y => (B0.out.bl y.ok).cell 3
    have p4 : ∀ y : Held (Below w.heap.size w), y.w.cell? ⟨o, 4, none⟩ = some (.int .i64 de) := fun y => (B0.out.bl y.ok).cell 4
    have p7 : ∀ y : Held (Below w.heap.size w), y.w.cell? ⟨o, 7, none⟩ = some (.int .u64 x.gen) := fun y => (B0.out.bl y.ok).cell 7
    have p9 : ∀ y : Held (Below w.heap.size w), y.w.cell? ⟨o, 9, none⟩ = some (.int .i64 x.n) := fun y => (B0.out.bl y.ok).cell 9
    refine drawn_bars (S := Below w.heap.size w) [([0, 1, 2, 3, 4, 5, 6, 7, 9, 10, 11, 12], 8)] [13, 14] (by kernel_rfl) (by kernel_rfl) (by kernel_rfl) rfl (Below.refl _ _).drew ?_
    refine Phased.go ?_
    simp only [pick, List.map_cons, List.map_nil, List.getElem?_cons_zero, List.getElem?_cons_succ, Option.getD_some]
    repeat (go_big_quiet_step (fail))
    refine wpQuiet_nil ?_
    go_wp2_with fail
    refine HAT.out.mono ?_; rintro e w1 ⟨rfl, hb⟩
    have hb2 := bl ((Below.refl w.heap.size w).drew) hb
    go_wp2_with fail
    refine behind_normal ⟨Below w.heap.size w, fun W h => h, hb2, ?_⟩
    refine Phased.end_ ?_
    have hne5 : Nonempty (Held (fun W => W = w1)) := ⟨⟨_, rfl⟩⟩
    simp only [pick, List.map_cons, List.map_nil, List.getElem?_cons_zero, List.getElem?_cons_succ, Option.getD_some]
    repeat (go_big_quiet_step (fail))
    refine wpQuiet_nil ?_
    clear hne hne5 p0 p1 p2 p3 p4 p7 p9 hb HAT
    have HB2 := Lib.hid hb2
    clear hb2
    go_wp2_with fail
    go_ret
    exact ⟨congrArg (fun z => Ending.returned (.int .i64 z)) HPL.out, HB2.out⟩
  · have kd : (x.next == 1) = false := beq_eq_false_iff_ne.2 hn
    rw [if_neg hn]
    clear hn
    go_enter Try.func37, Try.ntmps37
    go_wp2_with fail
    go_ret
    exact ⟨rfl, Below.refl _ _⟩
theorem RAt_any (o r : Nat) (s : Spot) (tries : Int) (x : RS) (got : List Int) (w : World) (h : RdAt w o r s tries x got) :
    Calls Try.prog 20 #[.pointer (some ⟨o, 0, none⟩)] w fun e w' => e = .returned (.int .i64 (if x.how = 1 then x.begun else 0)) ∧ w = w' := by
  have q12 := h.head.cell 12
  have q10 := h.head.cell 10
  have q0 := h.head.cell 0
  simp only [rCs, List.getElem?_toArray, List.getElem?_cons_succ, List.getElem?_cons_zero] at q0 q10 q12
  by_cases hh : x.how = 1
  · have hd : (x.how != 1) = false := by simpa using hh
    rw [if_pos hh]
    clear h hh
    go_enter Try.func20, Try.ntmps20
    go_wp2_with fail
    go_ret
    exact ⟨rfl, rfl⟩
  · have hd : (x.how != 1) = true := by simpa using hh
    rw [if_neg hh]
    clear h hh
    go_enter Try.func20, Try.ntmps20
    go_wp2_with fail
    go_ret
    exact ⟨rfl, rfl⟩
theorem RAt_none (w : World) : Calls Try.prog 20 #[.pointer none] w fun e w' => e = .returned (.int .i64 0) ∧ w = w' := by
  go_enter Try.func20, Try.ntmps20
  go_wp2_with fail
  go_ret
  exact ⟨rfl, rfl⟩
theorem RSteps_any (o r : Nat) (s : Spot) (tries : Int) (x : RS) (got : List Int) (w : World) (h : RdAt w o r s tries x got) :
    Calls Try.prog 17 #[.pointer (some ⟨o, 0, none⟩)] w fun e w' => e = .returned (.int .i64 x.steps) ∧ w = w' := by
  have q11 := h.head.cell 11
  have q0 := h.head.cell 0
  simp only [rCs, List.getElem?_toArray, List.getElem?_cons_succ, List.getElem?_cons_zero] at q0 q11
  clear h
  go_enter Try.func17, Try.ntmps17
  go_wp2_with fail
  go_ret
  exact ⟨rfl, rfl⟩
theorem RSteps_none (w : World) : Calls Try.prog 17 #[.pointer none] w fun e w' => e = .returned (.int .i64 0) ∧ w = w' := by
  go_enter Try.func17, Try.ntmps17
  go_wp2_with fail
  go_ret
  exact ⟨rfl, rfl⟩
theorem RGot_not (o r : Nat) (s : Spot) (tries : Int) (x : RS) (got : List Int) (w : World) (h : RdAt w o r s tries x got) (hh : x.how ≠ 1) :
    Calls Try.prog 18 #[.pointer (some ⟨o, 0, none⟩)] w fun e w' => e = .returned (.tuple #[.slice none 0 0, .int .u64 0]) ∧ w = w' := by
  have q12 := h.head.cell 12
  have q0 := h.head.cell 0
  simp only [rCs, List.getElem?_toArray, List.getElem?_cons_succ, List.getElem?_cons_zero] at q0 q12
  have hd : (x.how != 1) = true := by simpa using hh
  clear h hh
  go_enter Try.func18, Try.ntmps18
  go_wp2_with fail
  go_ret2
  exact ⟨rfl, rfl⟩
theorem RGot_none (w : World) : Calls Try.prog 18 #[.pointer none] w fun e w' => e = .returned (.tuple #[.slice none 0 0, .int .u64 0]) ∧ w = w' := by
  go_enter Try.func18, Try.ntmps18
  go_wp2_with fail
  go_ret2
  exact ⟨rfl, rfl⟩
set_option maxRecDepth 100000 in
set_option maxHeartbeats 4000000 in
theorem RGot_done (o r : Nat) (s : Spot) (tries : Int) (x : RS) (got : List Int) (w : World) (h : RdAt w o r s tries x got) (hi : RInv s tries x got) (hh : x.how = 1) :
    Calls Try.prog 18 #[.pointer (some ⟨o, 0, none⟩)] w fun e w' => ∃ q, e = .returned (.tuple #[.slice (some ⟨q, 0, none⟩) got.length got.length, .int .u64 x.gen]) ∧ Row w' q got ∧ w.heap.size ≤ q ∧ Below w.heap.size w w' := by
  have q12 := h.head.cell 12
  have q8 := h.head.cell 8
  have q0 := h.head.cell 0
  simp only [rCs, List.getElem?_toArray, List.getElem?_cons_succ, List.getElem?_cons_zero] at q0 q12 q8
  have hd : (x.how != 1) = false := by simpa using hh
  have hlen : got.length ≤ 64 := by have := hi.len; have := hi.right.1; omega
  have hmk := make_words got.length (by omega) w
  have RW := Lib.hid h.row
  have HD := Lib.hid h.head
  unfold rCs at HD
  have QB := Lib.hid (Blk.new w 43 ((zeros got.length).map (Value.int .u64)).toArray)
  have L0 := Lib.hid ((Below.refl w.heap.size w).alloc (Nat.le_refl _) (.cells ((zeros got.length).map (Value.int .u64)).toArray 43))
  have HL := Lib.hid hlen
  clear h hh hi hlen
  go_enter Try.func18, Try.ntmps18
  have HD2 := Lib.hid (HD.out.bl ((Below.refl w.heap.size w).alloc (Nat.le_refl _) (.cells ((zeros got.length).map (Value.int .u64)).toArray 43)))
  have RW2 := Lib.hid (RW.out.bl ((Below.refl w.heap.size w).alloc (Nat.le_refl _) (.cells ((zeros got.length).map (Value.int .u64)).toArray 43)))
  have q8b := HD2.out.cell 8
  have q0b := HD2.out.cell 0
  simp only [List.getElem?_toArray, List.getElem?_cons_succ, List.getElem?_cons_zero] at q8b q0b
  go_wp2_with (refine wpList_copy_splice rfl _ _ 42 42 rfl 43 Try.underlying42 (by kernel_rfl) _ _ _ _ _ _ rfl rfl w.heap.size 0 ((zeros got.length).map (Value.int .u64)) 43 QB.out (got.map (Value.int .u64)) ?h1 ?h2 ?h3 ?h4 w.heap.size w L0.out (Nat.le_refl _) ?_)
  case h1 => simp
  case h2 =>
    intro _
    intro j v hj
    have hjl := (List.getElem?_eq_some_iff.1 hj).1
    have := RW2.out.word hjl
    rw [this]
    simpa [nth, List.getD_eq_getElem?_getD, List.getElem?_eq_getElem hjl] using hj
  case h3 => simp [zeros_len]
  case h4 => intro u hu; obtain ⟨x, _, rfl⟩ := List.mem_map.1 hu; rfl
  intro w2 hg hb
  have HG := Lib.hid (show Row w2 w.heap.size got by
    have := hg.out
    unfold Row Blk
    rw [this]
    simp [splice, zeros_len])
  have HB := Lib.hid hb
  have HD3 := Lib.hid (HD.out.bl hb)
  clear hg hb q0 q8 q12 q0b q8b hmk
  go_upto_region 5 with fail
  have hne : Nonempty (Held (fun W => W = w2.drew)) := ⟨⟨_, rfl⟩⟩
  have p7 : ∀ y : Held (fun W => W = w2.drew), y.w.cell? ⟨o, 7, none⟩ = some (.int .u64 x.gen) := fun y => by rw [y.ok]; exact HD3.out.cell 7
  have p0 : ∀ y : Held (fun W => W = w2.drew), y.w.cell? ⟨o, 0, none⟩ = some (.int .i64 s.owners) := fun y => by rw [y.ok]; exact HD3.out.cell 0
  refine drawn_bars (S := fun _ => True) [] [0, 1, 2, 3, 4, 5, 6] (by kernel_rfl) (by kernel_rfl) (by kernel_rfl) rfl trivial ?_
  refine Phased.end_ ?_
  simp only [pick, List.map_cons, List.map_nil, List.getElem?_cons_zero, List.getElem?_cons_succ, Option.getD_some]
  repeat (go_big_quiet_step (fail))
  refine wpQuiet_nil ?_
  clear hne p7 p0
  have HG4 := Lib.hid (show Row w2.drew w.heap.size got from HG.out)
  have HB4 := Lib.hid HB.out.drew
  generalize w2.drew = w4 at *
  go_wp2_with fail
  go_ret2
  exact ⟨w.heap.size, rfl, HG4.out, Nat.le_refl _, HB4.out⟩
end Go.Proofs.Ytihogagnjikghaa.Bank
