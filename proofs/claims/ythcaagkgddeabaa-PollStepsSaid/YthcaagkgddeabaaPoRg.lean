/-
  Law 12, the document's answer: Pick. Printed by wip/tools/mkpore.py. Conditions stand at each. By an AI agent.
  Law 12, the document's answer: Next. Printed by wip/tools/mkporf.py. Conditions stand at each. By an AI agent.
  Law 12: subs: subscriptions that are the document's. Printed by wip/tools/mkporg.py. Conditions stand at each. By an AI agent.
-/
import Derived.Test.YthcaagkgddeabaaPoRd
namespace Go.Proofs.Ythcaagkgddeabaa.Bank
set_option linter.unusedVariables false
set_option linter.unusedSimpArgs false
open Go Go.RowKit Go.Proofs.Ythcaagkgddeabaa.Base Go.Deep Go.ChangeShapes Go.WideShapes Go.Proofs.Ythcaagkgddeabaa.Queue
def kcellAt (s : Queue.Sub) : Nat → Value
  | 0 => .int .i64 s.rank
  | 1 => .int .u64 s.cur.next
  | 2 => .int .i64 s.cur.cap
  | 3 => .int .u64 s.cur.got
  | _ => .int .u64 s.cur.lost
def kcells (l : Nat → Queue.Sub) (k : Nat) : List Value := (List.range (5 * k)).map fun t => kcellAt (l (t / 5)) (t % 5)
def knews (s : Queue.Sub) : List Value := [.int .i64 s.rank, .int .u64 s.cur.next, .int .i64 s.cur.cap, .int .u64 s.cur.got, .int .u64 s.cur.lost]
theorem kcells_zero (l : Nat → Queue.Sub) : kcells l 0 = [] := rfl
theorem kcells_succ (l : Nat → Queue.Sub) (k : Nat) : kcells l (k + 1) = kcells l k ++ knews (l k) := by
  unfold kcells knews
  rw [show 5 * (k + 1) = 5 * k + 1 + 1 + 1 + 1 + 1 by omega]
  simp only [List.range_succ, List.map_append, List.map_cons, List.map_nil, List.append_assoc, List.cons_append, List.nil_append]
  rw [show 5 * k / 5 = k by omega, show (5 * k + 1) / 5 = k by omega, show (5 * k + 1 + 1) / 5 = k by omega, show (5 * k + 1 + 1 + 1) / 5 = k by omega, show (5 * k + 1 + 1 + 1 + 1) / 5 = k by omega,
    show 5 * k % 5 = 0 by omega, show (5 * k + 1) % 5 = 1 by omega, show (5 * k + 1 + 1) % 5 = 2 by omega, show (5 * k + 1 + 1 + 1) % 5 = 3 by omega, show (5 * k + 1 + 1 + 1 + 1) % 5 = 4 by omega]
  rfl
theorem kcells_at (l : Nat → Queue.Sub) {k i j : Nat} (hi : i < k) (hj : j < 5) : (kcells l k)[i * 5 + j]? = some (kcellAt (l i) j) := by
  unfold kcells
  rw [List.getElem?_map, List.getElem?_range (by omega)]
  simp only [Option.map_some]
  rw [show (i * 5 + j) / 5 = i by omega, show (i * 5 + j) % 5 = j by omega]
theorem rsubs_of_own {w : World} {base : Nat} {v : Value} {n : Nat} {l : Nat → Queue.Sub} (h : w.ownsRow base 133 5 v n (kcells l n)) (hl : n ≤ maxLen) (hok : ∀ i, i < n → (l i).Ok) : RSubs w v n l := by
  rcases h.2 with ⟨rfl, h0⟩ | ⟨g, cap, cur, rfl, _, hh, _⟩
  · subst h0
    exact ⟨⟨none, 0, rfl, by simp [maxLen], fun hn => absurd hn (by omega)⟩, hok⟩
  · refine ⟨⟨some ⟨g, 0, none⟩, cap, rfl, hl, fun hn => ⟨g, 0, rfl, ?_, fun i hi => ?_⟩⟩, hok⟩
    · rcases Nat.lt_or_ge g w.heap.size with hlt | hge
      · exact hlt
      · rw [Array.getElem?_eq_none hge] at hh; cases hh
    · have c : ∀ j, j < 5 → w.cell? ⟨g, 0 + i * 5 + j, none⟩ = some (kcellAt (l i) j) := fun j hj => by
        have := h.cells (g := g) rfl (i * 5 + j) _ (kcells_at l hi hj)
        have e : (⟨g, 0, none⟩ : Addr).add (i * 5 + j) = ⟨g, 0 + i * 5 + j, none⟩ := by unfold Addr.add; split <;> simp_all
        rwa [e] at this
      exact ⟨c 0 (by omega), c 1 (by omega), c 2 (by omega), c 3 (by omega), c 4 (by omega)⟩

theorem _root_.Go.Proofs.Ythcaagkgddeabaa.Queue.RSubs.below {w w' : World} {v : Value} {n : Nat} {l : Nat → Queue.Sub} (h : RSubs w v n l) (hb : Below w.heap.size w w') : RSubs w' v n l := by
  obtain ⟨A, c, rfl, hl, hf⟩ := h.form
  refine ⟨⟨A, c, rfl, hl, fun hn => ?_⟩, h.ok⟩
  obtain ⟨b, o, rfl, hlt, hc⟩ := hf hn
  have k : ∀ j, w'.cell? ⟨b, j, none⟩ = w.cell? ⟨b, j, none⟩ := fun j => hb.cell (p := ⟨b, j, none⟩) hlt
  exact ⟨b, o, rfl, Nat.lt_of_lt_of_le hlt hb.size, fun i hi => by simp only [k]; exact hc i hi⟩
theorem pick_info : (Try.prog.info? 133).map (fun i => (i.zero, i.size, i.bytes)) = some (some (.agg #[.int .i64 0, .int .u64 0, .int .i64 0, .int .u64 0, .int .u64 0]), 5, 40) := by kernel_rfl
/-- what the document's Pick tells -/
def pickR (n : Nat) (l : Nat → Queue.Sub) (gs : List Int) : Int := if best l gs n < 0 then -1 else best l gs n
def pickG (n : Nat) (l : Nat → Queue.Sub) (gs : List Int) : Int := if best l gs n < 0 then 0 else (Queue.seen (l (best l gs n).toNat).cur (nth gs (best l gs n).toNat)).next
theorem own_row_ne {w : World} {b z n r : Nat} {e : TypeId} {v : Value} {xs : List Value} {gs : List Int} (h1 : w.ownsRow b e z v n xs) (h2 : URow w r gs) (ne : e ≠ 32) : v.ownBlock ≠ some r := by
  intro hk
  rcases h1.2 with ⟨rfl, _⟩ | ⟨g, cap, cur, rfl, _, hg, _⟩
  · simp [Value.ownBlock] at hk
  · simp [Value.ownBlock] at hk
    subst hk
    have h3 : w.heap[g]? = some (.cells (gs.map (Value.int .u64)).toArray 32 (0, 0)) := h2
    rw [hg] at h3
    simp at h3
    exact ne h3.2
set_option maxRecDepth 100000 in
set_option maxHeartbeats 16000000 in
theorem RPick_any (o sb sc pb pc ob oc n T : Nat) (lv : Value) (tries how steps at_ : Int) (l : Nat → Queue.Sub) (od ix : Nat → Nat) (L : List Int) (w : World) (hbx : Blk w o 86 (rocs sb sc pb pc ob oc n T tries lv how steps at_))
    (hs : SubsIn w sb n l) (ho : IdxIn w ob T od) (hL : Ints w .u64 lv L) (hn : n ≤ 64) (hT : T ≤ L.length ∧ T ≤ 64) (hod : ∀ k, k < T → od k < n) (hix : ∀ i, i < n → ix i < T ∧ ∀ k, k < T → ((l (od k)).topic = (l i).topic ↔ k = ix i)) (hu : ∀ x ∈ L, 0 ≤ x ∧ x ≤ 18446744073709551615)
    (hrt : ∀ i, i < n → (l i).cur.Right ∧ (l i).Ok) :
    Calls Try.prog 32 #[.pointer (some ⟨o, 0, none⟩)] w fun e w' => e = .returned (.tuple #[.int .i64 (pickR n l (gensR n ix L)), .int .u64 (pickG n l (gensR n ix L))]) ∧ Below w.heap.size w w' := by
  have HGE := Lib.hid (RGens_any o sb sc pb pc ob oc n T lv tries how steps at_ l od ix L w hbx hs ho hL hn hT hod hix hu)
  have B0 := Lib.hid hbx
  have S0 := Lib.hid hs
  have N64 := Lib.hid hn
  have HRT := Lib.hid hrt
  have HGL := Lib.hid (gensR_len n ix L)
  have HGB := Lib.hid (show ∀ x ∈ gensR n ix L, 0 ≤ x ∧ x < 9223372036854775808 from fun x hx => by
    obtain ⟨i, hi, rfl⟩ := List.mem_map.1 hx
    have hi2 : i < n := by simpa using hi
    have := hu _ (nth_mem (xs := L) (i := ix i) (by have h1 := (hix i hi2).1; have h2 := hT.1; omega))
    omega)
  obtain ⟨gs, hgs⟩ : ∃ gs, gensR n ix L = gs := ⟨_, rfl⟩
  rw [hgs] at HGE HGL HGB ⊢
  obtain ⟨i0, hi0, hz0, hz1, hz2⟩ := info_parts pick_info
  clear hbx hs ho hL hn hT hod hix hu hrt hgs
  go_enter Try.func32, Try.ntmps32
  go_wp2_with fail
  refine HGE.out.mono ?_; rintro e w1 ⟨r, rfl, hr, hur, hb1⟩
  have U1 := Lib.hid hur
  have L1 := Lib.hid hb1
  have on1 := World.ownsRow_made (base := w.heap.size) (e := 133) (size := 5) w1 #[] 0 hb1.size (by simp [maxLen]) rfl
  have HR := Lib.hid hr
  clear hr hur hb1 HGE
  go_upto_region 3 with fail
  have ON := Lib.hid on1
  have U2 := Lib.hid (U1.out.bl ((Below.refl _ w1).alloc (Nat.le_refl _) (.cells #[] 133)))
  have L2 := Lib.hid (L1.out.alloc L1.out.size (.cells #[] 133))
  obtain ⟨nb, hnb⟩ : ∃ nb, w1.heap.size = nb := ⟨_, rfl⟩
  rw [hnb] at ON ⊢
  clear on1 hnb U1 L1
  generalize w1.alloc (.cells #[] 133) = w2 at *
  go_wp2_with fail
  go_loopw [5, 6] (fun s5 s6 wr => ∃ i : Nat, i ≤ n ∧ s6 = .int .i64 i ∧ wr.ownsRow w.heap.size 133 5 s5 i (kcells l i) ∧ URow wr r gs ∧ Below w.heap.size w wr) (fun s5 s6 _ => n - (intOf s6).toNat)
  case atStart => exact ⟨0, by omega, rfl, ON.out, U2.out, L2.out⟩
  case round =>
    clear ON U2 L2
    obtain ⟨i, hi, rfl, hown, hu, hl⟩ := hrel
    have OW := Lib.hid hown
    have U0 := Lib.hid hu
    have L0 := Lib.hid hl
    clear hown hu hl
    have b0 := (B0.out.bl L0.out).cell 0
    simp only [rocs, List.getElem?_toArray, List.getElem?_cons_zero, List.getElem?_cons_succ] at b0
    obtain ⟨wq, rfl⟩ : ∃ W : World, W = wr := ⟨_, rfl⟩
    by_cases hlt : i < n
    rotate_left
    · obtain rfl : n = i := by omega
      have kd : decide ((n : Int) < (n : Int)) = false := decide_eq_false (by omega)
      clear hi hlt i0 hi0 hz0 hz1 hz2
      have hpick : PickIs n l gs (best l gs n) 0 := .inr (.inr (.inr ⟨HGL.out.symm, fun i hi => (HRT.out i hi).1, fun i hi => (HGB.out _ (nth_mem (by rw [HGL.out]; exact hi))).2, rfl, rfl⟩))
      have HPK := Lib.hid hpick
      have HRS := Lib.hid (rsubs_of_own OW.out (by have := N64.out; unfold maxLen; omega) (fun i hi => (HRT.out i hi).2))
      have HIN := Lib.hid (U0.out.ints (c := n) (by rw [HGL.out]; have := N64.out; unfold maxLen; omega))
      rw [HGL.out] at HIN
      clear hpick
      go_wp2_with fail
      refine (refPick_any _ n l _ gs _ HRS.out HIN.out (fun x hx => by have := HGB.out x hx; omega)).mono ?_; rintro e w3 ⟨x, er, rfl, hp, hb⟩
      obtain ⟨rfl, rfl⟩ := hp.unique HPK.out
      have L3 := Lib.hid (bl L0.out hb)
      have U3 := Lib.hid (U0.out.bl hb)
      clear b0 kd hp hb OW HRS HIN U0
      obtain ⟨bx, hbx⟩ : ∃ bx, best l gs n = bx := ⟨_, rfl⟩
      have HBX := Lib.hid hbx
      have hPR : pickR n l gs = (if bx < 0 then -1 else bx) ∧ pickG n l gs = (if bx < 0 then 0 else (Queue.seen (l bx.toNat).cur (nth gs bx.toNat)).next) := by rw [← hbx]; exact ⟨rfl, rfl⟩
      rw [hbx]
      clear hbx L0
      by_cases hz : bx < 0
      · have kz : decide (bx < 0) = true := decide_eq_true hz
        rw [if_pos hz, if_pos hz] at hPR
        have HPR := Lib.hid hPR
        clear hz hPR
        go_wp2_with fail
        go_ret2
        exact ⟨by rw [HPR.out.1, HPR.out.2] <;> rfl, L3.out⟩
      have kz : decide (bx < 0) = false := decide_eq_false hz
      rw [if_neg hz, if_neg hz] at hPR
      obtain ⟨k, rfl⟩ : ∃ k : Nat, bx = (k : Int) := ⟨bx.toNat, (Int.toNat_of_nonneg (by omega)).symm⟩
      have hkn : k < n := by have := (best_lt l gs n).2; have h2 := HBX.out; omega
      rw [Int.toNat_natCast] at hPR
      have HPR := Lib.hid hPR
      clear hPR
      have HK := Lib.hid hkn
      have kk0 : (0 : Int) ≤ (k : Int) := by omega
      have kk1 : (k : Int) < (n : Int) := by omega
      have hgk := HGB.out _ (nth_mem (xs := gs) (i := k) (by rw [HGL.out]; exact hkn))
      have HSE := Lib.hid (fun W => refSee_any (l k).cur (nth gs k) (HRT.out k hkn).2.cur hgk.1 (HRT.out k hkn).1 hgk.2 W)
      unfold Cur.val at HSE
      clear hz hkn hgk
      go_upto_region 10 with fail
      clear kz
      have hne : Nonempty (Held (Ex (fun _ => False) w3)) := ⟨⟨w3, Ex.refl _ _⟩⟩
      have p0 : ∀ y : Held (Ex (fun _ => False) w3), y.w.cell? ⟨o, 0, none⟩ = some (.slice (some ⟨sb, 0, none⟩) n sc) := fun y => (B0.out.bl (Ex.below L3.out y.ok (fun _ h => h.elim))).cell 0
      have hq := fun y : Held (Ex (fun _ => False) w3) => (S0.out.bl (Ex.below L3.out y.ok (fun _ h => h.elim))).six HK.out
      have q2 := fun y => (hq y).2.2.1
      have q3 := fun y => (hq y).2.2.2.1
      have q4 := fun y => (hq y).2.2.2.2.1
      have q5 := fun y => (hq y).2.2.2.2.2
      have q6 : ∀ y : Held (Ex (fun _ => False) w3), y.w.cell? ⟨r, k, none⟩ = some (.int .u64 (nth gs k)) := fun y => (U3.out.ex y.ok (fun h => h)).word (by rw [HGL.out]; exact HK.out)
      clear hq
      refine drawn_bars (S := (Ex (fun _ => False) w3)) [([0, 1, 2, 3, 4, 5, 6, 7, 8, 9, 10, 11, 12], 13), ([15], 14)] [16] (by kernel_rfl) (by kernel_rfl) (by kernel_rfl) rfl (Ex.refl _ _).drew ?_
      refine Phased.go ?_
      simp only [pick, List.map_cons, List.map_nil, List.getElem?_cons_zero, List.getElem?_cons_succ, Option.getD_some]
      repeat (go_big_quiet_step (fail))
      refine wpQuiet_nil ?_
      have LD := Lib.hid L3.out.drew
      have VD := Lib.hid (Ex.refl (fun _ => False) w3).drew
      generalize w3.drew = w4 at *
      go_wp2_with fail
      refine (HSE.out _).mono ?_; rintro e w5 ⟨rfl, hb⟩
      have L5 := Lib.hid (bl LD.out hb)
      have V5 := Lib.hid (VD.out.trans (Ex.of_below hb))
      clear hb
      go_wp2_with fail
      refine behind_normal ⟨(Ex (fun _ => False) w3), fun W h => h, V5.out, ?_⟩
      refine Phased.go ?_
      simp only [pick, List.map_cons, List.map_nil, List.getElem?_cons_zero, List.getElem?_cons_succ, Option.getD_some]
      repeat (go_big_quiet_step (fail))
      refine wpQuiet_nil ?_
      go_wp2_with fail
      rename_i Kx hKx
      refine hKx _ _ ?_
      clear hKx Kx
      try go_wp2_with fail
      try simp only [Act.put, List.setIfInBounds_toArray, List.set_cons_zero, List.set_cons_succ, List.getElem_toArray, List.getElem_cons_zero]
      refine behind_normal ⟨(Ex (fun _ => False) w3), fun W h => h, V5.out, ?_⟩
      refine Phased.end_ ?_
      have hne5 : Nonempty (Held (fun W => W = w5)) := ⟨⟨_, rfl⟩⟩
      simp only [pick, List.map_cons, List.map_nil, List.getElem?_cons_zero, List.getElem?_cons_succ, Option.getD_some]
      repeat (go_big_quiet_step (fail))
      refine wpQuiet_nil ?_
      clear hne hne5 p0 q2 q3 q4 q5 q6
      go_wp2_with fail
      go_ret2
      exact ⟨by rw [HPR.out.1, HPR.out.2] <;> rfl, L5.out⟩
    have kd : decide ((i : Int) < (n : Int)) = true := decide_eq_true (by omega)
    have ki0 : (0 : Int) ≤ (i : Int) := by omega
    have ki1 : (i : Int) < (n : Int) := by omega
    have HI := Lib.hid hlt
    have HM := Lib.hid (turn_no i n hlt (by have := N64.out; unfold maxLen; omega))
    clear hi hlt
    go_upto_region 6 with fail
    clear b0
    have hne : Nonempty (Held (Ex (fun _ => False) wq)) := ⟨⟨wq, Ex.refl _ _⟩⟩
    have p0 : ∀ y : Held (Ex (fun _ => False) wq), y.w.cell? ⟨o, 0, none⟩ = some (.slice (some ⟨sb, 0, none⟩) n sc) := fun y => (B0.out.bl (Ex.below L0.out y.ok (fun _ h => h.elim))).cell 0
    have hq := fun y : Held (Ex (fun _ => False) wq) => (S0.out.bl (Ex.below L0.out y.ok (fun _ h => h.elim))).six HI.out
    have q1 := fun y => (hq y).2.1
    have q2 := fun y => (hq y).2.2.1
    have q3 := fun y => (hq y).2.2.2.1
    have q4 := fun y => (hq y).2.2.2.2.1
    have q5 := fun y => (hq y).2.2.2.2.2
    clear hq
    refine drawn_float (S := (Ex (fun _ => False) wq)) 17 u5 (by kernel_rfl) (by kernel_rfl) (Ex.refl _ _).drew (.inl ⟨rfl, fun w => by rw [BigFrame.run_move (.tmp 5) rfl]; rfl⟩) ?_
    simp only [List.take_succ_cons, List.take_zero, List.drop_succ_cons, List.drop_zero, Nat.reduceSub, Act.put, List.setIfInBounds_toArray, List.set_cons_zero, List.set_cons_succ]
    repeat (go_big_quiet_step (fail))
    refine wpQuiet_nil ?_
    intro w7 hw'; obtain ⟨⟨w7', hb7⟩, hw''⟩ := hw'; dsimp only at hw''; subst hw''
    have L1 := Lib.hid (Ex.below L0.out hb7 (fun _ h => h.elim))
    have OW1 := Lib.hid (ownsRow_ex OW.out hb7 (fun _ _ h => h))
    have U1 := Lib.hid (U0.out.ex hb7 (fun h => h))
    clear hb7 p0 q1 q2 q3 q4 q5 hne
    generalize hso : l i = s at *
    have HSO := Lib.hid hso
    clear hso
    go_wp2_with (at_builtin; refine wpList_append_own _ rfl _ _ 131 rfl w.heap.size 133 i0 (.agg #[.int .i64 0, .int .u64 0, .int .i64 0, .int .u64 0, .int .u64 0]) 5 40 Try.underlying131 hi0 hz0 hz1 hz2 rfl (by decide) _ _ _ rfl (OW1.out.alloc _) ⟨w7.heap.size, 0, none⟩ 1 1 (knews s) rfl rfl ?c1 ?c2 ?c3 ?c4 ?c5 ?_)
    case c1 =>
      have hbn := Blk.new w7 133 #[.int .i64 s.rank, .int .u64 s.cur.next, .int .i64 s.cur.cap, .int .u64 s.cur.got, .int .u64 s.cur.lost]
      intro j u hj
      match j, hj with
      | 0, hj => simp [knews] at hj; subst hj; exact hbn.cell 0
      | 1, hj => simp [knews] at hj; subst hj; exact hbn.cell 1
      | 2, hj => simp [knews] at hj; subst hj; exact hbn.cell 2
      | 3, hj => simp [knews] at hj; subst hj; exact hbn.cell 3
      | 4, hj => simp [knews] at hj; subst hj; exact hbn.cell 4
    case c2 =>
      intro u hu
      simp only [knews, List.mem_cons, List.not_mem_nil, or_false] at hu
      rcases hu with rfl | rfl | rfl | rfl | rfl <;> rfl
    case c3 => have := HI.out; have := N64.out; unfold maxLen; omega
    case c4 => have := HI.out; have := N64.out; omega
    case c5 => have := L1.out.size; simp; omega
    intro v' w8 hown' hgrow _
    have L8 := Lib.hid ((L1.out.alloc L1.out.size (.cells #[.int .i64 s.rank, .int .u64 s.cur.next, .int .i64 s.cur.cap, .int .u64 s.cur.got, .int .u64 s.cur.lost] 133)).grown hgrow (by have := L1.out.size; simp; omega) (fun k hk => (OW1.out.lt k hk).1))
    have U8 := Lib.hid ((U1.out.ex ((Ex.refl (fun _ => False) w7).alloc (.cells #[.int .i64 s.rank, .int .u64 s.cur.next, .int .i64 s.cur.cap, .int .u64 s.cur.got, .int .u64 s.cur.lost] 133)) (fun h => h)).ex (ex_of_grown hgrow) (fun hT => own_row_ne OW1.out U1.out (by decide) hT))
    rw [← HSO.out, ← kcells_succ] at hown'
    have OW8 := Lib.hid hown'
    clear hown' hgrow
    go_wp2_with fail
    refine plainEnd_normal ?_
    go_wp2_with fail
    go_roundw
    case rel => exact ⟨i + 1, HI.out, HM.out.1, OW8.out, U8.out, L8.out⟩
    case measure => exact HM.out.2
end Go.Proofs.Ythcaagkgddeabaa.Bank
namespace Go.Proofs.Ythcaagkgddeabaa.Bank
set_option linter.unusedVariables false
set_option linter.unusedSimpArgs false
open Go Go.RowKit Go.Proofs.Ythcaagkgddeabaa.Base Go.Deep Go.ChangeShapes Go.WideShapes Go.Proofs.Ythcaagkgddeabaa.Queue
/-- how many words the picked record has -/
def sizeR (n : Nat) (l : Nat → Queue.Sub) (s : Nat → Spot) (gs : List Int) : Int := if best l gs n < 0 then 0 else (s (best l gs n).toNat).words
/-- which word the document loads next; m: how many it loaded -/
def nextR (T n : Nat) (l : Nat → Queue.Sub) (s : Nat → Spot) (od : Nat → Nat) (gs : List Int) (m : Nat) : Int :=
  if m < T then (s (od m)).seq
  else if (m : Int) < T + sizeR n l s gs then atF (s (best l gs n).toNat) (pickG n l gs) + ((m : Int) - T)
  else (s (od ((m : Int) - T - sizeR n l s gs).toNat)).seq
theorem SpIn.bl {w w' : World} {r n : Nat} {l : Nat → Spot} (h : SpIn w r n l) (hb : Below w.heap.size w w') : SpIn w' r n l := h.ex (T := fun _ => False) (Ex.of_below hb) (fun h => h)
theorem SpIn.five {w : World} {r n : Nat} {l : Nat → Spot} (h : SpIn w r n l) {i : Nat} (hi : i < n) : w.cell? ⟨r, i * 5, none⟩ = some (.int .i64 (l i).owners) ∧ w.cell? ⟨r, i * 5 + 1, none⟩ = some (.int .i64 (l i).seq) ∧ w.cell? ⟨r, i * 5 + 2, none⟩ = some (.int .i64 (l i).first) ∧ w.cell? ⟨r, i * 5 + 3, none⟩ = some (.int .i64 (l i).words) ∧ w.cell? ⟨r, i * 5 + 4, none⟩ = some (.int .i64 (l i).depth) :=
  ⟨h.cells i hi 0 (by decide), h.cells i hi 1 (by decide), h.cells i hi 2 (by decide), h.cells i hi 3 (by decide), h.cells i hi 4 (by decide)⟩
set_option maxRecDepth 100000 in
set_option maxHeartbeats 16000000 in
theorem RNext_any (o sb sc pb pc ob oc n T : Nat) (lv : Value) (tries how steps at_ : Int) (l : Nat → Queue.Sub) (s : Nat → Spot) (od ix : Nat → Nat) (L : List Int) (w : World) (hbx : Blk w o 86 (rocs sb sc pb pc ob oc n T tries lv how steps at_))
    (hs : SubsIn w sb n l) (hp : SpIn w pb n s) (ho : IdxIn w ob T od) (hL : Ints w .u64 lv L) (hn : n ≤ 64) (hlen : L.length ≤ 1024) (hT : T ≤ 64) (hod : ∀ k, k < T → od k < n) (hix : ∀ i, i < n → ix i < T ∧ ∀ k, k < T → ((l (od k)).topic = (l i).topic ↔ k = ix i)) (hu : ∀ x ∈ L, 0 ≤ x ∧ x ≤ 18446744073709551615)
    (hrt : ∀ i, i < n → (l i).cur.Right ∧ (l i).Ok) (hat : ∀ i, i < n → (s i).AtOk) (hm : (L.length : Int) < 2 * T + sizeR n l s (gensR n ix L)) :
    Calls Try.prog 60 #[.pointer (some ⟨o, 0, none⟩)] w fun e w' => e = .returned (.int .i64 (nextR T n l s od (gensR n ix L) L.length)) ∧ Below w.heap.size w w' := by
  have HPK := Lib.hid (fun W (hb : Below w.heap.size w W) (h9 : T ≤ L.length) => RPick_any o sb sc pb pc ob oc n T lv tries how steps at_ l od ix L W (hbx.bl hb) (hs.bl hb) (ho.bl hb) (hL.below hb) hn ⟨h9, hT⟩ hod hix hu hrt)
  have B0 := Lib.hid hbx
  have S0 := Lib.hid hp
  have I0 := Lib.hid ho
  obtain ⟨A5, c5, rfl, hlm, _⟩ := hL.form
  have HL64 := Lib.hid hlen
  have HT := Lib.hid hT
  have HOD := Lib.hid hod
  have HAO := Lib.hid hat
  have HRT := Lib.hid hrt
  have HGL := Lib.hid (gensR_len n ix L)
  obtain ⟨gs, hgs⟩ : ∃ gs, gensR n ix L = gs := ⟨_, rfl⟩
  rw [hgs] at HPK HGL hm ⊢
  have HMM := Lib.hid hm
  obtain ⟨m, hmL⟩ : ∃ m, L.length = m := ⟨_, rfl⟩
  rw [hmL] at B0 HL64 HMM HPK ⊢
  clear hbx hs hp ho hL hn hT hod hix hu hrt hgs hat hlen hm hlm hmL
  have b2 := B0.out.cell 2
  have b4 := B0.out.cell 4
  simp only [rocs, List.getElem?_toArray, List.getElem?_cons_zero, List.getElem?_cons_succ] at b2 b4
  by_cases h1 : m < T
  · have HN := Lib.hid (show nextR T n l s od gs m = (s (od m)).seq from if_pos h1)
    have k1 : decide ((m : Int) < (T : Int)) = true := decide_eq_true (by omega)
    have k1b : decide (m < T) = true := decide_eq_true h1
    have km0 : (0 : Int) ≤ (m : Int) := by omega
    have km1 : (m : Int) < (T : Int) := by omega
    have HK := Lib.hid h1
    clear h1
    go_enter Try.func60, Try.ntmps60
    go_upto_region 3 with fail
    clear b2 b4 k1 k1b
    have hne : Nonempty (Held (fun V => V = w.drew)) := ⟨⟨_, rfl⟩⟩
    have LD := Lib.hid (Below.refl w.heap.size w).drew
    have p1 : ∀ y : Held (fun V => V = w.drew), y.w.cell? ⟨o, 1, none⟩ = some (.slice (some ⟨pb, 0, none⟩) n pc) := fun y => by rw [y.ok]; exact (B0.out.bl LD.out).cell 1
    have p2 : ∀ y : Held (fun V => V = w.drew), y.w.cell? ⟨o, 2, none⟩ = some (.slice (some ⟨ob, 0, none⟩) T oc) := fun y => by rw [y.ok]; exact (B0.out.bl LD.out).cell 2
    have p4 : ∀ y : Held (fun V => V = w.drew), y.w.cell? ⟨o, 4, none⟩ = some (.slice A5 m c5) := fun y => by rw [y.ok]; exact (B0.out.bl LD.out).cell 4
    obtain ⟨dk, hdk⟩ : ∃ dk, od m = dk := ⟨_, rfl⟩
    have q1 : ∀ y : Held (fun V => V = w.drew), y.w.cell? ⟨ob, m, none⟩ = some (.int .i64 (dk : Nat)) := fun y => by rw [y.ok, ← hdk]; exact (I0.out.bl LD.out).cells m HK.out
    have hdn : dk < n := hdk ▸ HOD.out m HK.out
    have q2 : ∀ y : Held (fun V => V = w.drew), y.w.cell? ⟨pb, dk * 5 + 1, none⟩ = some (.int .i64 (s dk).seq) := fun y => by rw [y.ok]; exact ((S0.out.bl LD.out).five hdn).2.1
    have kd0 : (0 : Int) ≤ (dk : Int) := by omega
    have kd1 : (dk : Int) < (n : Int) := by omega
    rw [hdk] at HN
    clear hdk hdn
    refine drawn_bars (S := fun _ => True) [] [0, 1, 2, 3, 4, 5, 6, 7, 8, 9, 10, 11, 12, 13, 14, 15, 16, 17, 18] (by kernel_rfl) (by kernel_rfl) (by kernel_rfl) rfl trivial ?_
    refine Phased.end_ ?_
    simp only [pick, List.map_cons, List.map_nil, List.getElem?_cons_zero, List.getElem?_cons_succ, Option.getD_some]
    repeat (go_big_quiet_step (fail))
    refine wpQuiet_nil ?_
    clear hne p1 p2 p4 q1 q2
    generalize w.drew = wz at *
    go_wp2_with fail
    go_ret
    exact ⟨by rw [HN.out] <;> rfl, LD.out⟩
  have k1 : decide ((m : Int) < (T : Int)) = false := decide_eq_false (by omega)
  have k1b : decide (m < T) = false := decide_eq_false h1
  have HTM := Lib.hid (show T ≤ m by omega)
  have HN0 := Lib.hid (show nextR T n l s od gs m = (if (m : Int) < T + sizeR n l s gs then atF (s (best l gs n).toNat) (pickG n l gs) + ((m : Int) - T) else (s (od ((m : Int) - T - sizeR n l s gs).toNat)).seq) from if_neg h1)
  clear h1
  go_enter Try.func60, Try.ntmps60
  go_wp2_with fail
  clear b2 b4 k1 k1b
  refine (HPK.out w (Below.refl _ _) HTM.out).mono ?_; rintro e w1 ⟨rfl, hb1⟩
  have L1 := Lib.hid hb1
  clear hb1
  have hrng := best_lt l gs n
  have hpr : pickR n l gs = (if best l gs n < 0 then -1 else best l gs n) := rfl
  have hsz : sizeR n l s gs = (if best l gs n < 0 then 0 else (s (best l gs n).toNat).words) := rfl
  have hgb : 0 ≤ pickG n l gs := by
    unfold pickG
    split
    · exact Int.le_refl 0
    · have hk : (best l gs n).toNat < n := by omega
      have hr := HRT.out _ hk
      rcases seen_next (c := (l (best l gs n).toNat).cur) (g := nth gs (best l gs n).toNat) with h9 | h9
      · have := hr.2.cur.next.1; omega
      · have := hr.1.1; omega
  obtain ⟨gen, hgen⟩ : ∃ gen, pickG n l gs = gen := ⟨_, rfl⟩
  rw [hgen] at hgb
  have HGB := Lib.hid hgb
  clear hgb
  rw [hgen] at HN0 ⊢
  obtain ⟨bx, hbx⟩ : ∃ bx, best l gs n = bx := ⟨_, rfl⟩
  rw [hbx] at hrng hpr hsz HN0
  have b4 := (B0.out.bl L1.out).cell 4
  have b1 := (B0.out.bl L1.out).cell 1
  simp only [rocs, List.getElem?_toArray, List.getElem?_cons_zero, List.getElem?_cons_succ] at b4 b1
  by_cases hz : bx < 0
  · rw [if_pos hz] at hpr hsz
    rw [hsz] at HN0 HMM
    rw [hpr]
    have hm2 := HMM.out
    have HN1 := Lib.hid (HN0.out.trans (if_neg (by have := HTM.out; omega)))
    have kz : decide ((-1 : Int) ≥ 0) = false := rfl
    have ks : decide ((m : Int) < wrap64 ((T : Int) + 0)) = false := decide_eq_false (by have h1 := HTM.out; have h2 := HT.out; rw [wrap64_in _ (by omega)]; omega)
    have ks2 : decide ((m : Int) < wrap64 (T : Int)) = false := decide_eq_false (by have h1 := HTM.out; have h2 := HT.out; rw [wrap64_in _ (by omega)]; omega)
    have ks3 : decide ((m : Int) < (T : Int)) = false := decide_eq_false (by have h1 := HTM.out; omega)
    have ks4 : decide (m < T) = false := decide_eq_false (by have h1 := HTM.out; omega)
    have kwt : wrap64 (T : Int) = (T : Int) := wrap64_in _ (by have h2 := HT.out; omega)
    obtain ⟨j, hj⟩ : ∃ j, ((m : Int) - T - 0).toNat = j := ⟨_, rfl⟩
    rw [hj] at HN1
    have hjT : j < T := by have h1 := HTM.out; omega
    have hwj : wrap64 (wrap64 ((m : Int) - (T : Int)) - 0) = (j : Int) := by
      have h1 := HTM.out
      have h2 := HT.out
      have h3 := HL64.out
      rw [wrap64_in ((m : Int) - (T : Int)) (by omega), wrap64_in _ (by omega)]
      omega
    have hwj2 : wrap64 ((m : Int) - (T : Int)) = (j : Int) := by
      have h1 := HTM.out
      have h2 := HT.out
      have h3 := HL64.out
      rw [wrap64_in ((m : Int) - (T : Int)) (by omega)]
      omega
    have kj0 : (0 : Int) ≤ (j : Int) := by omega
    have kj1 : (j : Int) < (T : Int) := by omega
    have hwj3 : wrap64 (j : Int) = (j : Int) := wrap64_in _ (by have h2 := HT.out; omega)
    have hwj4 : wrap64 (wrap64 ((m : Int) - (T : Int))) = (j : Int) := by rw [hwj2, hwj3]
    have kj2 : (0 : Int) ≤ wrap64 (wrap64 ((m : Int) - (T : Int))) := by rw [hwj4]; omega
    have kj3 : wrap64 (wrap64 ((m : Int) - (T : Int))) < (T : Int) := by rw [hwj4]; omega
    have HJ := Lib.hid hjT
    have HN := HN1
    clear hz hpr hsz hrng hm2 hj hjT HN0
    go_upto_region 10 with fail
    clear b1 b4 kz ks ks2 ks3 ks4 kwt
    have hne : Nonempty (Held (fun V => V = w1.drew)) := ⟨⟨_, rfl⟩⟩
    have LD := Lib.hid L1.out.drew
    have p1 : ∀ y : Held (fun V => V = w1.drew), y.w.cell? ⟨o, 1, none⟩ = some (.slice (some ⟨pb, 0, none⟩) n pc) := fun y => by rw [y.ok]; exact (B0.out.bl LD.out).cell 1
    have p2 : ∀ y : Held (fun V => V = w1.drew), y.w.cell? ⟨o, 2, none⟩ = some (.slice (some ⟨ob, 0, none⟩) T oc) := fun y => by rw [y.ok]; exact (B0.out.bl LD.out).cell 2
    have p4 : ∀ y : Held (fun V => V = w1.drew), y.w.cell? ⟨o, 4, none⟩ = some (.slice A5 m c5) := fun y => by rw [y.ok]; exact (B0.out.bl LD.out).cell 4
    obtain ⟨dk, hdk⟩ : ∃ dk, od j = dk := ⟨_, rfl⟩
    have q1 : ∀ y : Held (fun V => V = w1.drew), y.w.cell? ⟨ob, j, none⟩ = some (.int .i64 (dk : Nat)) := fun y => by rw [y.ok, ← hdk]; exact (I0.out.bl LD.out).cells j HJ.out
    have hdn : dk < n := hdk ▸ HOD.out j HJ.out
    have q2 : ∀ y : Held (fun V => V = w1.drew), y.w.cell? ⟨pb, dk * 5 + 1, none⟩ = some (.int .i64 (s dk).seq) := fun y => by rw [y.ok]; exact ((S0.out.bl LD.out).five hdn).2.1
    have kd0 : (0 : Int) ≤ (dk : Int) := by omega
    have kd1 : (dk : Int) < (n : Int) := by omega
    rw [hdk] at HN
    clear hdk hdn
    refine drawn_bars (S := fun _ => True) [] [0, 1, 2, 3, 4, 5, 6, 7, 8, 9, 10, 11, 12, 13, 14, 15, 16, 17, 18, 19, 20, 21, 22] (by kernel_rfl) (by kernel_rfl) (by kernel_rfl) rfl trivial ?_
    refine Phased.end_ ?_
    simp only [pick, List.map_cons, List.map_nil, List.getElem?_cons_zero, List.getElem?_cons_succ, Option.getD_some]
    repeat (go_big_quiet_step (fail))
    refine wpQuiet_nil ?_
    clear hne p1 p2 p4 q1 q2
    generalize w1.drew = wz at *
    go_wp2_with fail
    go_ret
    exact ⟨by rw [HN.out] <;> rfl, LD.out⟩
  rw [if_neg hz] at hpr hsz
  obtain ⟨k, rfl⟩ : ∃ k : Nat, bx = (k : Int) := ⟨bx.toNat, (Int.toNat_of_nonneg (by omega)).symm⟩
  rw [Int.toNat_natCast] at hsz HN0
  have hkn : k < n := by omega
  have hat := HAO.out k hkn
  rw [hsz] at HN0 HMM
  rw [hpr]
  have HKN := Lib.hid hkn
  have HAT := Lib.hid hat
  obtain ⟨x0, x1, x2, x3, x4⟩ := (S0.out.bl L1.out).five hkn
  have ki0 : (0 : Int) ≤ (k : Int) := by omega
  have ki1 : (k : Int) < (n : Int) := by omega
  have kz : decide ((k : Int) ≥ 0) = true := decide_eq_true ki0
  have hws : wrap64 ((T : Int) + (s k).words) = (T : Int) + (s k).words := wrap64_in _ (by have h1 := hat.1; have h2 := HT.out; omega)
  clear hz hpr hsz hrng hkn
  by_cases hc : (m : Int) < T + (s k).words
  rotate_left
  · have HN1 := Lib.hid (HN0.out.trans (if_neg hc))
    have hm2 := HMM.out
    have ks : decide ((m : Int) < wrap64 ((T : Int) + (s k).words)) = false := decide_eq_false (by rw [hws]; exact hc)
    have ksn : ¬ (m : Int) < wrap64 ((T : Int) + (s k).words) := by rw [hws]; exact hc
    have ksm : wrap64 ((T : Int) + (s k).words) ≤ (m : Int) := by omega
    obtain ⟨j, hj⟩ : ∃ j, ((m : Int) - T - (s k).words).toNat = j := ⟨_, rfl⟩
    rw [hj] at HN1
    have hjT : j < T := by have h1 := HTM.out; omega
    have hwj : wrap64 (wrap64 ((m : Int) - (T : Int)) - (s k).words) = (j : Int) := by
      have h1 := HTM.out
      have h2 := HT.out
      have h3 := HL64.out
      have h4 := hat.1
      rw [wrap64_in ((m : Int) - (T : Int)) (by omega), wrap64_in _ (by omega)]
      omega
    have kj0 : (0 : Int) ≤ (j : Int) := by omega
    have kj1 : (j : Int) < (T : Int) := by omega
    have HJ := Lib.hid hjT
    have HN := HN1
    clear hm2 hj hjT HN0 hws hc hat
    go_upto_region 10 with fail
    clear b1 b4 kz ks ksn ksm x0 x1 x2 x3 x4
    have hne : Nonempty (Held (fun V => V = w1.drew)) := ⟨⟨_, rfl⟩⟩
    have LD := Lib.hid L1.out.drew
    have p1 : ∀ y : Held (fun V => V = w1.drew), y.w.cell? ⟨o, 1, none⟩ = some (.slice (some ⟨pb, 0, none⟩) n pc) := fun y => by rw [y.ok]; exact (B0.out.bl LD.out).cell 1
    have p2 : ∀ y : Held (fun V => V = w1.drew), y.w.cell? ⟨o, 2, none⟩ = some (.slice (some ⟨ob, 0, none⟩) T oc) := fun y => by rw [y.ok]; exact (B0.out.bl LD.out).cell 2
    have p4 : ∀ y : Held (fun V => V = w1.drew), y.w.cell? ⟨o, 4, none⟩ = some (.slice A5 m c5) := fun y => by rw [y.ok]; exact (B0.out.bl LD.out).cell 4
    obtain ⟨dk, hdk⟩ : ∃ dk, od j = dk := ⟨_, rfl⟩
    have q1 : ∀ y : Held (fun V => V = w1.drew), y.w.cell? ⟨ob, j, none⟩ = some (.int .i64 (dk : Nat)) := fun y => by rw [y.ok, ← hdk]; exact (I0.out.bl LD.out).cells j HJ.out
    have hdn : dk < n := hdk ▸ HOD.out j HJ.out
    have q2 : ∀ y : Held (fun V => V = w1.drew), y.w.cell? ⟨pb, dk * 5 + 1, none⟩ = some (.int .i64 (s dk).seq) := fun y => by rw [y.ok]; exact ((S0.out.bl LD.out).five hdn).2.1
    have kd0 : (0 : Int) ≤ (dk : Int) := by omega
    have kd1 : (dk : Int) < (n : Int) := by omega
    rw [hdk] at HN
    clear hdk hdn
    refine drawn_bars (S := fun _ => True) [] [0, 1, 2, 3, 4, 5, 6, 7, 8, 9, 10, 11, 12, 13, 14, 15, 16, 17, 18, 19, 20, 21, 22] (by kernel_rfl) (by kernel_rfl) (by kernel_rfl) rfl trivial ?_
    refine Phased.end_ ?_
    simp only [pick, List.map_cons, List.map_nil, List.getElem?_cons_zero, List.getElem?_cons_succ, Option.getD_some]
    repeat (go_big_quiet_step (fail))
    refine wpQuiet_nil ?_
    clear hne p1 p2 p4 q1 q2
    generalize w1.drew = wz at *
    go_wp2_with fail
    go_ret
    exact ⟨by rw [HN.out] <;> rfl, LD.out⟩
  have HN := Lib.hid (HN0.out.trans (if_pos hc))
  have ks : decide ((m : Int) < wrap64 ((T : Int) + (s k).words)) = true := decide_eq_true (by rw [hws]; exact hc)
  clear HN0 hws hc hat
  go_upto_region 9 with fail
  clear b1 b4 kz ks x0 x1 x2 x3 x4
  have hne : Nonempty (Held (fun V => V = w1.drew)) := ⟨⟨_, rfl⟩⟩
  have LD := Lib.hid L1.out.drew
  have p1 : ∀ y : Held (fun V => V = w1.drew), y.w.cell? ⟨o, 1, none⟩ = some (.slice (some ⟨pb, 0, none⟩) n pc) := fun y => by rw [y.ok]; exact (B0.out.bl LD.out).cell 1
  have p2 : ∀ y : Held (fun V => V = w1.drew), y.w.cell? ⟨o, 2, none⟩ = some (.slice (some ⟨ob, 0, none⟩) T oc) := fun y => by rw [y.ok]; exact (B0.out.bl LD.out).cell 2
  have p4 : ∀ y : Held (fun V => V = w1.drew), y.w.cell? ⟨o, 4, none⟩ = some (.slice A5 m c5) := fun y => by rw [y.ok]; exact (B0.out.bl LD.out).cell 4

  have hq := fun y : Held (fun V => V = w1.drew) => (show _ from by rw [y.ok]; exact (S0.out.bl LD.out).five HKN.out : y.w.cell? ⟨pb, k * 5, none⟩ = some (.int .i64 (s k).owners) ∧ y.w.cell? ⟨pb, k * 5 + 1, none⟩ = some (.int .i64 (s k).seq) ∧ y.w.cell? ⟨pb, k * 5 + 2, none⟩ = some (.int .i64 (s k).first) ∧ y.w.cell? ⟨pb, k * 5 + 3, none⟩ = some (.int .i64 (s k).words) ∧ y.w.cell? ⟨pb, k * 5 + 4, none⟩ = some (.int .i64 (s k).depth))
  have q2 := fun y => (hq y).2.2.1
  have q4 := fun y => (hq y).2.2.2.2
  clear hq
  have hdw : IntKind.u64.wrap (s k).depth = (s k).depth := by have h1 := HAT.out.2.1; simp [IntKind.wrap, IntKind.bits, IntKind.signed]; omega
  have hd0 : (s k).depth ≠ 0 := by have h1 := HAT.out.2.1; omega
  have kd0 : ((s k).depth == 0) = false := by simpa using hd0
  refine drawn_bars (S := fun _ => True) [] [0, 1, 2, 3, 4, 5, 6, 7, 8, 9, 10, 11, 12, 13, 14, 15, 16, 17, 18, 19, 20, 21, 22, 23, 24, 25, 26, 27, 28, 29, 30, 31] (by kernel_rfl) (by kernel_rfl) (by kernel_rfl) rfl trivial ?_
  refine Phased.end_ ?_
  simp only [pick, List.map_cons, List.map_nil, List.getElem?_cons_zero, List.getElem?_cons_succ, Option.getD_some]
  repeat (go_big_quiet_step (fail))
  refine wpQuiet_nil ?_
  clear hne p1 p2 p4 q2 q4
  generalize w1.drew = wz at *
  go_wp2_with fail
  go_ret
  refine ⟨?_, LD.out⟩
  rw [HN.out, atF_ok HAT.out]
  refine congrArg Ending.returned (congrArg (Value.int .i64) ?_)
  have hgb := HGB.out
  have hbd := atF_bounds (gen := gen) HAT.out
  have h1 := HTM.out
  have h2 := HT.out
  have h3 := HL64.out
  have h4 := HAT.out.2.2
  rw [Int.tmod_eq_emod_of_nonneg hgb]
  rw [wrap64_in (gen % (s k).depth) (by omega), wrap64_in (gen % (s k).depth * (s k).words) (by omega), wrap64_in ((s k).first + gen % (s k).depth * (s k).words) (by omega), wrap64_in ((s k).first + gen % (s k).depth * (s k).words + (m : Int)) (by omega), wrap64_in _ (by omega)]
  omega
end Go.Proofs.Ythcaagkgddeabaa.Bank
namespace Go.Proofs.Ythcaagkgddeabaa.Bank
set_option linter.unusedVariables false
set_option linter.unusedSimpArgs false
open Go Go.RowKit Go.Proofs.Ythcaagkgddeabaa.Base Go.Deep Go.ChangeShapes Go.WideShapes Go.Proofs.Ythcaagkgddeabaa.Queue
set_option maxRecDepth 100000 in
set_option maxHeartbeats 16000000 in
theorem Lsubs_any (v1 v2 : Value) (n : Nat) (l : Nat → Queue.Sub) (w : World) (h1 : Queue.Subs w v1 n l) (h2 : Queue.Subs w v2 n l) (hn : n ≤ 64) :
    Calls Try.prog 33 #[v1, v2] w fun e w' => e = .returned (.bool true) ∧ Below w.heap.size w w' := by
  obtain ⟨A1, c1, rfl, _, hg1⟩ := h1.form
  obtain ⟨A2, c2, rfl, _, hg2⟩ := h2.form
  have G1 := Lib.hid hg1
  have G2 := Lib.hid hg2
  have N64 := Lib.hid hn
  have kn : ((n : Int) != (n : Int)) = false := bne_self_eq_false _
  clear h1 h2 hg1 hg2 hn
  go_enter Try.func33, Try.ntmps33
  go_wp2_with fail
  clear kn
  go_loopw [5, 6, 7] (fun s5 s6 s7 wr => ∃ i : Nat, i ≤ n ∧ s5 = .int .i64 i ∧ Below w.heap.size w wr) (fun s5 s6 s7 _ => n - (intOf s5).toNat)
  case atStart => exact ⟨0, by omega, rfl, Below.refl _ _⟩
  case round =>
    obtain ⟨i, hi, rfl, hl⟩ := hrel
    have L0 := Lib.hid hl
    clear hl
    by_cases hlt : i < n
    rotate_left
    · obtain rfl : n = i := by omega
      have kd : decide ((n : Int) < (n : Int)) = false := decide_eq_false (by omega)
      clear hi hlt
      go_wp2_with fail
      go_ret
      exact ⟨rfl, L0.out⟩
    have kd : decide ((i : Int) < (n : Int)) = true := decide_eq_true (by omega)
    have ki0 : (0 : Int) ≤ (i : Int) := by omega
    have ki1 : (i : Int) < (n : Int) := by omega
    have HI := Lib.hid hlt
    have HM := Lib.hid (turn_no i n hlt (by have := N64.out; unfold maxLen; omega))
    clear hi hlt
    obtain ⟨b, off, hA1, hb1, hc1⟩ := G1.out (by have := HI.out; omega)
    subst hA1
    obtain ⟨b2, off2, hA2, hb2, hc2⟩ := G2.out (by have := HI.out; omega)
    subst hA2
    have HB1 := Lib.hid hb1
    have HB2 := Lib.hid hb2
    have HX1 := Lib.hid (hc1 i HI.out)
    have HX2 := Lib.hid (hc2 i HI.out)
    clear hb1 hb2 hc1 hc2
    have x0 := (L0.out.cell (p := ⟨b, off + i * 6, none⟩) HB1.out).trans HX1.out.1
    have x1 := (L0.out.cell (p := ⟨b, off + i * 6 + 1, none⟩) HB1.out).trans HX1.out.2.1
    have x2 := (L0.out.cell (p := ⟨b, off + i * 6 + 2, none⟩) HB1.out).trans HX1.out.2.2.1
    have x3 := (L0.out.cell (p := ⟨b, off + i * 6 + 3, none⟩) HB1.out).trans HX1.out.2.2.2.1
    have x4 := (L0.out.cell (p := ⟨b, off + i * 6 + 4, none⟩) HB1.out).trans HX1.out.2.2.2.2.1
    have x5 := (L0.out.cell (p := ⟨b, off + i * 6 + 5, none⟩) HB1.out).trans HX1.out.2.2.2.2.2
    go_upto_region 7 with fail
    clear x0 x1 x2 x3 x4 x5 kd
    have hn := Blk.new wr 44 #[.int .u64 (l i).cur.next, .int .i64 (l i).cur.cap, .int .u64 (l i).cur.got, .int .u64 (l i).cur.lost]
    have hb := (Below.refl wr.heap.size wr).alloc (Nat.le_refl _) (.cells #[.int .u64 (l i).cur.next, .int .i64 (l i).cur.cap, .int .u64 (l i).cur.got, .int .u64 (l i).cur.lost] 44)
    obtain ⟨xa, hxa⟩ : ∃ xa, wr.heap.size = xa := ⟨_, rfl⟩
    simp only [hxa] at hn ⊢
    have L1 := Lib.hid (bl L0.out hb)
    have HB_xa := Lib.hid hb
    clear hb hxa
    generalize wr.alloc (.cells #[.int .u64 (l i).cur.next, .int .i64 (l i).cur.cap, .int .u64 (l i).cur.got, .int .u64 (l i).cur.lost] 44) = w1 at *
    have XA := Lib.hid hn
    clear hn
    have x0 := (L1.out.cell (p := ⟨b2, off2 + i * 6, none⟩) HB2.out).trans HX2.out.1
    have x1 := (L1.out.cell (p := ⟨b2, off2 + i * 6 + 1, none⟩) HB2.out).trans HX2.out.2.1
    have x2 := (L1.out.cell (p := ⟨b2, off2 + i * 6 + 2, none⟩) HB2.out).trans HX2.out.2.2.1
    have x3 := (L1.out.cell (p := ⟨b2, off2 + i * 6 + 3, none⟩) HB2.out).trans HX2.out.2.2.2.1
    have x4 := (L1.out.cell (p := ⟨b2, off2 + i * 6 + 4, none⟩) HB2.out).trans HX2.out.2.2.2.2.1
    have x5 := (L1.out.cell (p := ⟨b2, off2 + i * 6 + 5, none⟩) HB2.out).trans HX2.out.2.2.2.2.2
    go_upto_region 8 with fail
    clear x0 x1 x2 x3 x4 x5
    have hn := Blk.new w1 125 #[.int .u64 (l i).cur.next, .int .i64 (l i).cur.cap, .int .u64 (l i).cur.got, .int .u64 (l i).cur.lost]
    have hb := (Below.refl w1.heap.size w1).alloc (Nat.le_refl _) (.cells #[.int .u64 (l i).cur.next, .int .i64 (l i).cur.cap, .int .u64 (l i).cur.got, .int .u64 (l i).cur.lost] 125)
    obtain ⟨xc, hxc⟩ : ∃ xc, w1.heap.size = xc := ⟨_, rfl⟩
    simp only [hxc] at hn ⊢
    have L2 := Lib.hid (bl L1.out hb)
    have HB_xc := Lib.hid hb
    clear hb hxc
    generalize w1.alloc (.cells #[.int .u64 (l i).cur.next, .int .i64 (l i).cur.cap, .int .u64 (l i).cur.got, .int .u64 (l i).cur.lost] 125) = w2 at *
    have XC := Lib.hid hn
    clear hn
    have XA2 := Lib.hid (XA.out.bl HB_xc.out)
    have LD := Lib.hid L2.out.drew
    have hne : Nonempty (Held (fun V => V = w2.drew)) := ⟨⟨_, rfl⟩⟩
    have p0 : ∀ y : Held (fun V => V = w2.drew), y.w.cell? ⟨b, off + i * 6, none⟩ = some (.int .i64 (l i).topic) := fun y => by rw [y.ok]; exact (LD.out.cell (p := ⟨b, _, none⟩) HB1.out).trans HX1.out.1
    have q0 : ∀ y : Held (fun V => V = w2.drew), y.w.cell? ⟨b2, off2 + i * 6, none⟩ = some (.int .i64 (l i).topic) := fun y => by rw [y.ok]; exact (LD.out.cell (p := ⟨b2, _, none⟩) HB2.out).trans HX2.out.1
    have p1 : ∀ y : Held (fun V => V = w2.drew), y.w.cell? ⟨b, off + i * 6 + 1, none⟩ = some (.int .i64 (l i).rank) := fun y => by rw [y.ok]; exact (LD.out.cell (p := ⟨b, _, none⟩) HB1.out).trans HX1.out.2.1
    have q1 : ∀ y : Held (fun V => V = w2.drew), y.w.cell? ⟨b2, off2 + i * 6 + 1, none⟩ = some (.int .i64 (l i).rank) := fun y => by rw [y.ok]; exact (LD.out.cell (p := ⟨b2, _, none⟩) HB2.out).trans HX2.out.2.1
    have p2 : ∀ y : Held (fun V => V = w2.drew), y.w.cell? ⟨b, off + i * 6 + 2, none⟩ = some (.int .u64 (l i).cur.next) := fun y => by rw [y.ok]; exact (LD.out.cell (p := ⟨b, _, none⟩) HB1.out).trans HX1.out.2.2.1
    have q2 : ∀ y : Held (fun V => V = w2.drew), y.w.cell? ⟨b2, off2 + i * 6 + 2, none⟩ = some (.int .u64 (l i).cur.next) := fun y => by rw [y.ok]; exact (LD.out.cell (p := ⟨b2, _, none⟩) HB2.out).trans HX2.out.2.2.1
    have p3 : ∀ y : Held (fun V => V = w2.drew), y.w.cell? ⟨b, off + i * 6 + 3, none⟩ = some (.int .i64 (l i).cur.cap) := fun y => by rw [y.ok]; exact (LD.out.cell (p := ⟨b, _, none⟩) HB1.out).trans HX1.out.2.2.2.1
    have q3 : ∀ y : Held (fun V => V = w2.drew), y.w.cell? ⟨b2, off2 + i * 6 + 3, none⟩ = some (.int .i64 (l i).cur.cap) := fun y => by rw [y.ok]; exact (LD.out.cell (p := ⟨b2, _, none⟩) HB2.out).trans HX2.out.2.2.2.1
    have p4 : ∀ y : Held (fun V => V = w2.drew), y.w.cell? ⟨b, off + i * 6 + 4, none⟩ = some (.int .u64 (l i).cur.got) := fun y => by rw [y.ok]; exact (LD.out.cell (p := ⟨b, _, none⟩) HB1.out).trans HX1.out.2.2.2.2.1
    have q4 : ∀ y : Held (fun V => V = w2.drew), y.w.cell? ⟨b2, off2 + i * 6 + 4, none⟩ = some (.int .u64 (l i).cur.got) := fun y => by rw [y.ok]; exact (LD.out.cell (p := ⟨b2, _, none⟩) HB2.out).trans HX2.out.2.2.2.2.1
    have p5 : ∀ y : Held (fun V => V = w2.drew), y.w.cell? ⟨b, off + i * 6 + 5, none⟩ = some (.int .u64 (l i).cur.lost) := fun y => by rw [y.ok]; exact (LD.out.cell (p := ⟨b, _, none⟩) HB1.out).trans HX1.out.2.2.2.2.2
    have q5 : ∀ y : Held (fun V => V = w2.drew), y.w.cell? ⟨b2, off2 + i * 6 + 5, none⟩ = some (.int .u64 (l i).cur.lost) := fun y => by rw [y.ok]; exact (LD.out.cell (p := ⟨b2, _, none⟩) HB2.out).trans HX2.out.2.2.2.2.2
    have r0 : ∀ y : Held (fun V => V = w2.drew), y.w.cell? ⟨xa, 0, none⟩ = some (.int .u64 (l i).cur.next) := fun y => by rw [y.ok]; exact (XA2.out.bl (Below.refl _ w2).drew).cell 0
    have t0 : ∀ y : Held (fun V => V = w2.drew), y.w.cell? ⟨xc, 0, none⟩ = some (.int .u64 (l i).cur.next) := fun y => by rw [y.ok]; exact (XC.out.bl (Below.refl _ w2).drew).cell 0
    have r1 : ∀ y : Held (fun V => V = w2.drew), y.w.cell? ⟨xa, 1, none⟩ = some (.int .i64 (l i).cur.cap) := fun y => by rw [y.ok]; exact (XA2.out.bl (Below.refl _ w2).drew).cell 1
    have t1 : ∀ y : Held (fun V => V = w2.drew), y.w.cell? ⟨xc, 1, none⟩ = some (.int .i64 (l i).cur.cap) := fun y => by rw [y.ok]; exact (XC.out.bl (Below.refl _ w2).drew).cell 1
    have r2 : ∀ y : Held (fun V => V = w2.drew), y.w.cell? ⟨xa, 2, none⟩ = some (.int .u64 (l i).cur.got) := fun y => by rw [y.ok]; exact (XA2.out.bl (Below.refl _ w2).drew).cell 2
    have t2 : ∀ y : Held (fun V => V = w2.drew), y.w.cell? ⟨xc, 2, none⟩ = some (.int .u64 (l i).cur.got) := fun y => by rw [y.ok]; exact (XC.out.bl (Below.refl _ w2).drew).cell 2
    have r3 : ∀ y : Held (fun V => V = w2.drew), y.w.cell? ⟨xa, 3, none⟩ = some (.int .u64 (l i).cur.lost) := fun y => by rw [y.ok]; exact (XA2.out.bl (Below.refl _ w2).drew).cell 3
    have t3 : ∀ y : Held (fun V => V = w2.drew), y.w.cell? ⟨xc, 3, none⟩ = some (.int .u64 (l i).cur.lost) := fun y => by rw [y.ok]; exact (XC.out.bl (Below.refl _ w2).drew).cell 3
    have e0 : ((l i).topic != (l i).topic) = false := bne_self_eq_false _
    have e1 : ((l i).rank != (l i).rank) = false := bne_self_eq_false _
    have e2 : ((l i).cur.next != (l i).cur.next) = false := bne_self_eq_false _
    have e3 : ((l i).cur.cap != (l i).cur.cap) = false := bne_self_eq_false _
    have e4 : ((l i).cur.got != (l i).cur.got) = false := bne_self_eq_false _
    have e5 : ((l i).cur.lost != (l i).cur.lost) = false := bne_self_eq_false _
    refine drawn_bars (S := fun _ => True) [] [0, 1, 2, 3, 4, 5, 6, 7, 8, 9, 10, 11, 12, 13, 14, 15, 16, 17, 18, 19, 20, 21, 22, 23, 24, 25, 26, 27, 28, 29, 30, 31, 32, 33, 34, 35, 36, 37, 38, 39, 40, 41, 42, 43, 44, 45, 46, 47, 48, 49, 50, 51] (by kernel_rfl) (by kernel_rfl) (by kernel_rfl) rfl trivial ?_
    refine Phased.end_ ?_
    simp only [pick, List.map_cons, List.map_nil, List.getElem?_cons_zero, List.getElem?_cons_succ, Option.getD_some]
    repeat (go_big_quiet_step (fail))
    refine wpQuiet_nil ?_
    clear hne p0 p1 p2 p3 p4 p5 q0 q1 q2 q3 q4 q5 r0 r1 r2 r3 t0 t1 t2 t3 e0 e1 e2 e3 e4 e5
    generalize w2.drew = w3 at *
    go_wp2_with fail
    go_roundw
    case rel => exact ⟨i + 1, HI.out, HM.out.1, LD.out⟩
    case measure => exact HM.out.2
end Go.Proofs.Ythcaagkgddeabaa.Bank
