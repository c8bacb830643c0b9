/-
  QueueActs: the law's walk. No condition. By an AI agent.
-/
import Derived.Test.YthfkgbgbhjnpdaaActsP
import Derived.Test.YthfkgbgbhjnpdaaQAwake
import Derived.Deep.CutRange
import Derived.Deep.CutBlock
namespace Go.Proofs.Ythfkgbgbhjnpdaa.Queue
set_option linter.unusedVariables false
set_option linter.unusedSimpArgs false
open Go Go.RowKit Go.Proofs.Ythfkgbgbhjnpdaa.Base Go.Deep

section
variable {w wr w' : World} {gc gq base : Nat} {g room G : Int} {c : Cur}
theorem ActSt.pop_none (h : ActSt w wr gc gq base g room G c) (hn : G < (seen c G).next) :
    Calls Try.prog 14 #[.pointer (some ⟨gq, 0, none⟩)] wr fun e w' => e = .returned (.tuple #[.int .u64 0, .bool false]) ∧ wr = w' := by
  have hq := h.q
  rw [qlist_nil hn] at hq
  exact Pop_none gq base room _ _ wr hq
theorem ActSt.pop_some (h : ActSt w wr gc gq base g room G c) (hn : ¬ G < (seen c G).next) :
    Calls Try.prog 14 #[.pointer (some ⟨gq, 0, none⟩)] wr fun e w' => e = .returned (.tuple #[.int .u64 (seen c G).next, .bool true]) ∧ QIn w' gq base room (qlist ((seen c G).next + 1) G) (IntKind.u64.wrap (c.got + 1)) (seen c G).lost ∧ Ex2 gq gq wr w' := by
  obtain ⟨last, hst⟩ := h.st
  have hwt := seen_waits (g := G) hst.right hst.ok hst.g0
  have hsw := hst.seen.2.1
  have hroom := hst.right.1
  have hq := h.q
  rw [qlist_cons (by omega)] at hq
  exact Pop_some gq base room _ _ _ _ wr hq (by rw [qlist_length]; omega)
theorem ActSt.tail (h : ActSt w wr gc gq base g room G c) : ∃ (D : Cur) (m A : _) (cap : Nat), D = seen c G ∧ (m : Nat) = (qlist D.next G).length ∧ D.Ok ∧ Blk wr gq 34 #[.int .i64 room, .slice A m cap, .int .u64 D.got, .int .u64 D.lost] ∧ D.cap = room ∧ m ≤ 15 ∧
    (0 < m → ∃ k, A = some ⟨k, 0, none⟩ ∧ wr.cell? ⟨k, 0, none⟩ = some (.int .u64 D.next) ∧ k < wr.heap.size) ∧
    (∀ w, Calls Try.prog 15 #[c.val, .int .u64 G] w fun e w' => e = .returned (.tuple #[D.val, .int .i64 0]) ∧ Below w.heap.size w w') ∧
    (∀ w, Calls Try.prog 16 #[c.val, .int .u64 G] w fun e w' => e = .returned (.int .i64 (m : Int)) ∧ Below w.heap.size w w') := by
  obtain ⟨last, hst⟩ := h.st
  obtain ⟨D, nn, hD, hnn, hSD, hgt, _, hn0, hn1, S2, K2, _⟩ := tail_facts hst
  obtain ⟨A, cap, hv, hx⟩ := h.q.view
  have hroom := hst.right.1
  have hcap := hst.cap
  subst hD
  have hm : ((qlist (seen c G).next G).length : Int) = nn := by rw [qlist_length]; omega
  refine ⟨_, _, A, cap, rfl, rfl, hSD.ok, by rw [hgt]; exact hv, hSD.cap, by omega, fun hpos => ?_, S2, by rw [hm]; exact K2⟩
  exact hx _ _ (qlist_cons (by rw [qlist_length] at hpos; omega))
theorem QIn.keep {xs : List Int} {got lost : Int} (h : QIn wr gq base room xs got lost) (hs : wr.heap.size ≤ w'.heap.size) (ho : w'.os = wr.os) (ht : w'.tape = wr.tape) (hu : w'.output = wr.output) (hk : ∀ k, base ≤ k → k < wr.heap.size → w'.heap[k]? = wr.heap[k]?) : QIn w' gq base room xs got lost := by
  obtain ⟨v, h⟩ := h
  refine ⟨v, ⟨(hk gq h.hq h.head.lt).trans h.head, ?_, h.hq, h.sep⟩⟩
  obtain ⟨h1, h2⟩ := h.row
  refine ⟨h1, ?_⟩
  rcases h2 with h2 | ⟨g', cap', cur, e1, e2, e3, e4⟩
  · exact .inl h2
  · refine .inr ⟨g', cap', cur, e1, e2, ?_, e4⟩
    have hlt : g' < wr.heap.size := by
      rcases Nat.lt_or_ge g' wr.heap.size with q | q
      · exact q
      · rw [Array.getElem?_eq_none q] at e3; cases e3
    rw [hk g' e2 hlt]; exact e3
theorem ActSt.turn {c' : Cur} {last : Int} (h : ActSt w wr gc gq base g room G c) (hst : SumSt g room c' G last) (hq : QIn wr gq base room (qlist (seen c' G).next G) c'.got (seen c' G).lost) {x : World} (hx : x = ((((wr.setCell ⟨gc, 0, none⟩ (.int .u64 c'.next)).setCell ⟨gc, 1, none⟩ (.int .i64 c'.cap)).setCell ⟨gc, 2, none⟩ (.int .u64 c'.got)).setCell ⟨gc, 3, none⟩ (.int .u64 c'.lost))) :
    ActSt w x gc gq base g room G c' := by
  subst hx
  refine ⟨⟨last, hst⟩, blk_set4 h.bc, hq.keep (by simp [World.setCell]) rfl rfl rfl (fun k hk hl => ?_), h.hgc, h.hwc, below_set4 h.bl h.hwc, by simp [World.setCell]; exact h.bsz⟩
  have hne : k ≠ gc := by have := h.hgc; omega
  rw [Below.heap_setCell _ _ _ _ hne, Below.heap_setCell _ _ _ _ hne, Below.heap_setCell _ _ _ _ hne, Below.heap_setCell _ _ _ _ hne]
theorem ActSt.ex (h : ActSt w wr gc gq base g room G c) (he : Ex2 gq gq wr w') {c' : Cur} {xs : List Int} {a b : Int} (hq : QIn w' gq base room xs a b) : Blk w' gc 27 #[.int .u64 c.next, .int .i64 c.cap, .int .u64 c.got, .int .u64 c.lost] ∧ Below w.heap.size w w' ∧ base ≤ w'.heap.size := by
  have hq' : base ≤ gq := by obtain ⟨v, h⟩ := hq; exact h.hq
  have hne : gc ≠ gq := by have := h.hgc; omega
  exact ⟨he.blk h.bc hne hne, he.below h.bl (by have := h.hgc; have := h.hwc; omega) (by have := h.hgc; have := h.hwc; omega) (by have := h.hgc; have := h.hwc; have := h.bsz; omega), Nat.le_trans h.bsz he.size⟩
end

open Classical in
theorem wholeRes_of {g : Int} {n : Nat} {l : Nat → Act} {e : Ending} (h : WholeRes g n l e) : e = .returned (.bool (decide (Whole g n l))) := by
  obtain ⟨b, rfl, hb⟩ := h
  congr 2
  by_cases hw : Whole g n l
  · rw [decide_eq_true hw]; exact hb.2 hw
  · rw [decide_eq_false hw]
    cases b with
    | false => rfl
    | true => exact absurd (hb.1 rfl) hw

open Classical in
set_option maxRecDepth 100000 in
set_option maxHeartbeats 16000000 in
theorem QueueActs_walk (g : Int) (hg : 0 ≤ g ∧ g ≤ 18446744073709551615) (room : Int) (hroom : -9223372036854775808 ≤ room ∧ room ≤ 9223372036854775807) (v : Value) (x : Nat × (Nat → Act)) (w : World) (hx : Acts w v x.1 x.2) :
    Calls Try.prog 3 #[.int .u64 g, .int .i64 room, v] w fun e w' => e = .returned (.bool true) ∧ Below w.heap.size w w' := by
  obtain ⟨n, l⟩ := x
  simp only at hx
  have hx0 := hx
  obtain ⟨A, ca, rfl, hl, hf⟩ := hx0.form
  have HX := Lib.hid hx
  have HF := Lib.hid hf
  have HOK := Lib.hid hx.ok
  unfold maxLen at hl
  clear hf hx hx0
  have hg0 := hg.1
  have early : ∀ (bb : Bool), (bb = false ∨ (decide (room < 1) = true) ∨ (decide (room < 1) = false ∧ decide (15 < room) = true)) → (∀ W, Calls Try.prog 9 #[.int .u64 g, .slice A n ca] W fun e w' => (W = w → e = .returned (.bool bb) ∧ W = w')) → True := fun _ _ _ => trivial
  clear early
  by_cases hW : Whole g n l ∧ 1 ≤ room ∧ room ≤ 15
  · obtain ⟨hW, hr1, hr2⟩ := hW
    have HALL := Lib.hid hW.2.2
    have hgt := hW.1
    have hn200 := hW.2.1
    have q1 : decide (room < 1) = false := decide_eq_false (by omega)
    have q2 : decide (15 < room) = false := decide_eq_false (by omega)
    have HN := Lib.hid (New_in g room ⟨hg0, by omega⟩ hr1 hr2)
    unfold Cur.val at HN
    simp only at HN
    have SUM0 := Lib.hid (show SumSt g room ⟨g + 1, room, 0, 0⟩ g g from ⟨⟨by simp only; omega, by simp only; omega, by simp only; omega, by simp only; omega⟩, ⟨⟨hr1, hr2⟩, by simp only; omega⟩, rfl, by simp only; omega, by simp only; omega, by simp only; omega, hg0, hg0, by omega⟩)
    have SEEN0 := Lib.hid (show seen ⟨g + 1, room, 0, 0⟩ g = ⟨g + 1, room, 0, 0⟩ from by unfold seen; rw [if_pos (by simp only; omega)])
    go_enter Try.func3, Try.ntmps3
    go_wp2_with fail
    refine (whole_any g hg _ n l w HX.out).mono ?_; rintro e w' ⟨hres, rfl⟩
    obtain ⟨bb, rfl, hiff⟩ := hres
    obtain rfl : bb = true := hiff.2 hW
    clear hiff hW
    go_wp2_with fail
    refine (HN.out _).mono ?_; rintro e w1 ⟨rfl, hb1⟩
    have hsz := hb1.size
    have ACT0 := Lib.hid (show ActSt w ((w1.alloc (.cells #[.int .u64 (g + 1), .int .i64 room, .int .u64 0, .int .u64 0] 27)).alloc (.cells #[.int .i64 room, .slice none 0 0, .int .u64 0, .int .u64 0] 34)) w1.heap.size (w1.heap.size + 1) (w1.heap.size + 1) g room g ⟨g + 1, room, 0, 0⟩ from by
      refine ⟨⟨g, SUM0.out⟩, (Blk.new w1 _ _).alloc _, ⟨.slice none 0 0, ⟨?_, ?_, Nat.le_refl _, by simp [Value.ownBlock]⟩⟩, by omega, hsz, (hb1.alloc hsz _).alloc (by simp; omega) _, by simp⟩
      · rw [SEEN0.out]
        have := Blk.new (w1.alloc (.cells #[.int .u64 (g + 1), .int .i64 room, .int .u64 0, .int .u64 0] 27)) 34 #[.int .i64 room, .slice none 0 0, .int .u64 0, .int .u64 0]
        rwa [World.size_alloc] at this
      · rw [SEEN0.out, qlist_nil (by simp only; omega)]
        exact World.ownsRow_nil _ _ _ _)
    clear hb1 q1 q2 SUM0 SEEN0 HX HN
    go_wp2_with fail
    generalize w1.heap.size = gc at *
    generalize hgq : gc + 1 = gq at *
    clear hgq
    go_loopw [0, 10] (fun gv iv wr => ∃ k : Nat, k ≤ n ∧ ∃ (G : Int) (c : Cur), gv = .int .u64 G ∧ iv = .int .i64 k ∧ G ≤ g + 40 * (k : Int) ∧ ActSt w wr gc gq gq g room G c) (fun _ i _ => n - (intOf i).toNat)
    case atStart => exact ⟨0, by omega, g, ⟨g + 1, room, 0, 0⟩, rfl, rfl, by omega, ACT0.out⟩
    case round =>
      obtain ⟨k, hk, G, c, rfl, rfl, hGk, hst⟩ := hrel
      have ST := Lib.hid hst
      clear hst ACT0
      by_cases hlt : k < n
      · obtain ⟨b, o, rfl, hb, hcc⟩ := HF.out (by omega)
        have HC := Lib.hid (hcc k hlt)
        clear hcc
        have hby0 := (HALL.out k hlt).1
        have hby1 := (HALL.out k hlt).2
        have hi0 : (0 : Int) ≤ (k : Int) := by omega
        have hi1 : (k : Int) < (n : Int) := by omega
        have hd1 : decide ((k : Int) < (n : Int)) = true := decide_eq_true hi1
        have hG1 : G ≤ 9223372036854775766 := by omega
        have ck := (ST.out.bl.cell (p := ⟨b, o + k * 2, none⟩) hb).trans HC.out.1
        go_upto_block 2 with fail
        go_cut [0, 11, 12, 13, 14, 15, 16, 17, 18] from 45 to 175 (fun gv s11 s12 s13 s14 s15 s16 s17 s18 wx => ∃ (G' : Int) (c' : Cur), gv = .int .u64 G' ∧ G' ≤ g + 40 * ((k + 1 : Nat) : Int) ∧ ActSt w wx gc gq gq g room G' c')
        case first =>
          have hkd : ((l k).kind == 0) = true ∨ (((l k).kind == 0) = false ∧ ((l k).kind == 1) = true) ∨ (((l k).kind == 0) = false ∧ ((l k).kind == 1) = false) := by
            rcases Bool.eq_false_or_eq_true ((l k).kind == 0) with h0 | h0
            · exact .inl h0
            · rcases Bool.eq_false_or_eq_true ((l k).kind == 1) with h1 | h1
              · exact .inr (.inl ⟨h0, h1⟩)
              · exact .inr (.inr ⟨h0, h1⟩)
          rcases hkd with q0 | ⟨q0, q1⟩ | ⟨q0, q1⟩
          · obtain ⟨Y, hY⟩ : ∃ Y : Nat, (Y : Int) = (l k).by_ := ⟨(l k).by_.toNat, by omega⟩
            have HCY := Lib.hid (show w.cell? ⟨b, o + k * 2 + 1, none⟩ = some (.int .i64 (Y : Int)) by rw [hY]; exact HC.out.2)
            have HGY := Lib.hid (show G + (Y : Int) ≤ g + 40 * ((k + 1 : Nat) : Int) by rw [hY]; push_cast; omega)
            have hY40 : (Y : Int) ≤ 40 := by omega
            clear hY hby0 hby1
            go_wp2_with fail
            go_loopw [0, 11] (fun gv iv wr2 => ∃ j : Nat, j ≤ Y ∧ gv = .int .u64 (G + (j : Int)) ∧ iv = .int .i64 j ∧ ActSt w wr2 gc gq gq g room (G + (j : Int)) c) (fun _ i _ => Y - (intOf i).toNat)
            case atStart => exact ⟨0, by omega, by simp, rfl, by simpa using ST.out⟩
            case round =>
              obtain ⟨j, hj, rfl, rfl, hst⟩ := hrel
              have ST2 := Lib.hid hst
              have cb := (hst.bl.cell (p := ⟨b, o + k * 2 + 1, none⟩) hb).trans HCY.out
              have hgj : 0 ≤ G + (j : Int) := by obtain ⟨_, h⟩ := hst.st; exact h.g0
              clear hst ck
              by_cases hjl : j < Y
              · have hd2 : decide ((j : Int) < (Y : Int)) = true := decide_eq_true (by omega)
                have HPU := Lib.hid (ST2.out.push (by omega))
                have HGJ := Lib.hid (show G + (j : Int) + 1 = G + ((j + 1 : Nat) : Int) by push_cast; omega)
                go_wp2_with fail
                refine HPU.out.mono ?_; rintro e w3 ⟨rfl, hst3⟩
                have ST3 := Lib.hid hst3
                clear hst3
                go_wp2_with fail
                go_roundw
                case rel => exact ⟨j + 1, by omega, by rw [HGJ.out], by go_num, by rw [← HGJ.out]; exact ST3.out⟩
                case measure => simp [intOf]; omega
              · have hd2 : decide ((j : Int) < (Y : Int)) = false := decide_eq_false (by omega)
                obtain rfl : j = Y := by omega
                go_wp2_with fail
                go_meet
                exact ⟨_, c, rfl, HGY.out, ST2.out⟩
          · have HGY := Lib.hid (show G ≤ g + 40 * ((k + 1 : Nat) : Int) by push_cast; omega)
            obtain ⟨last, hst⟩ := ST.out.st
            obtain ⟨D, nn, hD, hnn, hS, hgt0, hls, hn0, hn1, S2, K2, _⟩ := tail_facts hst
            have c0 := ST.out.bc.cell 0
            have c1 := ST.out.bc.cell 1
            have c2 := ST.out.bc.cell 2
            have c3 := ST.out.bc.cell 3
            simp only [List.getElem?_toArray, List.getElem?_cons_succ, List.getElem?_cons_zero] at c0 c1 c2 c3
            by_cases hz : nn = 0
            · subst hz
              have HNT := Lib.hid (none_facts hst hD hnn)
              unfold Cur.val at HNT
              have hlt2 : G < (seen c G).next := by rw [← hD]; omega
              have HPN := Lib.hid (fun (wr' : World) (h : ActSt w wr' gc gq gq g room G c) => h.pop_none hlt2)
              clear S2 K2 hlt2 hnn hD hS hls hst hn0 hn1 hgt0
              go_wp2_with fail
              refine (HNT.out _).mono ?_; rintro e w3 ⟨rfl, hb3⟩
              have ST3 := Lib.hid ((ST.out.go hb3).go ((Below.refl _ _).alloc (Nat.le_refl _) (.cells #[.int .u64 0, .int .i64 0, .int .u64 0, .int .u64 0] 27)))
              clear hb3 c0 c1 c2 c3
              go_wp2_with fail
              refine (HPN.out _ ST3.out).mono ?_; rintro e w4 ⟨rfl, rfl⟩
              go_wp2_with fail
              go_meet
              exact ⟨G, c, rfl, HGY.out, ST3.out⟩
            · have hlt2 : ¬ G < (seen c G).next := by rw [← hD]; omega
              obtain ⟨hT, t2, t1, _, hs2⟩ := hst.take hlt2
              have hTK := Take_any c G hst.ok ⟨hst.g0, by omega⟩
              have t3 : takeC c G = ⟨(seen c G).next + 1, (seen c G).cap, IntKind.u64.wrap ((seen c G).got + 1), (seen c G).lost⟩ := by unfold takeC; rw [if_pos t1]
              have hsg := hst.seen.2.2.1
              rw [t2, t1] at hTK
              have HPS := Lib.hid (fun (wr' : World) (h : ActSt w wr' gc gq gq g room G c) => h.pop_some hlt2)
              have HQF := Lib.hid (show (qlist ((seen c G).next + 1) G) = qlist (seen (takeC c G) G).next G ∧ IntKind.u64.wrap (c.got + 1) = (takeC c G).got ∧ (seen c G).lost = (seen (takeC c G) G).lost from ⟨by rw [hs2, t3], by rw [t3, hsg], by rw [hs2, t3]⟩)
              have HT := Lib.hid hT
              generalize takeC c G = T at *
              generalize hdn : (seen c G).next = dn at *
              have hne : (dn != dn) = false := by simp
              unfold Cur.val at hTK
              have HTK := Lib.hid hTK
              clear S2 K2 hlt2 hnn hD hS hls hst hn0 hn1 hgt0 hTK hT t1 t2 t3 hsg hs2 hdn hz
              go_wp2_with fail
              refine (HTK.out _).mono ?_; rintro e w3 ⟨rfl, hb3⟩
              have ST3 := Lib.hid ((ST.out.go hb3).go ((Below.refl _ _).alloc (Nat.le_refl _) (.cells #[.int .u64 T.next, .int .i64 T.cap, .int .u64 T.got, .int .u64 T.lost] 27)))
              have BT := Lib.hid (Blk.new w3 27 #[.int .u64 T.next, .int .i64 T.cap, .int .u64 T.got, .int .u64 T.lost])
              have hgq3 : gq < w3.heap.size := by
                obtain ⟨v, hv⟩ := (ST.out.go hb3).q
                exact hv.head.lt
              have hgc3 : gc < w3.heap.size := (ST.out.go hb3).bc.lt
              clear hb3 c0 c1 c2 c3
              go_wp2_with fail
              refine (HPS.out _ ST3.out).mono ?_; rintro e w4 ⟨rfl, hq4, he4⟩
              rw [HQF.out.1, HQF.out.2.1, HQF.out.2.2] at hq4
              have BT4 := Lib.hid (he4.blk BT.out (by omega) (by omega))
              obtain ⟨hbc4, hbl4, hsz4⟩ := ST3.out.ex (c' := T) he4 hq4
              have f0 := hbc4.frozen 0
              have f1 := hbc4.frozen 1
              have f2 := hbc4.frozen 2
              have f3 := hbc4.frozen 3
              have c0 := hbc4.cell 0
              have c1 := hbc4.cell 1
              have c2 := hbc4.cell 2
              have c3 := hbc4.cell 3
              have t0 := BT4.out.cell 0
              have t1 := BT4.out.cell 1
              have t2 := BT4.out.cell 2
              have t3 := BT4.out.cell 3
              simp only [List.getElem?_toArray, List.getElem?_cons_succ, List.getElem?_cons_zero] at c0 c1 c2 c3 t0 t1 t2 t3
              have HQ4 := Lib.hid hq4
              have HBL4 := Lib.hid hbl4
              have HBC4 := Lib.hid hbc4
              clear hq4 he4 hbc4 hbl4
              generalize w3.heap.size = gt at *
              go_wp2_with fail
              go_meet
              refine ⟨G, T, rfl, HGY.out, ⟨⟨_, HT.out⟩, blk_set4 HBC4.out, HQ4.out.keep (by simp [World.setCell]) rfl rfl rfl (fun k hk hl => ?_), ST3.out.hgc, ST3.out.hwc, below_set4 HBL4.out ST3.out.hwc, by simp [World.setCell]; exact hsz4⟩⟩
              have hne : k ≠ gc := by have := ST3.out.hgc; omega
              rw [Below.heap_setCell _ _ _ _ hne, Below.heap_setCell _ _ _ _ hne, Below.heap_setCell _ _ _ _ hne, Below.heap_setCell _ _ _ _ hne]
          · have HGY := Lib.hid (show G ≤ g + 40 * ((k + 1 : Nat) : Int) by push_cast; omega)
            obtain ⟨last, hst⟩ := ST.out.st
            obtain ⟨D, nn, hD, hnn, hS, hgt0, hls, hn0, hn1, S2, K2, _⟩ := tail_facts hst
            have hss : seen D G = D := by rw [hD]; exact seen_seen hst.right hst.g0 (Int.le_refl _) hst.is
            have hq := ST.out.q
            rw [← hD, ← hgt0] at hq
            have HQ := Lib.hid (show QIn wr gq gq room (qlist (seen D G).next G) D.got (seen D G).lost by rw [hss]; exact hq)
            have HT := Lib.hid hS
            have c0 := ST.out.bc.cell 0
            have c1 := ST.out.bc.cell 1
            have c2 := ST.out.bc.cell 2
            have c3 := ST.out.bc.cell 3
            simp only [List.getElem?_toArray, List.getElem?_cons_succ, List.getElem?_cons_zero] at c0 c1 c2 c3
            unfold Cur.val at S2
            have HS2 := Lib.hid S2
            clear S2 K2 hD hnn hS hgt0 hls hn0 hn1 hss hq hst
            go_wp2_with fail
            refine (HS2.out _).mono ?_; rintro e w3 ⟨rfl, hb3⟩
            have ST3 := Lib.hid (ST.out.go hb3)
            have HQ3 := Lib.hid (HQ.out.bl hb3)
            have hgc3 : gc < w3.heap.size := ST3.out.bc.lt
            have hgn3 : ¬ gc = w3.heap.size := by omega
            clear hb3 c0 c1 c2 c3
            have f0 := ST3.out.bc.frozen 0
            have f1 := ST3.out.bc.frozen 1
            have f2 := ST3.out.bc.frozen 2
            have f3 := ST3.out.bc.frozen 3
            have c0 := ST3.out.bc.cell 0
            have c1 := ST3.out.bc.cell 1
            have c2 := ST3.out.bc.cell 2
            have c3 := ST3.out.bc.cell 3
            simp only [List.getElem?_toArray, List.getElem?_cons_succ, List.getElem?_cons_zero] at c0 c1 c2 c3
            go_wp2_with fail
            go_meet
            exact ⟨G, D, rfl, HGY.out, (ST3.out.turn HT.out HQ3.out rfl).go ((Below.refl _ _).alloc (Nat.le_refl _) _)⟩
        case rest =>
          obtain ⟨G', c', rfl, hGk', hst'⟩ := hcut
          have ST5 := Lib.hid hst'
          obtain ⟨D, m, A', cap', hD, hm, hDok, hq, hDc, hm15, hx, S2, K2⟩ := hst'.tail
          have HK := Lib.hid hq
          have HXF := Lib.hid hx
          have c0 := hst'.bc.cell 0
          have c1 := hst'.bc.cell 1
          have c2 := hst'.bc.cell 2
          have c3 := hst'.bc.cell 3
          simp only [List.getElem?_toArray, List.getElem?_cons_succ, List.getElem?_cons_zero] at c0 c1 c2 c3
          unfold Cur.val at S2 K2
          have HS2 := Lib.hid S2
          have HK2 := Lib.hid K2
          have n1 : (D.got != D.got) = false := by simp
          have n2 : (D.lost != D.lost) = false := by simp
          have n3 : (D.next != D.next) = false := by simp
          have n4 : (room != room) = false := by simp
          have n5 : ((m : Int) != (m : Int)) = false := by simp
          have HDC := Lib.hid hDc
          clear S2 K2 hst' hq hx hD hm hDok hDc ST ck
          go_wp2_with fail
          refine (HS2.out _).mono ?_; rintro e w3 ⟨rfl, hb3⟩
          have HK3 := Lib.hid (HK.out.bl hb3)
          have ST6 := Lib.hid (ST5.out.go hb3)
          have hgc3 : gc < w3.heap.size := ST6.out.bc.lt
          have hgq3 : gq < w3.heap.size := HK3.out.lt
          clear c0 c1 c2 c3
          have HX3 := Lib.hid (show 0 < m → ∃ k, A' = some ⟨k, 0, none⟩ ∧ w3.cell? ⟨k, 0, none⟩ = some (.int .u64 D.next) ∧ k < w3.heap.size from fun h => by
            obtain ⟨k, e1, e2, e3⟩ := HXF.out h
            exact ⟨k, e1, (hb3.cell (p := ⟨k, 0, none⟩) e3).trans e2, Nat.lt_of_lt_of_le e3 hb3.size⟩)
          clear HXF hb3
          rw [HDC.out]
          have HW0 := Lib.hid (ST6.out.go ((Below.refl _ _).alloc (Nat.le_refl _) (.cells #[.int .u64 D.next, .int .i64 room, .int .u64 D.got, .int .u64 D.lost] 27)))
          have HBS := Lib.hid (Blk.new w3 27 #[.int .u64 D.next, .int .i64 room, .int .u64 D.got, .int .u64 D.lost])
          go_upto_region 29 with fail
          have HKZ := Lib.hid (HK3.out.alloc (.cells #[.int .u64 D.next, .int .i64 room, .int .u64 D.got, .int .u64 D.lost] 27))
          have HXZ := Lib.hid (show 0 < m → ∃ k, A' = some ⟨k, 0, none⟩ ∧ (w3.alloc (.cells #[.int .u64 D.next, .int .i64 room, .int .u64 D.got, .int .u64 D.lost] 27)).cell? ⟨k, 0, none⟩ = some (.int .u64 D.next) ∧ k < (w3.alloc (.cells #[.int .u64 D.next, .int .i64 room, .int .u64 D.got, .int .u64 D.lost] 27)).heap.size from fun h => by
            obtain ⟨k, e1, e2, e3⟩ := HX3.out h
            exact ⟨k, e1, (Below.cell (p := ⟨k, 0, none⟩) ((Below.refl _ _).alloc (Nat.le_refl _) _) e3).trans e2, by simp; omega⟩)
          have HGK := Lib.hid hGk'
          clear HK3 HX3 ST6 HK ST5 hgc3 hgq3 hGk'
          generalize w3.heap.size = gs at *
          generalize w3.alloc (.cells #[.int .u64 D.next, .int .i64 room, .int .u64 D.got, .int .u64 D.lost] 27) = wz at *
          by_cases hm0 : m = 0
          · have hnonempty : Nonempty (Held (Below wz.heap.size wz)) := ⟨⟨wz, Below.refl _ _⟩⟩
            have bs : ∀ x : Held (Below wz.heap.size wz), Blk x.w gs _ _ := fun x => HBS.out.bl x.ok
            have bq : ∀ x : Held (Below wz.heap.size wz), Blk x.w gq _ _ := fun x => HKZ.out.bl x.ok
            have bc : ∀ x : Held (Below wz.heap.size wz), Blk x.w gc _ _ := fun x => HW0.out.bc.bl x.ok
            have s0 : ∀ x : Held (Below wz.heap.size wz), x.w.cell? ⟨gs, 0, none⟩ = some (.int .u64 D.next) := fun x => (bs x).cell 0
            have s1 : ∀ x : Held (Below wz.heap.size wz), x.w.cell? ⟨gs, 1, none⟩ = some (.int .i64 room) := fun x => (bs x).cell 1
            have s2 : ∀ x : Held (Below wz.heap.size wz), x.w.cell? ⟨gs, 2, none⟩ = some (.int .u64 D.got) := fun x => (bs x).cell 2
            have s3 : ∀ x : Held (Below wz.heap.size wz), x.w.cell? ⟨gs, 3, none⟩ = some (.int .u64 D.lost) := fun x => (bs x).cell 3
            have q0 : ∀ x : Held (Below wz.heap.size wz), x.w.cell? ⟨gq, 0, none⟩ = some (.int .i64 room) := fun x => (bq x).cell 0
            have q1 : ∀ x : Held (Below wz.heap.size wz), x.w.cell? ⟨gq, 1, none⟩ = some (.slice A' m cap') := fun x => (bq x).cell 1
            have q2 : ∀ x : Held (Below wz.heap.size wz), x.w.cell? ⟨gq, 2, none⟩ = some (.int .u64 D.got) := fun x => (bq x).cell 2
            have q3 : ∀ x : Held (Below wz.heap.size wz), x.w.cell? ⟨gq, 3, none⟩ = some (.int .u64 D.lost) := fun x => (bq x).cell 3
            have c0 : ∀ x : Held (Below wz.heap.size wz), x.w.cell? ⟨gc, 0, none⟩ = some (.int .u64 c'.next) := fun x => (bc x).cell 0
            have c1 : ∀ x : Held (Below wz.heap.size wz), x.w.cell? ⟨gc, 1, none⟩ = some (.int .i64 c'.cap) := fun x => (bc x).cell 1
            have c2 : ∀ x : Held (Below wz.heap.size wz), x.w.cell? ⟨gc, 2, none⟩ = some (.int .u64 c'.got) := fun x => (bc x).cell 2
            have c3 : ∀ x : Held (Below wz.heap.size wz), x.w.cell? ⟨gc, 3, none⟩ = some (.int .u64 c'.lost) := fun x => (bc x).cell 3
            clear bs bq bc
            have HKC := Lib.hid (show ∀ W, Below wz.heap.size wz W → Calls Try.prog 16 #[.agg #[.int .u64 c'.next, .int .i64 c'.cap, .int .u64 c'.got, .int .u64 c'.lost], .int .u64 G'] W fun e w' => e = .returned (.int .i64 (m : Int)) ∧ Below wz.heap.size wz w' from fun W hW => (HK2.out W).mono fun _ _ ⟨he, hb⟩ => ⟨he, Base.bl hW hb⟩)
            have p0 : decide ((0 : Int) < (m : Int)) = false := decide_eq_false (by omega)
            refine drawn_held (S := Below wz.heap.size wz) (by kernel_rfl) (by kernel_rfl) (Below.refl _ _).drew ?_
            repeat (go_big_quiet_step ((go_at_call 16; exact held_call HKC.out)))
            refine wpQuiet_nil ?_
            intro w7 hw'; obtain ⟨⟨w7', hb7⟩, hw''⟩ := hw'; dsimp only at hw''; subst hw''
            have ST7 := Lib.hid (HW0.out.go hb7)
            clear hb7 s0 s1 s2 s3 q0 q1 q2 q3 c0 c1 c2 c3
            go_wp2_with fail
            go_roundw
            case rel => exact ⟨k + 1, by omega, G', c', rfl, by go_num, HGK.out, ST7.out⟩
            case measure => simp [intOf]; omega
          · obtain ⟨kr, rfl, hr0, hr1⟩ := HXZ.out (by omega)
            have HR := Lib.hid (And.intro hr0 hr1)
            clear hr0 hr1
            have hnonempty : Nonempty (Held (Below wz.heap.size wz)) := ⟨⟨wz, Below.refl _ _⟩⟩
            have bs : ∀ x : Held (Below wz.heap.size wz), Blk x.w gs _ _ := fun x => HBS.out.bl x.ok
            have bq : ∀ x : Held (Below wz.heap.size wz), Blk x.w gq _ _ := fun x => HKZ.out.bl x.ok
            have bc : ∀ x : Held (Below wz.heap.size wz), Blk x.w gc _ _ := fun x => HW0.out.bc.bl x.ok
            have s0 : ∀ x : Held (Below wz.heap.size wz), x.w.cell? ⟨gs, 0, none⟩ = some (.int .u64 D.next) := fun x => (bs x).cell 0
            have s1 : ∀ x : Held (Below wz.heap.size wz), x.w.cell? ⟨gs, 1, none⟩ = some (.int .i64 room) := fun x => (bs x).cell 1
            have s2 : ∀ x : Held (Below wz.heap.size wz), x.w.cell? ⟨gs, 2, none⟩ = some (.int .u64 D.got) := fun x => (bs x).cell 2
            have s3 : ∀ x : Held (Below wz.heap.size wz), x.w.cell? ⟨gs, 3, none⟩ = some (.int .u64 D.lost) := fun x => (bs x).cell 3
            have q0 : ∀ x : Held (Below wz.heap.size wz), x.w.cell? ⟨gq, 0, none⟩ = some (.int .i64 room) := fun x => (bq x).cell 0
            have q1 : ∀ x : Held (Below wz.heap.size wz), x.w.cell? ⟨gq, 1, none⟩ = some (.slice (some ⟨kr, 0, none⟩) m cap') := fun x => (bq x).cell 1
            have q2 : ∀ x : Held (Below wz.heap.size wz), x.w.cell? ⟨gq, 2, none⟩ = some (.int .u64 D.got) := fun x => (bq x).cell 2
            have q3 : ∀ x : Held (Below wz.heap.size wz), x.w.cell? ⟨gq, 3, none⟩ = some (.int .u64 D.lost) := fun x => (bq x).cell 3
            have c0 : ∀ x : Held (Below wz.heap.size wz), x.w.cell? ⟨gc, 0, none⟩ = some (.int .u64 c'.next) := fun x => (bc x).cell 0
            have c1 : ∀ x : Held (Below wz.heap.size wz), x.w.cell? ⟨gc, 1, none⟩ = some (.int .i64 c'.cap) := fun x => (bc x).cell 1
            have c2 : ∀ x : Held (Below wz.heap.size wz), x.w.cell? ⟨gc, 2, none⟩ = some (.int .u64 c'.got) := fun x => (bc x).cell 2
            have c3 : ∀ x : Held (Below wz.heap.size wz), x.w.cell? ⟨gc, 3, none⟩ = some (.int .u64 c'.lost) := fun x => (bc x).cell 3
            have r0 : ∀ x : Held (Below wz.heap.size wz), x.w.cell? ⟨kr, 0, none⟩ = some (.int .u64 D.next) := fun x => (x.ok.cell (p := ⟨kr, 0, none⟩) HR.out.2).trans HR.out.1
            have i1 : (0 : Int) < (m : Int) := by omega
            clear bs bq bc
            have HKC := Lib.hid (show ∀ W, Below wz.heap.size wz W → Calls Try.prog 16 #[.agg #[.int .u64 c'.next, .int .i64 c'.cap, .int .u64 c'.got, .int .u64 c'.lost], .int .u64 G'] W fun e w' => e = .returned (.int .i64 (m : Int)) ∧ Below wz.heap.size wz w' from fun W hW => (HK2.out W).mono fun _ _ ⟨he, hb⟩ => ⟨he, Base.bl hW hb⟩)
            have p0 : decide ((0 : Int) < (m : Int)) = true := decide_eq_true (by omega)
            have p1 : decide (0 < m) = true := decide_eq_true (by omega)
            have p2 : 0 < m := by omega
            refine drawn_held (S := Below wz.heap.size wz) (by kernel_rfl) (by kernel_rfl) (Below.refl _ _).drew ?_
            repeat (go_big_quiet_step ((go_at_call 16; exact held_call HKC.out)))
            refine wpQuiet_nil ?_
            intro w7 hw'; obtain ⟨⟨w7', hb7⟩, hw''⟩ := hw'; dsimp only at hw''; subst hw''
            have ST7 := Lib.hid (HW0.out.go hb7)
            clear hb7 s0 s1 s2 s3 q0 q1 q2 q3 c0 c1 c2 c3 r0
            go_wp2_with fail
            go_roundw
            case rel => exact ⟨k + 1, by omega, G', c', rfl, by go_num, HGK.out, ST7.out⟩
            case measure => simp [intOf]; omega
      · have hd1 : decide ((k : Int) < (n : Int)) = false := decide_eq_false (by omega)
        go_wp2_with fail
        refine (awake_any _).mono ?_; rintro e w2 ⟨rfl, hb2⟩
        have L3 := Lib.hid (bl ST.out.bl hb2)
        clear hb2
        go_wp2_with fail
        go_ret
        exact ⟨rfl, L3.out⟩
  · have ho : ¬ Whole g n l ∨ (Whole g n l ∧ (decide (room < 1) = true ∨ (decide (room < 1) = false ∧ decide (15 < room) = true))) := by
      by_cases h1 : Whole g n l
      · refine .inr ⟨h1, ?_⟩
        by_cases q : room < 1
        · exact .inl (decide_eq_true q)
        · exact .inr ⟨decide_eq_false q, decide_eq_true (by by_cases h : 15 < room; exact h; exact absurd ⟨h1, by omega, by omega⟩ hW)⟩
      · exact .inl h1
    rcases ho with h1 | ⟨h1, q1 | ⟨q1, q2⟩⟩
    all_goals
      go_enter Try.func3, Try.ntmps3
      go_wp2_with fail
      refine (whole_any g hg _ n l w HX.out).mono ?_; rintro e w' ⟨hres, rfl⟩
      rw [wholeRes_of hres]
      first | rw [decide_eq_true h1] | rw [decide_eq_false h1]
      go_wp2_with fail
      refine (awake_any _).mono ?_; rintro e w2 ⟨rfl, hb2⟩
      have L3 := Lib.hid hb2
      clear hb2
      go_wp2_with fail
      go_ret
      exact ⟨rfl, L3.out⟩
end Go.Proofs.Ythfkgbgbhjnpdaa.Queue
