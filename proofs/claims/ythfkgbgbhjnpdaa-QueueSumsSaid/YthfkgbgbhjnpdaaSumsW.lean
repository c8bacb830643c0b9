/-
  QueueSums: the law's walk. No condition. By an AI agent.
-/
import Derived.Test.YthfkgbgbhjnpdaaQActs
namespace Go.Proofs.Ythfkgbgbhjnpdaa.Queue
set_option linter.unusedVariables false
set_option linter.unusedSimpArgs false
open Go Go.RowKit Go.Proofs.Ythfkgbgbhjnpdaa.Base Go.Deep

theorem seen_le {begin room : Int} {c : Cur} {G last : Int} (h : SumSt begin room c G last) : c.next ≤ (seen c G).next := by
  have hc := h.right.1.1
  unfold seen
  split
  · omega
  · split
    · simp only; omega
    · omega

set_option maxRecDepth 100000 in
set_option maxHeartbeats 16000000 in
theorem QueueSums_walk (g : Int) (hg : 0 ≤ g ∧ g ≤ 18446744073709551615) (room : Int) (hroom : -9223372036854775808 ≤ room ∧ room ≤ 9223372036854775807) (v : Value) (x : Nat × (Nat → Act)) (w : World) (hx : Acts w v x.1 x.2) :
    Calls Try.prog 4 #[.int .u64 g, .int .i64 room, v] w fun e w' => e = .returned (.bool true) ∧ Below w.heap.size w w' := by
  obtain ⟨n, l⟩ := x
  simp only at hx
  have hx0 := hx
  obtain ⟨A, ca, rfl, hl, hf⟩ := hx0.form
  have HX := Lib.hid hx
  have HF := Lib.hid hf
  have HOK := Lib.hid hx.ok
  unfold maxLen at hl
  clear hf hx hx0
  have hg0 := hg.1
  by_cases hW : Whole g n l
  · have HALL := Lib.hid hW.2.2
    have hgt := hW.1
    have hn200 := hW.2.1
    by_cases hr : room < 1 ∨ 15 < room
    · have hrr : decide (room < 1) = true ∨ (decide (room < 1) = false ∧ decide (15 < room) = true) := by
        by_cases q : room < 1
        · exact .inl (decide_eq_true q)
        · exact .inr ⟨decide_eq_false q, decide_eq_true (by omega)⟩
      have HN := Lib.hid (New_out g room hg0 (.inr hr))
      unfold Cur.val Cur.zero at HN
      rcases hrr with q1 | ⟨q1, q2⟩
      all_goals
        go_enter Try.func4, Try.ntmps4
        go_wp2_with fail
        refine (whole_any g hg _ n l w HX.out).mono ?_; rintro e w' ⟨hres, rfl⟩
        obtain ⟨bb, rfl, hiff⟩ := hres
        obtain rfl : bb = true := hiff.2 hW
        clear hiff
        go_wp2_with fail
        refine (HN.out _).mono ?_; rintro e w1 ⟨rfl, hb1⟩
        have L1 := Lib.hid hb1
        have L2 := Lib.hid (hb1.alloc hb1.size (.cells #[.int .u64 0, .int .i64 0, .int .u64 0, .int .u64 0] 27))
        clear hb1
        go_wp2_with fail
        refine (awake_any _).mono ?_; rintro e w2 ⟨rfl, hb2⟩
        have L3 := Lib.hid (bl L2.out hb2)
        clear hb2
        go_wp2_with fail
        go_ret
        exact ⟨rfl, L3.out⟩
    · have hr1 : 1 ≤ room := by omega
      have hr2 : room ≤ 15 := by omega
      have q1 : decide (room < 1) = false := decide_eq_false (by omega)
      have q2 : decide (15 < room) = false := decide_eq_false (by omega)
      have HN := Lib.hid (New_in g room ⟨hg0, by omega⟩ hr1 hr2)
      unfold Cur.val at HN
      simp only at HN
      have SUM0 := Lib.hid (show SumSt g room ⟨g + 1, room, 0, 0⟩ g g from ⟨⟨by simp only; omega, by simp only; omega, by simp only; omega, by simp only; omega⟩, ⟨⟨hr1, hr2⟩, by simp only; omega⟩, rfl, by simp only; omega, by simp only; omega, by simp only; omega, hg0, hg0, by omega⟩)
      go_enter Try.func4, Try.ntmps4
      go_wp2_with fail
      refine (whole_any g hg _ n l w HX.out).mono ?_; rintro e w' ⟨hres, rfl⟩
      obtain ⟨bb, rfl, hiff⟩ := hres
      obtain rfl : bb = true := hiff.2 hW
      clear hiff hW
      go_wp2_with fail
      refine (HN.out _).mono ?_; rintro e w1 ⟨rfl, hb1⟩
      have L1 := Lib.hid (hb1.alloc hb1.size (.cells #[.int .u64 (g + 1), .int .i64 room, .int .u64 0, .int .u64 0] 27))
      have BC0 := Lib.hid (Blk.new w1 27 #[.int .u64 (g + 1), .int .i64 room, .int .u64 0, .int .u64 0])
      have cge := Lib.hid (show w.heap.size ≤ w1.heap.size from hb1.size)
      clear hb1 q1 q2
      go_wp2_with fail
      generalize w1.heap.size = gc at *
      generalize hgl : w1.alloc (.cells #[.int .u64 (g + 1), .int .i64 room, .int .u64 0, .int .u64 0] 27) = wl at *
      clear hgl
      go_loopw [0, 10, 11] (fun gv lv iv wr => ∃ k : Nat, k ≤ n ∧ ∃ (G last : Int) (c : Cur), gv = .int .u64 G ∧ lv = .int .u64 last ∧ iv = .int .i64 k ∧ G ≤ g + 40 * (k : Int) ∧ SumSt g room c G last ∧ Blk wr gc 27 #[.int .u64 c.next, .int .i64 c.cap, .int .u64 c.got, .int .u64 c.lost] ∧ Below w.heap.size w wr) (fun _ _ i _ => n - (intOf i).toNat)
      case atStart => exact ⟨0, by omega, g, g, ⟨g + 1, room, 0, 0⟩, rfl, rfl, rfl, by omega, SUM0.out, BC0.out, L1.out⟩
      case round =>
        obtain ⟨k, hk, G, last, c, rfl, rfl, rfl, hGk, hst, hbc, hbl⟩ := hrel
        have ST := Lib.hid hst
        have BC := Lib.hid hbc
        have L0 := Lib.hid hbl
        have hG0 := hst.g0

        clear hst hbc hbl
        by_cases hlt : k < n
        · obtain ⟨b, o, rfl, hb, hcc⟩ := HF.out (by omega)
          have HC := Lib.hid (hcc k hlt)
          clear hcc
          have hby0 := (HALL.out k hlt).1
          have hby1 := (HALL.out k hlt).2
          have hkk := (HOK.out k hlt).kind
          have hi0 : (0 : Int) ≤ (k : Int) := by omega
          have hi1 : (k : Int) < (n : Int) := by omega
          have hd1 : decide ((k : Int) < (n : Int)) = true := decide_eq_true hi1
          have hG1 : G ≤ 9223372036854775766 := by omega
          have cge0 := cge
          have cq0 := BC.out.cell 0
          have cq1 := BC.out.cell 1
          have cq2 := BC.out.cell 2
          have cq3 := BC.out.cell 3
          simp only [List.getElem?_toArray, List.getElem?_cons_succ, List.getElem?_cons_zero] at cq0 cq1 cq2 cq3
          have ck := (L0.out.cell (p := ⟨b, o + k * 2, none⟩) hb).trans HC.out.1
          have cb := (L0.out.cell (p := ⟨b, o + k * 2 + 1, none⟩) hb).trans HC.out.2
          have age := Lib.hid (show w.heap.size ≤ wr.heap.size from L0.out.size)
          have cn1 : ¬ gc = wr.heap.size := by have := BC.out.lt; omega
          have cane := Lib.hid cn1
          have cn2 : gc < wr.heap.size := BC.out.lt
          have bn1 : ¬ b = wr.heap.size := by have := age.out; omega
          have bn2 : b < wr.heap.size := by have := age.out; omega
          have Ac100 := Lib.hid (BC.out.alloc (.cells #[.int .u64 c.next, .int .i64 c.cap, .int .u64 c.got, .int .u64 c.lost] 27))
          have Aa100 := Lib.hid (Blk.new wr 27 #[.int .u64 c.next, .int .i64 c.cap, .int .u64 c.got, .int .u64 c.lost])
          have M100 := Lib.hid (L0.out.alloc L0.out.size (.cells #[.int .u64 c.next, .int .i64 c.cap, .int .u64 c.got, .int .u64 c.lost] 27))
          clear BC L0
          have hkd : ((l k).kind == 0) = true ∨ (((l k).kind == 0) = false ∧ ((l k).kind == 1) = true) ∨ (((l k).kind == 0) = false ∧ ((l k).kind == 1) = false) := by
            cases h0 : ((l k).kind == 0) <;> cases h1 : ((l k).kind == 1) <;> simp_all
          rcases hkd with q0 | ⟨q0, q1⟩ | ⟨q0, q1⟩
          · have q1 : ((l k).kind == 1) = false := by simp at q0 ⊢; omega
            have HG0 := Lib.hid (show G + (l k).by_ ≤ g + 40 * ((k + 1 : Nat) : Int) by push_cast; omega)
            have ST0 := Lib.hid (ST.out.more hby0 (by omega))
            obtain ⟨D, nn, hD, hnn, hSD, hgt, hls, hn0, hn1, S2, K2, K3⟩ := tail_facts ST0.out
            unfold Cur.val at S2 K2 K3
            have HS2 := Lib.hid S2
            have HK2 := Lib.hid K2
            have HK3 := Lib.hid K3
            clear S2 K2 K3
            have dg0 := hSD.ok.got.1
            have dl0 := hSD.ok.lost.1
            have dsm := hSD.sum
            have dtop := hSD.top
            have p1 : decide (nn < 0) = false := decide_eq_false (by omega)
            have p2 : decide (room < nn) = false := decide_eq_false (by omega)
            have p3 : (nn != nn) = false := by simp
            have p4 : (D.got + D.lost + nn != (G + (l k).by_) - g) = false := by simp; omega
            have b3 : D.got + D.lost + nn ≤ 9223372036854775807 := by omega
            have b4 : g ≤ (G + (l k).by_) := by omega
            have b5 : (G + (l k).by_) < 9223372036854775807 := dtop
            have b6 : nn ≤ 15 := by omega
            have HLS := Lib.hid hls
            clear hD hnn hgt hls dsm dtop
            have hSD2 := Lib.hid hSD
            clear hSD
            by_cases hl : D.lost = c.lost
            · have p5 : (D.lost != c.lost) = false := by rw [hl]; simp
              clear hl
              go_wp2_with fail
              refine (HS2.out _).mono ?_; rintro e wq1 ⟨rfl, hb1⟩
              have Bc1 := Lib.hid (Ac100.out.bl hb1)
              have Ba1 := Lib.hid (Aa100.out.bl hb1)
              have L1 := Lib.hid (bl M100.out hb1)
              clear cq0 cq1 cq2 cq3 ck cb cn1 cn2 bn1 bn2
              clear hb1 Ac100 Aa100 M100
              generalize wr.heap.size = ga at age cane Ba1 ⊢
              have cq0 := Bc1.out.cell 0
              have cq1 := Bc1.out.cell 1
              have cq2 := Bc1.out.cell 2
              have cq3 := Bc1.out.cell 3
              simp only [List.getElem?_toArray, List.getElem?_cons_succ, List.getElem?_cons_zero] at cq0 cq1 cq2 cq3
              have aq0 := Ba1.out.cell 0
              have aq1 := Ba1.out.cell 1
              have aq2 := Ba1.out.cell 2
              have aq3 := Ba1.out.cell 3
              simp only [List.getElem?_toArray, List.getElem?_cons_succ, List.getElem?_cons_zero] at aq0 aq1 aq2 aq3
              have ck := (L1.out.cell (p := ⟨b, o + k * 2, none⟩) hb).trans HC.out.1
              have cb := (L1.out.cell (p := ⟨b, o + k * 2 + 1, none⟩) hb).trans HC.out.2
              have dge := Lib.hid (show w.heap.size ≤ wq1.heap.size from L1.out.size)
              have cn1 : ¬ gc = wq1.heap.size := by have := Bc1.out.lt; omega
              have cdne := Lib.hid cn1
              have cn2 : gc < wq1.heap.size := Bc1.out.lt
              have an1 : ¬ ga = wq1.heap.size := by have := Ba1.out.lt; omega
              have adne := Lib.hid an1
              have an2 : ga < wq1.heap.size := Ba1.out.lt
              have bn1 : ¬ b = wq1.heap.size := by have := dge.out; omega
              have bn2 : b < wq1.heap.size := by have := dge.out; omega
              have Ac1 := Lib.hid (Bc1.out.alloc (.cells #[.int .u64 D.next, .int .i64 D.cap, .int .u64 D.got, .int .u64 D.lost] 27))
              have Aa1 := Lib.hid (Ba1.out.alloc (.cells #[.int .u64 D.next, .int .i64 D.cap, .int .u64 D.got, .int .u64 D.lost] 27))
              have Ad1 := Lib.hid (Blk.new wq1 27 #[.int .u64 D.next, .int .i64 D.cap, .int .u64 D.got, .int .u64 D.lost])
              have M1 := Lib.hid (L1.out.alloc L1.out.size (.cells #[.int .u64 D.next, .int .i64 D.cap, .int .u64 D.got, .int .u64 D.lost] 27))
              clear Bc1 Ba1 L1
              go_wp2_with fail
              refine (HK2.out _).mono ?_; rintro e wq2 ⟨rfl, hb2⟩
              have Bc2 := Lib.hid (Ac1.out.bl hb2)
              have Ba2 := Lib.hid (Aa1.out.bl hb2)
              have Bd2 := Lib.hid (Ad1.out.bl hb2)
              have L2 := Lib.hid (bl M1.out hb2)
              clear cq0 cq1 cq2 cq3 aq0 aq1 aq2 aq3 ck cb cn1 cn2 an1 an2 bn1 bn2
              clear hb2 Ac1 Aa1 Ad1 M1
              generalize wq1.heap.size = gd at dge cdne adne Bd2 ⊢
              have cq0 := Bc2.out.cell 0
              have cq1 := Bc2.out.cell 1
              have cq2 := Bc2.out.cell 2
              have cq3 := Bc2.out.cell 3
              simp only [List.getElem?_toArray, List.getElem?_cons_succ, List.getElem?_cons_zero] at cq0 cq1 cq2 cq3
              have aq0 := Ba2.out.cell 0
              have aq1 := Ba2.out.cell 1
              have aq2 := Ba2.out.cell 2
              have aq3 := Ba2.out.cell 3
              simp only [List.getElem?_toArray, List.getElem?_cons_succ, List.getElem?_cons_zero] at aq0 aq1 aq2 aq3
              have dq0 := Bd2.out.cell 0
              have dq1 := Bd2.out.cell 1
              have dq2 := Bd2.out.cell 2
              have dq3 := Bd2.out.cell 3
              simp only [List.getElem?_toArray, List.getElem?_cons_succ, List.getElem?_cons_zero] at dq0 dq1 dq2 dq3
              have ck := (L2.out.cell (p := ⟨b, o + k * 2, none⟩) hb).trans HC.out.1
              have cb := (L2.out.cell (p := ⟨b, o + k * 2 + 1, none⟩) hb).trans HC.out.2
              go_wp2_with fail
              refine (HK3.out _).mono ?_; rintro e wq3 ⟨rfl, hb3⟩
              have Bc3 := Lib.hid (Bc2.out.bl hb3)
              have Ba3 := Lib.hid (Ba2.out.bl hb3)
              have Bd3 := Lib.hid (Bd2.out.bl hb3)
              have L3 := Lib.hid (bl L2.out hb3)
              clear cq0 cq1 cq2 cq3 aq0 aq1 aq2 aq3 dq0 dq1 dq2 dq3 ck cb
              clear hb3 Bc2 Ba2 Bd2 L2
              have cq0 := Bc3.out.cell 0
              have cq1 := Bc3.out.cell 1
              have cq2 := Bc3.out.cell 2
              have cq3 := Bc3.out.cell 3
              simp only [List.getElem?_toArray, List.getElem?_cons_succ, List.getElem?_cons_zero] at cq0 cq1 cq2 cq3
              have aq0 := Ba3.out.cell 0
              have aq1 := Ba3.out.cell 1
              have aq2 := Ba3.out.cell 2
              have aq3 := Ba3.out.cell 3
              simp only [List.getElem?_toArray, List.getElem?_cons_succ, List.getElem?_cons_zero] at aq0 aq1 aq2 aq3
              have dq0 := Bd3.out.cell 0
              have dq1 := Bd3.out.cell 1
              have dq2 := Bd3.out.cell 2
              have dq3 := Bd3.out.cell 3
              simp only [List.getElem?_toArray, List.getElem?_cons_succ, List.getElem?_cons_zero] at dq0 dq1 dq2 dq3
              have ck := (L3.out.cell (p := ⟨b, o + k * 2, none⟩) hb).trans HC.out.1
              have cb := (L3.out.cell (p := ⟨b, o + k * 2 + 1, none⟩) hb).trans HC.out.2
              go_wp2_with fail
              go_roundw
              case rel => exact ⟨k + 1, by omega, (G + (l k).by_), last, c, rfl, rfl, by go_num, HG0.out, ST0.out, Bc3.out, L3.out⟩
              case measure => simp [intOf]; omega
            · have HLEQ : D.lost ≠ c.lost := hl
              have p5 : (D.lost != c.lost) = true := by simp; exact hl
              have p6 : ((l k).kind != 1) = true := by simpa using q1
              have p7 : (nn != room) = false := by rw [HLS.out HLEQ]; simp
              clear hl HLEQ
              go_wp2_with fail
              refine (HS2.out _).mono ?_; rintro e wq1 ⟨rfl, hb1⟩
              have Bc1 := Lib.hid (Ac100.out.bl hb1)
              have Ba1 := Lib.hid (Aa100.out.bl hb1)
              have L1 := Lib.hid (bl M100.out hb1)
              clear cq0 cq1 cq2 cq3 ck cb cn1 cn2 bn1 bn2
              clear hb1 Ac100 Aa100 M100
              generalize wr.heap.size = ga at age cane Ba1 ⊢
              have cq0 := Bc1.out.cell 0
              have cq1 := Bc1.out.cell 1
              have cq2 := Bc1.out.cell 2
              have cq3 := Bc1.out.cell 3
              simp only [List.getElem?_toArray, List.getElem?_cons_succ, List.getElem?_cons_zero] at cq0 cq1 cq2 cq3
              have aq0 := Ba1.out.cell 0
              have aq1 := Ba1.out.cell 1
              have aq2 := Ba1.out.cell 2
              have aq3 := Ba1.out.cell 3
              simp only [List.getElem?_toArray, List.getElem?_cons_succ, List.getElem?_cons_zero] at aq0 aq1 aq2 aq3
              have ck := (L1.out.cell (p := ⟨b, o + k * 2, none⟩) hb).trans HC.out.1
              have cb := (L1.out.cell (p := ⟨b, o + k * 2 + 1, none⟩) hb).trans HC.out.2
              have dge := Lib.hid (show w.heap.size ≤ wq1.heap.size from L1.out.size)
              have cn1 : ¬ gc = wq1.heap.size := by have := Bc1.out.lt; omega
              have cdne := Lib.hid cn1
              have cn2 : gc < wq1.heap.size := Bc1.out.lt
              have an1 : ¬ ga = wq1.heap.size := by have := Ba1.out.lt; omega
              have adne := Lib.hid an1
              have an2 : ga < wq1.heap.size := Ba1.out.lt
              have bn1 : ¬ b = wq1.heap.size := by have := dge.out; omega
              have bn2 : b < wq1.heap.size := by have := dge.out; omega
              have Ac1 := Lib.hid (Bc1.out.alloc (.cells #[.int .u64 D.next, .int .i64 D.cap, .int .u64 D.got, .int .u64 D.lost] 27))
              have Aa1 := Lib.hid (Ba1.out.alloc (.cells #[.int .u64 D.next, .int .i64 D.cap, .int .u64 D.got, .int .u64 D.lost] 27))
              have Ad1 := Lib.hid (Blk.new wq1 27 #[.int .u64 D.next, .int .i64 D.cap, .int .u64 D.got, .int .u64 D.lost])
              have M1 := Lib.hid (L1.out.alloc L1.out.size (.cells #[.int .u64 D.next, .int .i64 D.cap, .int .u64 D.got, .int .u64 D.lost] 27))
              clear Bc1 Ba1 L1
              go_wp2_with fail
              refine (HK2.out _).mono ?_; rintro e wq2 ⟨rfl, hb2⟩
              have Bc2 := Lib.hid (Ac1.out.bl hb2)
              have Ba2 := Lib.hid (Aa1.out.bl hb2)
              have Bd2 := Lib.hid (Ad1.out.bl hb2)
              have L2 := Lib.hid (bl M1.out hb2)
              clear cq0 cq1 cq2 cq3 aq0 aq1 aq2 aq3 ck cb cn1 cn2 an1 an2 bn1 bn2
              clear hb2 Ac1 Aa1 Ad1 M1
              generalize wq1.heap.size = gd at dge cdne adne Bd2 ⊢
              have cq0 := Bc2.out.cell 0
              have cq1 := Bc2.out.cell 1
              have cq2 := Bc2.out.cell 2
              have cq3 := Bc2.out.cell 3
              simp only [List.getElem?_toArray, List.getElem?_cons_succ, List.getElem?_cons_zero] at cq0 cq1 cq2 cq3
              have aq0 := Ba2.out.cell 0
              have aq1 := Ba2.out.cell 1
              have aq2 := Ba2.out.cell 2
              have aq3 := Ba2.out.cell 3
              simp only [List.getElem?_toArray, List.getElem?_cons_succ, List.getElem?_cons_zero] at aq0 aq1 aq2 aq3
              have dq0 := Bd2.out.cell 0
              have dq1 := Bd2.out.cell 1
              have dq2 := Bd2.out.cell 2
              have dq3 := Bd2.out.cell 3
              simp only [List.getElem?_toArray, List.getElem?_cons_succ, List.getElem?_cons_zero] at dq0 dq1 dq2 dq3
              have ck := (L2.out.cell (p := ⟨b, o + k * 2, none⟩) hb).trans HC.out.1
              have cb := (L2.out.cell (p := ⟨b, o + k * 2 + 1, none⟩) hb).trans HC.out.2
              go_wp2_with fail
              refine (HK3.out _).mono ?_; rintro e wq3 ⟨rfl, hb3⟩
              have Bc3 := Lib.hid (Bc2.out.bl hb3)
              have Ba3 := Lib.hid (Ba2.out.bl hb3)
              have Bd3 := Lib.hid (Bd2.out.bl hb3)
              have L3 := Lib.hid (bl L2.out hb3)
              clear cq0 cq1 cq2 cq3 aq0 aq1 aq2 aq3 dq0 dq1 dq2 dq3 ck cb
              clear hb3 Bc2 Ba2 Bd2 L2
              have cq0 := Bc3.out.cell 0
              have cq1 := Bc3.out.cell 1
              have cq2 := Bc3.out.cell 2
              have cq3 := Bc3.out.cell 3
              simp only [List.getElem?_toArray, List.getElem?_cons_succ, List.getElem?_cons_zero] at cq0 cq1 cq2 cq3
              have aq0 := Ba3.out.cell 0
              have aq1 := Ba3.out.cell 1
              have aq2 := Ba3.out.cell 2
              have aq3 := Ba3.out.cell 3
              simp only [List.getElem?_toArray, List.getElem?_cons_succ, List.getElem?_cons_zero] at aq0 aq1 aq2 aq3
              have dq0 := Bd3.out.cell 0
              have dq1 := Bd3.out.cell 1
              have dq2 := Bd3.out.cell 2
              have dq3 := Bd3.out.cell 3
              simp only [List.getElem?_toArray, List.getElem?_cons_succ, List.getElem?_cons_zero] at dq0 dq1 dq2 dq3
              have ck := (L3.out.cell (p := ⟨b, o + k * 2, none⟩) hb).trans HC.out.1
              have cb := (L3.out.cell (p := ⟨b, o + k * 2 + 1, none⟩) hb).trans HC.out.2
              go_wp2_with fail
              go_roundw
              case rel => exact ⟨k + 1, by omega, (G + (l k).by_), last, c, rfl, rfl, by go_num, HG0.out, ST0.out, Bc3.out, L3.out⟩
              case measure => simp [intOf]; omega
          · obtain ⟨D0, nn0, hD0, hnn0, hS0, hgt0, hls0, hm0, hm1, S0, K0, _⟩ := tail_facts ST.out
            have HG1 := Lib.hid (show G ≤ g + 40 * ((k + 1 : Nat) : Int) by push_cast; omega)
            have HD0 := Lib.hid hD0
            have HST0 := Lib.hid hS0
            have d0 := hS0.ok.next.1
            clear S0 hls0 hgt0 hD0
            have dcap := hS0.right.1.2
            have dcp := hS0.cap
            clear hS0
            by_cases hz : nn0 = 0
            · subst hz
              have NT := none_facts ST.out HD0.out hnn0
              unfold Cur.val at NT K0
              have HNT := Lib.hid NT
              have HK0 := Lib.hid K0
              clear NT K0 hnn0 hm0 hm1 dcap dcp d0
              go_wp2_with fail
              refine (HK0.out _).mono ?_; rintro e wq1 ⟨rfl, hb1⟩
              have Bc1 := Lib.hid (Ac100.out.bl hb1)
              have Ba1 := Lib.hid (Aa100.out.bl hb1)
              have L1 := Lib.hid (bl M100.out hb1)
              clear cq0 cq1 cq2 cq3 ck cb cn1 cn2 bn1 bn2
              clear hb1 Ac100 Aa100 M100
              generalize wr.heap.size = ga at age cane Ba1 ⊢
              have cq0 := Bc1.out.cell 0
              have cq1 := Bc1.out.cell 1
              have cq2 := Bc1.out.cell 2
              have cq3 := Bc1.out.cell 3
              simp only [List.getElem?_toArray, List.getElem?_cons_succ, List.getElem?_cons_zero] at cq0 cq1 cq2 cq3
              have aq0 := Ba1.out.cell 0
              have aq1 := Ba1.out.cell 1
              have aq2 := Ba1.out.cell 2
              have aq3 := Ba1.out.cell 3
              simp only [List.getElem?_toArray, List.getElem?_cons_succ, List.getElem?_cons_zero] at aq0 aq1 aq2 aq3
              have ck := (L1.out.cell (p := ⟨b, o + k * 2, none⟩) hb).trans HC.out.1
              have cb := (L1.out.cell (p := ⟨b, o + k * 2 + 1, none⟩) hb).trans HC.out.2
              go_wp2_with fail
              refine (HNT.out _).mono ?_; rintro e wq2 ⟨rfl, hb2⟩
              have Bc2 := Lib.hid (Bc1.out.bl hb2)
              have Ba2 := Lib.hid (Ba1.out.bl hb2)
              have L2 := Lib.hid (bl L1.out hb2)
              clear cq0 cq1 cq2 cq3 aq0 aq1 aq2 aq3 ck cb
              clear hb2 Bc1 Ba1 L1
              have cq0 := Bc2.out.cell 0
              have cq1 := Bc2.out.cell 1
              have cq2 := Bc2.out.cell 2
              have cq3 := Bc2.out.cell 3
              simp only [List.getElem?_toArray, List.getElem?_cons_succ, List.getElem?_cons_zero] at cq0 cq1 cq2 cq3
              have aq0 := Ba2.out.cell 0
              have aq1 := Ba2.out.cell 1
              have aq2 := Ba2.out.cell 2
              have aq3 := Ba2.out.cell 3
              simp only [List.getElem?_toArray, List.getElem?_cons_succ, List.getElem?_cons_zero] at aq0 aq1 aq2 aq3
              have ck := (L2.out.cell (p := ⟨b, o + k * 2, none⟩) hb).trans HC.out.1
              have cb := (L2.out.cell (p := ⟨b, o + k * 2 + 1, none⟩) hb).trans HC.out.2
              have tge := Lib.hid (show w.heap.size ≤ wq2.heap.size from L2.out.size)
              have cn1 : ¬ gc = wq2.heap.size := by have := Bc2.out.lt; omega
              have ctne := Lib.hid cn1
              have cn2 : gc < wq2.heap.size := Bc2.out.lt
              have an1 : ¬ ga = wq2.heap.size := by have := Ba2.out.lt; omega
              have atne := Lib.hid an1
              have an2 : ga < wq2.heap.size := Ba2.out.lt
              have bn1 : ¬ b = wq2.heap.size := by have := tge.out; omega
              have bn2 : b < wq2.heap.size := by have := tge.out; omega
              have Ac2 := Lib.hid (Bc2.out.alloc (.cells #[.int .u64 0, .int .i64 0, .int .u64 0, .int .u64 0] 27))
              have Aa2 := Lib.hid (Ba2.out.alloc (.cells #[.int .u64 0, .int .i64 0, .int .u64 0, .int .u64 0] 27))
              have At2 := Lib.hid (Blk.new wq2 27 #[.int .u64 0, .int .i64 0, .int .u64 0, .int .u64 0])
              have M2 := Lib.hid (L2.out.alloc L2.out.size (.cells #[.int .u64 0, .int .i64 0, .int .u64 0, .int .u64 0] 27))
              clear Bc2 Ba2 L2
              obtain ⟨D, nn, hD, hnn, hSD, hgt, hls, hn0, hn1, S2, K2, K3⟩ := tail_facts ST.out
              unfold Cur.val at S2 K2 K3
              have HS2 := Lib.hid S2
              have HK2 := Lib.hid K2
              have HK3 := Lib.hid K3
              clear S2 K2 K3
              have dg0 := hSD.ok.got.1
              have dl0 := hSD.ok.lost.1
              have dsm := hSD.sum
              have dtop := hSD.top
              have p1 : decide (nn < 0) = false := decide_eq_false (by omega)
              have p2 : decide (room < nn) = false := decide_eq_false (by omega)
              have p3 : (nn != nn) = false := by simp
              have p4 : (D.got + D.lost + nn != G - g) = false := by simp; omega
              have b3 : D.got + D.lost + nn ≤ 9223372036854775807 := by omega
              have b4 : g ≤ G := by omega
              have b5 : G < 9223372036854775807 := dtop
              have b6 : nn ≤ 15 := by omega
              have HLS := Lib.hid hls
              clear hD hnn hgt hls dsm dtop
              have hSD2 := Lib.hid hSD
              clear hSD
              by_cases hl : D.lost = c.lost
              · have p5 : (D.lost != c.lost) = false := by rw [hl]; simp
                clear hl
                go_wp2_with fail
                refine (HS2.out _).mono ?_; rintro e wq3 ⟨rfl, hb3⟩
                have Bc3 := Lib.hid (Ac2.out.bl hb3)
                have Ba3 := Lib.hid (Aa2.out.bl hb3)
                have Bt3 := Lib.hid (At2.out.bl hb3)
                have L3 := Lib.hid (bl M2.out hb3)
                clear cq0 cq1 cq2 cq3 aq0 aq1 aq2 aq3 ck cb cn1 cn2 an1 an2 bn1 bn2
                clear hb3 Ac2 Aa2 At2 M2
                generalize wq2.heap.size = gt at tge ctne atne Bt3 ⊢
                have cq0 := Bc3.out.cell 0
                have cq1 := Bc3.out.cell 1
                have cq2 := Bc3.out.cell 2
                have cq3 := Bc3.out.cell 3
                simp only [List.getElem?_toArray, List.getElem?_cons_succ, List.getElem?_cons_zero] at cq0 cq1 cq2 cq3
                have aq0 := Ba3.out.cell 0
                have aq1 := Ba3.out.cell 1
                have aq2 := Ba3.out.cell 2
                have aq3 := Ba3.out.cell 3
                simp only [List.getElem?_toArray, List.getElem?_cons_succ, List.getElem?_cons_zero] at aq0 aq1 aq2 aq3
                have tq0 := Bt3.out.cell 0
                have tq1 := Bt3.out.cell 1
                have tq2 := Bt3.out.cell 2
                have tq3 := Bt3.out.cell 3
                simp only [List.getElem?_toArray, List.getElem?_cons_succ, List.getElem?_cons_zero] at tq0 tq1 tq2 tq3
                have ck := (L3.out.cell (p := ⟨b, o + k * 2, none⟩) hb).trans HC.out.1
                have cb := (L3.out.cell (p := ⟨b, o + k * 2 + 1, none⟩) hb).trans HC.out.2
                have dge := Lib.hid (show w.heap.size ≤ wq3.heap.size from L3.out.size)
                have cn1 : ¬ gc = wq3.heap.size := by have := Bc3.out.lt; omega
                have cdne := Lib.hid cn1
                have cn2 : gc < wq3.heap.size := Bc3.out.lt
                have an1 : ¬ ga = wq3.heap.size := by have := Ba3.out.lt; omega
                have adne := Lib.hid an1
                have an2 : ga < wq3.heap.size := Ba3.out.lt
                have tn1 : ¬ gt = wq3.heap.size := by have := Bt3.out.lt; omega
                have tdne := Lib.hid tn1
                have tn2 : gt < wq3.heap.size := Bt3.out.lt
                have bn1 : ¬ b = wq3.heap.size := by have := dge.out; omega
                have bn2 : b < wq3.heap.size := by have := dge.out; omega
                have Ac3 := Lib.hid (Bc3.out.alloc (.cells #[.int .u64 D.next, .int .i64 D.cap, .int .u64 D.got, .int .u64 D.lost] 27))
                have Aa3 := Lib.hid (Ba3.out.alloc (.cells #[.int .u64 D.next, .int .i64 D.cap, .int .u64 D.got, .int .u64 D.lost] 27))
                have At3 := Lib.hid (Bt3.out.alloc (.cells #[.int .u64 D.next, .int .i64 D.cap, .int .u64 D.got, .int .u64 D.lost] 27))
                have Ad3 := Lib.hid (Blk.new wq3 27 #[.int .u64 D.next, .int .i64 D.cap, .int .u64 D.got, .int .u64 D.lost])
                have M3 := Lib.hid (L3.out.alloc L3.out.size (.cells #[.int .u64 D.next, .int .i64 D.cap, .int .u64 D.got, .int .u64 D.lost] 27))
                clear Bc3 Ba3 Bt3 L3
                go_wp2_with fail
                refine (HK2.out _).mono ?_; rintro e wq4 ⟨rfl, hb4⟩
                have Bc4 := Lib.hid (Ac3.out.bl hb4)
                have Ba4 := Lib.hid (Aa3.out.bl hb4)
                have Bt4 := Lib.hid (At3.out.bl hb4)
                have Bd4 := Lib.hid (Ad3.out.bl hb4)
                have L4 := Lib.hid (bl M3.out hb4)
                clear cq0 cq1 cq2 cq3 aq0 aq1 aq2 aq3 tq0 tq1 tq2 tq3 ck cb cn1 cn2 an1 an2 tn1 tn2 bn1 bn2
                clear hb4 Ac3 Aa3 At3 Ad3 M3
                generalize wq3.heap.size = gd at dge cdne adne tdne Bd4 ⊢
                have cq0 := Bc4.out.cell 0
                have cq1 := Bc4.out.cell 1
                have cq2 := Bc4.out.cell 2
                have cq3 := Bc4.out.cell 3
                simp only [List.getElem?_toArray, List.getElem?_cons_succ, List.getElem?_cons_zero] at cq0 cq1 cq2 cq3
                have aq0 := Ba4.out.cell 0
                have aq1 := Ba4.out.cell 1
                have aq2 := Ba4.out.cell 2
                have aq3 := Ba4.out.cell 3
                simp only [List.getElem?_toArray, List.getElem?_cons_succ, List.getElem?_cons_zero] at aq0 aq1 aq2 aq3
                have tq0 := Bt4.out.cell 0
                have tq1 := Bt4.out.cell 1
                have tq2 := Bt4.out.cell 2
                have tq3 := Bt4.out.cell 3
                simp only [List.getElem?_toArray, List.getElem?_cons_succ, List.getElem?_cons_zero] at tq0 tq1 tq2 tq3
                have dq0 := Bd4.out.cell 0
                have dq1 := Bd4.out.cell 1
                have dq2 := Bd4.out.cell 2
                have dq3 := Bd4.out.cell 3
                simp only [List.getElem?_toArray, List.getElem?_cons_succ, List.getElem?_cons_zero] at dq0 dq1 dq2 dq3
                have ck := (L4.out.cell (p := ⟨b, o + k * 2, none⟩) hb).trans HC.out.1
                have cb := (L4.out.cell (p := ⟨b, o + k * 2 + 1, none⟩) hb).trans HC.out.2
                go_wp2_with fail
                refine (HK3.out _).mono ?_; rintro e wq5 ⟨rfl, hb5⟩
                have Bc5 := Lib.hid (Bc4.out.bl hb5)
                have Ba5 := Lib.hid (Ba4.out.bl hb5)
                have Bt5 := Lib.hid (Bt4.out.bl hb5)
                have Bd5 := Lib.hid (Bd4.out.bl hb5)
                have L5 := Lib.hid (bl L4.out hb5)
                clear cq0 cq1 cq2 cq3 aq0 aq1 aq2 aq3 tq0 tq1 tq2 tq3 dq0 dq1 dq2 dq3 ck cb
                clear hb5 Bc4 Ba4 Bt4 Bd4 L4
                have cq0 := Bc5.out.cell 0
                have cq1 := Bc5.out.cell 1
                have cq2 := Bc5.out.cell 2
                have cq3 := Bc5.out.cell 3
                simp only [List.getElem?_toArray, List.getElem?_cons_succ, List.getElem?_cons_zero] at cq0 cq1 cq2 cq3
                have aq0 := Ba5.out.cell 0
                have aq1 := Ba5.out.cell 1
                have aq2 := Ba5.out.cell 2
                have aq3 := Ba5.out.cell 3
                simp only [List.getElem?_toArray, List.getElem?_cons_succ, List.getElem?_cons_zero] at aq0 aq1 aq2 aq3
                have tq0 := Bt5.out.cell 0
                have tq1 := Bt5.out.cell 1
                have tq2 := Bt5.out.cell 2
                have tq3 := Bt5.out.cell 3
                simp only [List.getElem?_toArray, List.getElem?_cons_succ, List.getElem?_cons_zero] at tq0 tq1 tq2 tq3
                have dq0 := Bd5.out.cell 0
                have dq1 := Bd5.out.cell 1
                have dq2 := Bd5.out.cell 2
                have dq3 := Bd5.out.cell 3
                simp only [List.getElem?_toArray, List.getElem?_cons_succ, List.getElem?_cons_zero] at dq0 dq1 dq2 dq3
                have ck := (L5.out.cell (p := ⟨b, o + k * 2, none⟩) hb).trans HC.out.1
                have cb := (L5.out.cell (p := ⟨b, o + k * 2 + 1, none⟩) hb).trans HC.out.2
                go_wp2_with fail
                go_roundw
                case rel => exact ⟨k + 1, by omega, G, last, c, rfl, rfl, by go_num, HG1.out, ST.out, Bc5.out, L5.out⟩
                case measure => simp [intOf]; omega
              · have p5 : (D.lost != c.lost) = true := by simp; exact hl
                have p6 : ((l k).kind != 1) = false := by simpa using q1
                clear hl
                go_wp2_with fail
                refine (HS2.out _).mono ?_; rintro e wq3 ⟨rfl, hb3⟩
                have Bc3 := Lib.hid (Ac2.out.bl hb3)
                have Ba3 := Lib.hid (Aa2.out.bl hb3)
                have Bt3 := Lib.hid (At2.out.bl hb3)
                have L3 := Lib.hid (bl M2.out hb3)
                clear cq0 cq1 cq2 cq3 aq0 aq1 aq2 aq3 ck cb cn1 cn2 an1 an2 bn1 bn2
                clear hb3 Ac2 Aa2 At2 M2
                generalize wq2.heap.size = gt at tge ctne atne Bt3 ⊢
                have cq0 := Bc3.out.cell 0
                have cq1 := Bc3.out.cell 1
                have cq2 := Bc3.out.cell 2
                have cq3 := Bc3.out.cell 3
                simp only [List.getElem?_toArray, List.getElem?_cons_succ, List.getElem?_cons_zero] at cq0 cq1 cq2 cq3
                have aq0 := Ba3.out.cell 0
                have aq1 := Ba3.out.cell 1
                have aq2 := Ba3.out.cell 2
                have aq3 := Ba3.out.cell 3
                simp only [List.getElem?_toArray, List.getElem?_cons_succ, List.getElem?_cons_zero] at aq0 aq1 aq2 aq3
                have tq0 := Bt3.out.cell 0
                have tq1 := Bt3.out.cell 1
                have tq2 := Bt3.out.cell 2
                have tq3 := Bt3.out.cell 3
                simp only [List.getElem?_toArray, List.getElem?_cons_succ, List.getElem?_cons_zero] at tq0 tq1 tq2 tq3
                have ck := (L3.out.cell (p := ⟨b, o + k * 2, none⟩) hb).trans HC.out.1
                have cb := (L3.out.cell (p := ⟨b, o + k * 2 + 1, none⟩) hb).trans HC.out.2
                have dge := Lib.hid (show w.heap.size ≤ wq3.heap.size from L3.out.size)
                have cn1 : ¬ gc = wq3.heap.size := by have := Bc3.out.lt; omega
                have cdne := Lib.hid cn1
                have cn2 : gc < wq3.heap.size := Bc3.out.lt
                have an1 : ¬ ga = wq3.heap.size := by have := Ba3.out.lt; omega
                have adne := Lib.hid an1
                have an2 : ga < wq3.heap.size := Ba3.out.lt
                have tn1 : ¬ gt = wq3.heap.size := by have := Bt3.out.lt; omega
                have tdne := Lib.hid tn1
                have tn2 : gt < wq3.heap.size := Bt3.out.lt
                have bn1 : ¬ b = wq3.heap.size := by have := dge.out; omega
                have bn2 : b < wq3.heap.size := by have := dge.out; omega
                have Ac3 := Lib.hid (Bc3.out.alloc (.cells #[.int .u64 D.next, .int .i64 D.cap, .int .u64 D.got, .int .u64 D.lost] 27))
                have Aa3 := Lib.hid (Ba3.out.alloc (.cells #[.int .u64 D.next, .int .i64 D.cap, .int .u64 D.got, .int .u64 D.lost] 27))
                have At3 := Lib.hid (Bt3.out.alloc (.cells #[.int .u64 D.next, .int .i64 D.cap, .int .u64 D.got, .int .u64 D.lost] 27))
                have Ad3 := Lib.hid (Blk.new wq3 27 #[.int .u64 D.next, .int .i64 D.cap, .int .u64 D.got, .int .u64 D.lost])
                have M3 := Lib.hid (L3.out.alloc L3.out.size (.cells #[.int .u64 D.next, .int .i64 D.cap, .int .u64 D.got, .int .u64 D.lost] 27))
                clear Bc3 Ba3 Bt3 L3
                go_wp2_with fail
                refine (HK2.out _).mono ?_; rintro e wq4 ⟨rfl, hb4⟩
                have Bc4 := Lib.hid (Ac3.out.bl hb4)
                have Ba4 := Lib.hid (Aa3.out.bl hb4)
                have Bt4 := Lib.hid (At3.out.bl hb4)
                have Bd4 := Lib.hid (Ad3.out.bl hb4)
                have L4 := Lib.hid (bl M3.out hb4)
                clear cq0 cq1 cq2 cq3 aq0 aq1 aq2 aq3 tq0 tq1 tq2 tq3 ck cb cn1 cn2 an1 an2 tn1 tn2 bn1 bn2
                clear hb4 Ac3 Aa3 At3 Ad3 M3
                generalize wq3.heap.size = gd at dge cdne adne tdne Bd4 ⊢
                have cq0 := Bc4.out.cell 0
                have cq1 := Bc4.out.cell 1
                have cq2 := Bc4.out.cell 2
                have cq3 := Bc4.out.cell 3
                simp only [List.getElem?_toArray, List.getElem?_cons_succ, List.getElem?_cons_zero] at cq0 cq1 cq2 cq3
                have aq0 := Ba4.out.cell 0
                have aq1 := Ba4.out.cell 1
                have aq2 := Ba4.out.cell 2
                have aq3 := Ba4.out.cell 3
                simp only [List.getElem?_toArray, List.getElem?_cons_succ, List.getElem?_cons_zero] at aq0 aq1 aq2 aq3
                have tq0 := Bt4.out.cell 0
                have tq1 := Bt4.out.cell 1
                have tq2 := Bt4.out.cell 2
                have tq3 := Bt4.out.cell 3
                simp only [List.getElem?_toArray, List.getElem?_cons_succ, List.getElem?_cons_zero] at tq0 tq1 tq2 tq3
                have dq0 := Bd4.out.cell 0
                have dq1 := Bd4.out.cell 1
                have dq2 := Bd4.out.cell 2
                have dq3 := Bd4.out.cell 3
                simp only [List.getElem?_toArray, List.getElem?_cons_succ, List.getElem?_cons_zero] at dq0 dq1 dq2 dq3
                have ck := (L4.out.cell (p := ⟨b, o + k * 2, none⟩) hb).trans HC.out.1
                have cb := (L4.out.cell (p := ⟨b, o + k * 2 + 1, none⟩) hb).trans HC.out.2
                go_wp2_with fail
                refine (HK3.out _).mono ?_; rintro e wq5 ⟨rfl, hb5⟩
                have Bc5 := Lib.hid (Bc4.out.bl hb5)
                have Ba5 := Lib.hid (Ba4.out.bl hb5)
                have Bt5 := Lib.hid (Bt4.out.bl hb5)
                have Bd5 := Lib.hid (Bd4.out.bl hb5)
                have L5 := Lib.hid (bl L4.out hb5)
                clear cq0 cq1 cq2 cq3 aq0 aq1 aq2 aq3 tq0 tq1 tq2 tq3 dq0 dq1 dq2 dq3 ck cb
                clear hb5 Bc4 Ba4 Bt4 Bd4 L4
                have cq0 := Bc5.out.cell 0
                have cq1 := Bc5.out.cell 1
                have cq2 := Bc5.out.cell 2
                have cq3 := Bc5.out.cell 3
                simp only [List.getElem?_toArray, List.getElem?_cons_succ, List.getElem?_cons_zero] at cq0 cq1 cq2 cq3
                have aq0 := Ba5.out.cell 0
                have aq1 := Ba5.out.cell 1
                have aq2 := Ba5.out.cell 2
                have aq3 := Ba5.out.cell 3
                simp only [List.getElem?_toArray, List.getElem?_cons_succ, List.getElem?_cons_zero] at aq0 aq1 aq2 aq3
                have tq0 := Bt5.out.cell 0
                have tq1 := Bt5.out.cell 1
                have tq2 := Bt5.out.cell 2
                have tq3 := Bt5.out.cell 3
                simp only [List.getElem?_toArray, List.getElem?_cons_succ, List.getElem?_cons_zero] at tq0 tq1 tq2 tq3
                have dq0 := Bd5.out.cell 0
                have dq1 := Bd5.out.cell 1
                have dq2 := Bd5.out.cell 2
                have dq3 := Bd5.out.cell 3
                simp only [List.getElem?_toArray, List.getElem?_cons_succ, List.getElem?_cons_zero] at dq0 dq1 dq2 dq3
                have ck := (L5.out.cell (p := ⟨b, o + k * 2, none⟩) hb).trans HC.out.1
                have cb := (L5.out.cell (p := ⟨b, o + k * 2 + 1, none⟩) hb).trans HC.out.2
                go_wp2_with fail
                go_roundw
                case rel => exact ⟨k + 1, by omega, G, last, c, rfl, rfl, by go_num, HG1.out, ST.out, Bc5.out, L5.out⟩
                case measure => simp [intOf]; omega
            · have hpos : 0 < nn0 := by omega
              obtain ⟨Tc, hT, TK, CK⟩ := take_facts ST.out HD0.out hnn0 hpos
              unfold Cur.val at TK CK K0
              have HTK := Lib.hid TK
              have HCK := Lib.hid CK
              have HK0 := Lib.hid K0
              have HT := Lib.hid hT
              clear TK CK K0 hT
              have lst0 := ST.out.lst0
              have r1 : (nn0 == 0) = false := by simp; omega
              have hle0 : c.next ≤ D0.next := by have := HST0.out.sum; have := ST.out.sum; have e1 := ST.out.seen; have e2 := HD0.out; rw [← e2] at e1; have e3 := e1.2.2.1; have := seen_le ST.out; rw [← e2] at this; exact this
              have r2 : decide (D0.next ≤ last) = false := decide_eq_false (by have := ST.out.lst; omega)
              have r3 : decide (G < D0.next) = false := decide_eq_false (by omega)
              have r4 : (G - D0.next != nn0 - 1) = false := by simp; omega
              have r5 : (nn0 - 1 != nn0 - 1) = false := by simp
              have r6 : D0.next ≤ G := by omega
              have r7 : 1 ≤ nn0 := by omega
              have r8 : nn0 ≤ 15 := by omega
              clear hnn0 hm0 hm1 dcap dcp hle0
              go_wp2_with fail
              refine (HK0.out _).mono ?_; rintro e wq1 ⟨rfl, hb1⟩
              have Bc1 := Lib.hid (Ac100.out.bl hb1)
              have Ba1 := Lib.hid (Aa100.out.bl hb1)
              have L1 := Lib.hid (bl M100.out hb1)
              clear cq0 cq1 cq2 cq3 ck cb cn1 cn2 bn1 bn2
              clear hb1 Ac100 Aa100 M100
              generalize wr.heap.size = ga at age cane Ba1 ⊢
              have cq0 := Bc1.out.cell 0
              have cq1 := Bc1.out.cell 1
              have cq2 := Bc1.out.cell 2
              have cq3 := Bc1.out.cell 3
              simp only [List.getElem?_toArray, List.getElem?_cons_succ, List.getElem?_cons_zero] at cq0 cq1 cq2 cq3
              have aq0 := Ba1.out.cell 0
              have aq1 := Ba1.out.cell 1
              have aq2 := Ba1.out.cell 2
              have aq3 := Ba1.out.cell 3
              simp only [List.getElem?_toArray, List.getElem?_cons_succ, List.getElem?_cons_zero] at aq0 aq1 aq2 aq3
              have ck := (L1.out.cell (p := ⟨b, o + k * 2, none⟩) hb).trans HC.out.1
              have cb := (L1.out.cell (p := ⟨b, o + k * 2 + 1, none⟩) hb).trans HC.out.2
              go_wp2_with fail
              refine (HTK.out _).mono ?_; rintro e wq2 ⟨rfl, hb2⟩
              have Bc2 := Lib.hid (Bc1.out.bl hb2)
              have Ba2 := Lib.hid (Ba1.out.bl hb2)
              have L2 := Lib.hid (bl L1.out hb2)
              clear cq0 cq1 cq2 cq3 aq0 aq1 aq2 aq3 ck cb
              clear hb2 Bc1 Ba1 L1
              have cq0 := Bc2.out.cell 0
              have cq1 := Bc2.out.cell 1
              have cq2 := Bc2.out.cell 2
              have cq3 := Bc2.out.cell 3
              simp only [List.getElem?_toArray, List.getElem?_cons_succ, List.getElem?_cons_zero] at cq0 cq1 cq2 cq3
              have aq0 := Ba2.out.cell 0
              have aq1 := Ba2.out.cell 1
              have aq2 := Ba2.out.cell 2
              have aq3 := Ba2.out.cell 3
              simp only [List.getElem?_toArray, List.getElem?_cons_succ, List.getElem?_cons_zero] at aq0 aq1 aq2 aq3
              have ck := (L2.out.cell (p := ⟨b, o + k * 2, none⟩) hb).trans HC.out.1
              have cb := (L2.out.cell (p := ⟨b, o + k * 2 + 1, none⟩) hb).trans HC.out.2
              have tge := Lib.hid (show w.heap.size ≤ wq2.heap.size from L2.out.size)
              have cn1 : ¬ gc = wq2.heap.size := by have := Bc2.out.lt; omega
              have ctne := Lib.hid cn1
              have cn2 : gc < wq2.heap.size := Bc2.out.lt
              have an1 : ¬ ga = wq2.heap.size := by have := Ba2.out.lt; omega
              have atne := Lib.hid an1
              have an2 : ga < wq2.heap.size := Ba2.out.lt
              have bn1 : ¬ b = wq2.heap.size := by have := tge.out; omega
              have bn2 : b < wq2.heap.size := by have := tge.out; omega
              have Ac2 := Lib.hid (Bc2.out.alloc (.cells #[.int .u64 Tc.next, .int .i64 Tc.cap, .int .u64 Tc.got, .int .u64 Tc.lost] 27))
              have Aa2 := Lib.hid (Ba2.out.alloc (.cells #[.int .u64 Tc.next, .int .i64 Tc.cap, .int .u64 Tc.got, .int .u64 Tc.lost] 27))
              have At2 := Lib.hid (Blk.new wq2 27 #[.int .u64 Tc.next, .int .i64 Tc.cap, .int .u64 Tc.got, .int .u64 Tc.lost])
              have M2 := Lib.hid (L2.out.alloc L2.out.size (.cells #[.int .u64 Tc.next, .int .i64 Tc.cap, .int .u64 Tc.got, .int .u64 Tc.lost] 27))
              clear Bc2 Ba2 L2
              go_wp2_with fail
              refine (HCK.out _).mono ?_; rintro e wq3 ⟨rfl, hb3⟩
              have Bc3 := Lib.hid (Ac2.out.bl hb3)
              have Ba3 := Lib.hid (Aa2.out.bl hb3)
              have Bt3 := Lib.hid (At2.out.bl hb3)
              have L3 := Lib.hid (bl M2.out hb3)
              clear cq0 cq1 cq2 cq3 aq0 aq1 aq2 aq3 ck cb cn1 cn2 an1 an2 bn1 bn2
              clear hb3 Ac2 Aa2 At2 M2
              generalize wq2.heap.size = gt at tge ctne atne Bt3 ⊢
              have cq0 := Bc3.out.cell 0
              have cq1 := Bc3.out.cell 1
              have cq2 := Bc3.out.cell 2
              have cq3 := Bc3.out.cell 3
              simp only [List.getElem?_toArray, List.getElem?_cons_succ, List.getElem?_cons_zero] at cq0 cq1 cq2 cq3
              have aq0 := Ba3.out.cell 0
              have aq1 := Ba3.out.cell 1
              have aq2 := Ba3.out.cell 2
              have aq3 := Ba3.out.cell 3
              simp only [List.getElem?_toArray, List.getElem?_cons_succ, List.getElem?_cons_zero] at aq0 aq1 aq2 aq3
              have tq0 := Bt3.out.cell 0
              have tq1 := Bt3.out.cell 1
              have tq2 := Bt3.out.cell 2
              have tq3 := Bt3.out.cell 3
              simp only [List.getElem?_toArray, List.getElem?_cons_succ, List.getElem?_cons_zero] at tq0 tq1 tq2 tq3
              have ck := (L3.out.cell (p := ⟨b, o + k * 2, none⟩) hb).trans HC.out.1
              have cb := (L3.out.cell (p := ⟨b, o + k * 2 + 1, none⟩) hb).trans HC.out.2
              have cf0 := Bc3.out.frozen 0
              have cf1 := Bc3.out.frozen 1
              have cf2 := Bc3.out.frozen 2
              have cf3 := Bc3.out.frozen 3
              have Xc := Lib.hid (blk_set4 (x0 := .int .u64 Tc.next) (x1 := .int .i64 Tc.cap) (x2 := .int .u64 Tc.got) (x3 := .int .u64 Tc.lost) Bc3.out)
              have Xa := Lib.hid (far_set4 (x0 := .int .u64 Tc.next) (x1 := .int .i64 Tc.cap) (x2 := .int .u64 Tc.got) (x3 := .int .u64 Tc.lost) Ba3.out (fun h => cane.out h.symm))
              have XL := Lib.hid (below_set4 (x0 := .int .u64 Tc.next) (x1 := .int .i64 Tc.cap) (x2 := .int .u64 Tc.got) (x3 := .int .u64 Tc.lost) L3.out cge.out)
              have ct1 := ctne.out
              have ct2 : ¬ gt = gc := fun h => ctne.out h.symm
              have HGx := HG1
              clear Bc3 Ba3 L3 Bt3
              obtain ⟨D, nn, hD, hnn, hSD, hgt, hls, hn0, hn1, S2, K2, K3⟩ := tail_facts HT.out
              unfold Cur.val at S2 K2 K3
              have HS2 := Lib.hid S2
              have HK2 := Lib.hid K2
              have HK3 := Lib.hid K3
              clear S2 K2 K3
              have dg0 := hSD.ok.got.1
              have dl0 := hSD.ok.lost.1
              have dsm := hSD.sum
              have dtop := hSD.top
              have p1 : decide (nn < 0) = false := decide_eq_false (by omega)
              have p2 : decide (room < nn) = false := decide_eq_false (by omega)
              have p3 : (nn != nn) = false := by simp
              have p4 : (D.got + D.lost + nn != G - g) = false := by simp; omega
              have b3 : D.got + D.lost + nn ≤ 9223372036854775807 := by omega
              have b4 : g ≤ G := by omega
              have b5 : G < 9223372036854775807 := dtop
              have b6 : nn ≤ 15 := by omega
              have HLS := Lib.hid hls
              clear hD hnn hgt hls dsm dtop
              have hSD2 := Lib.hid hSD
              clear hSD
              by_cases hl : D.lost = c.lost
              · have p5 : (D.lost != c.lost) = false := by rw [hl]; simp
                clear hl
                go_wp2_with fail
                refine (HS2.out _).mono ?_; rintro e wq4 ⟨rfl, hb4⟩
                have Bc4 := Lib.hid (Xc.out.bl hb4)
                have Ba4 := Lib.hid (Xa.out.bl hb4)
                have L4 := Lib.hid (bl XL.out hb4)
                clear cq0 cq1 cq2 cq3 aq0 aq1 aq2 aq3 tq0 tq1 tq2 tq3 ck cb cf0 cf1 cf2 cf3 ct1 ct2
                clear hb4 Xc Xa XL
                have cq0 := Bc4.out.cell 0
                have cq1 := Bc4.out.cell 1
                have cq2 := Bc4.out.cell 2
                have cq3 := Bc4.out.cell 3
                simp only [List.getElem?_toArray, List.getElem?_cons_succ, List.getElem?_cons_zero] at cq0 cq1 cq2 cq3
                have aq0 := Ba4.out.cell 0
                have aq1 := Ba4.out.cell 1
                have aq2 := Ba4.out.cell 2
                have aq3 := Ba4.out.cell 3
                simp only [List.getElem?_toArray, List.getElem?_cons_succ, List.getElem?_cons_zero] at aq0 aq1 aq2 aq3
                have ck := (L4.out.cell (p := ⟨b, o + k * 2, none⟩) hb).trans HC.out.1
                have cb := (L4.out.cell (p := ⟨b, o + k * 2 + 1, none⟩) hb).trans HC.out.2
                have dge := Lib.hid (show w.heap.size ≤ wq4.heap.size from L4.out.size)
                have cn1 : ¬ gc = wq4.heap.size := by have := Bc4.out.lt; omega
                have cdne := Lib.hid cn1
                have cn2 : gc < wq4.heap.size := Bc4.out.lt
                have an1 : ¬ ga = wq4.heap.size := by have := Ba4.out.lt; omega
                have adne := Lib.hid an1
                have an2 : ga < wq4.heap.size := Ba4.out.lt
                have bn1 : ¬ b = wq4.heap.size := by have := dge.out; omega
                have bn2 : b < wq4.heap.size := by have := dge.out; omega
                have Ac4 := Lib.hid (Bc4.out.alloc (.cells #[.int .u64 D.next, .int .i64 D.cap, .int .u64 D.got, .int .u64 D.lost] 27))
                have Aa4 := Lib.hid (Ba4.out.alloc (.cells #[.int .u64 D.next, .int .i64 D.cap, .int .u64 D.got, .int .u64 D.lost] 27))
                have Ad4 := Lib.hid (Blk.new wq4 27 #[.int .u64 D.next, .int .i64 D.cap, .int .u64 D.got, .int .u64 D.lost])
                have M4 := Lib.hid (L4.out.alloc L4.out.size (.cells #[.int .u64 D.next, .int .i64 D.cap, .int .u64 D.got, .int .u64 D.lost] 27))
                clear Bc4 Ba4 L4
                go_wp2_with fail
                refine (HK2.out _).mono ?_; rintro e wq5 ⟨rfl, hb5⟩
                have Bc5 := Lib.hid (Ac4.out.bl hb5)
                have Ba5 := Lib.hid (Aa4.out.bl hb5)
                have Bd5 := Lib.hid (Ad4.out.bl hb5)
                have L5 := Lib.hid (bl M4.out hb5)
                clear cq0 cq1 cq2 cq3 aq0 aq1 aq2 aq3 ck cb cn1 cn2 an1 an2 bn1 bn2
                clear hb5 Ac4 Aa4 Ad4 M4
                generalize wq4.heap.size = gd at dge cdne adne Bd5 ⊢
                have cq0 := Bc5.out.cell 0
                have cq1 := Bc5.out.cell 1
                have cq2 := Bc5.out.cell 2
                have cq3 := Bc5.out.cell 3
                simp only [List.getElem?_toArray, List.getElem?_cons_succ, List.getElem?_cons_zero] at cq0 cq1 cq2 cq3
                have aq0 := Ba5.out.cell 0
                have aq1 := Ba5.out.cell 1
                have aq2 := Ba5.out.cell 2
                have aq3 := Ba5.out.cell 3
                simp only [List.getElem?_toArray, List.getElem?_cons_succ, List.getElem?_cons_zero] at aq0 aq1 aq2 aq3
                have dq0 := Bd5.out.cell 0
                have dq1 := Bd5.out.cell 1
                have dq2 := Bd5.out.cell 2
                have dq3 := Bd5.out.cell 3
                simp only [List.getElem?_toArray, List.getElem?_cons_succ, List.getElem?_cons_zero] at dq0 dq1 dq2 dq3
                have ck := (L5.out.cell (p := ⟨b, o + k * 2, none⟩) hb).trans HC.out.1
                have cb := (L5.out.cell (p := ⟨b, o + k * 2 + 1, none⟩) hb).trans HC.out.2
                go_wp2_with fail
                refine (HK3.out _).mono ?_; rintro e wq6 ⟨rfl, hb6⟩
                have Bc6 := Lib.hid (Bc5.out.bl hb6)
                have Ba6 := Lib.hid (Ba5.out.bl hb6)
                have Bd6 := Lib.hid (Bd5.out.bl hb6)
                have L6 := Lib.hid (bl L5.out hb6)
                clear cq0 cq1 cq2 cq3 aq0 aq1 aq2 aq3 dq0 dq1 dq2 dq3 ck cb
                clear hb6 Bc5 Ba5 Bd5 L5
                have cq0 := Bc6.out.cell 0
                have cq1 := Bc6.out.cell 1
                have cq2 := Bc6.out.cell 2
                have cq3 := Bc6.out.cell 3
                simp only [List.getElem?_toArray, List.getElem?_cons_succ, List.getElem?_cons_zero] at cq0 cq1 cq2 cq3
                have aq0 := Ba6.out.cell 0
                have aq1 := Ba6.out.cell 1
                have aq2 := Ba6.out.cell 2
                have aq3 := Ba6.out.cell 3
                simp only [List.getElem?_toArray, List.getElem?_cons_succ, List.getElem?_cons_zero] at aq0 aq1 aq2 aq3
                have dq0 := Bd6.out.cell 0
                have dq1 := Bd6.out.cell 1
                have dq2 := Bd6.out.cell 2
                have dq3 := Bd6.out.cell 3
                simp only [List.getElem?_toArray, List.getElem?_cons_succ, List.getElem?_cons_zero] at dq0 dq1 dq2 dq3
                have ck := (L6.out.cell (p := ⟨b, o + k * 2, none⟩) hb).trans HC.out.1
                have cb := (L6.out.cell (p := ⟨b, o + k * 2 + 1, none⟩) hb).trans HC.out.2
                go_wp2_with fail
                go_roundw
                case rel => exact ⟨k + 1, by omega, G, D0.next, Tc, rfl, rfl, by go_num, HG1.out, HT.out, Bc6.out, L6.out⟩
                case measure => simp [intOf]; omega
              · have p5 : (D.lost != c.lost) = true := by simp; exact hl
                have p6 : ((l k).kind != 1) = false := by simpa using q1
                clear hl
                go_wp2_with fail
                refine (HS2.out _).mono ?_; rintro e wq4 ⟨rfl, hb4⟩
                have Bc4 := Lib.hid (Xc.out.bl hb4)
                have Ba4 := Lib.hid (Xa.out.bl hb4)
                have L4 := Lib.hid (bl XL.out hb4)
                clear cq0 cq1 cq2 cq3 aq0 aq1 aq2 aq3 tq0 tq1 tq2 tq3 ck cb cf0 cf1 cf2 cf3 ct1 ct2
                clear hb4 Xc Xa XL
                have cq0 := Bc4.out.cell 0
                have cq1 := Bc4.out.cell 1
                have cq2 := Bc4.out.cell 2
                have cq3 := Bc4.out.cell 3
                simp only [List.getElem?_toArray, List.getElem?_cons_succ, List.getElem?_cons_zero] at cq0 cq1 cq2 cq3
                have aq0 := Ba4.out.cell 0
                have aq1 := Ba4.out.cell 1
                have aq2 := Ba4.out.cell 2
                have aq3 := Ba4.out.cell 3
                simp only [List.getElem?_toArray, List.getElem?_cons_succ, List.getElem?_cons_zero] at aq0 aq1 aq2 aq3
                have ck := (L4.out.cell (p := ⟨b, o + k * 2, none⟩) hb).trans HC.out.1
                have cb := (L4.out.cell (p := ⟨b, o + k * 2 + 1, none⟩) hb).trans HC.out.2
                have dge := Lib.hid (show w.heap.size ≤ wq4.heap.size from L4.out.size)
                have cn1 : ¬ gc = wq4.heap.size := by have := Bc4.out.lt; omega
                have cdne := Lib.hid cn1
                have cn2 : gc < wq4.heap.size := Bc4.out.lt
                have an1 : ¬ ga = wq4.heap.size := by have := Ba4.out.lt; omega
                have adne := Lib.hid an1
                have an2 : ga < wq4.heap.size := Ba4.out.lt
                have bn1 : ¬ b = wq4.heap.size := by have := dge.out; omega
                have bn2 : b < wq4.heap.size := by have := dge.out; omega
                have Ac4 := Lib.hid (Bc4.out.alloc (.cells #[.int .u64 D.next, .int .i64 D.cap, .int .u64 D.got, .int .u64 D.lost] 27))
                have Aa4 := Lib.hid (Ba4.out.alloc (.cells #[.int .u64 D.next, .int .i64 D.cap, .int .u64 D.got, .int .u64 D.lost] 27))
                have Ad4 := Lib.hid (Blk.new wq4 27 #[.int .u64 D.next, .int .i64 D.cap, .int .u64 D.got, .int .u64 D.lost])
                have M4 := Lib.hid (L4.out.alloc L4.out.size (.cells #[.int .u64 D.next, .int .i64 D.cap, .int .u64 D.got, .int .u64 D.lost] 27))
                clear Bc4 Ba4 L4
                go_wp2_with fail
                refine (HK2.out _).mono ?_; rintro e wq5 ⟨rfl, hb5⟩
                have Bc5 := Lib.hid (Ac4.out.bl hb5)
                have Ba5 := Lib.hid (Aa4.out.bl hb5)
                have Bd5 := Lib.hid (Ad4.out.bl hb5)
                have L5 := Lib.hid (bl M4.out hb5)
                clear cq0 cq1 cq2 cq3 aq0 aq1 aq2 aq3 ck cb cn1 cn2 an1 an2 bn1 bn2
                clear hb5 Ac4 Aa4 Ad4 M4
                generalize wq4.heap.size = gd at dge cdne adne Bd5 ⊢
                have cq0 := Bc5.out.cell 0
                have cq1 := Bc5.out.cell 1
                have cq2 := Bc5.out.cell 2
                have cq3 := Bc5.out.cell 3
                simp only [List.getElem?_toArray, List.getElem?_cons_succ, List.getElem?_cons_zero] at cq0 cq1 cq2 cq3
                have aq0 := Ba5.out.cell 0
                have aq1 := Ba5.out.cell 1
                have aq2 := Ba5.out.cell 2
                have aq3 := Ba5.out.cell 3
                simp only [List.getElem?_toArray, List.getElem?_cons_succ, List.getElem?_cons_zero] at aq0 aq1 aq2 aq3
                have dq0 := Bd5.out.cell 0
                have dq1 := Bd5.out.cell 1
                have dq2 := Bd5.out.cell 2
                have dq3 := Bd5.out.cell 3
                simp only [List.getElem?_toArray, List.getElem?_cons_succ, List.getElem?_cons_zero] at dq0 dq1 dq2 dq3
                have ck := (L5.out.cell (p := ⟨b, o + k * 2, none⟩) hb).trans HC.out.1
                have cb := (L5.out.cell (p := ⟨b, o + k * 2 + 1, none⟩) hb).trans HC.out.2
                go_wp2_with fail
                refine (HK3.out _).mono ?_; rintro e wq6 ⟨rfl, hb6⟩
                have Bc6 := Lib.hid (Bc5.out.bl hb6)
                have Ba6 := Lib.hid (Ba5.out.bl hb6)
                have Bd6 := Lib.hid (Bd5.out.bl hb6)
                have L6 := Lib.hid (bl L5.out hb6)
                clear cq0 cq1 cq2 cq3 aq0 aq1 aq2 aq3 dq0 dq1 dq2 dq3 ck cb
                clear hb6 Bc5 Ba5 Bd5 L5
                have cq0 := Bc6.out.cell 0
                have cq1 := Bc6.out.cell 1
                have cq2 := Bc6.out.cell 2
                have cq3 := Bc6.out.cell 3
                simp only [List.getElem?_toArray, List.getElem?_cons_succ, List.getElem?_cons_zero] at cq0 cq1 cq2 cq3
                have aq0 := Ba6.out.cell 0
                have aq1 := Ba6.out.cell 1
                have aq2 := Ba6.out.cell 2
                have aq3 := Ba6.out.cell 3
                simp only [List.getElem?_toArray, List.getElem?_cons_succ, List.getElem?_cons_zero] at aq0 aq1 aq2 aq3
                have dq0 := Bd6.out.cell 0
                have dq1 := Bd6.out.cell 1
                have dq2 := Bd6.out.cell 2
                have dq3 := Bd6.out.cell 3
                simp only [List.getElem?_toArray, List.getElem?_cons_succ, List.getElem?_cons_zero] at dq0 dq1 dq2 dq3
                have ck := (L6.out.cell (p := ⟨b, o + k * 2, none⟩) hb).trans HC.out.1
                have cb := (L6.out.cell (p := ⟨b, o + k * 2 + 1, none⟩) hb).trans HC.out.2
                go_wp2_with fail
                go_roundw
                case rel => exact ⟨k + 1, by omega, G, D0.next, Tc, rfl, rfl, by go_num, HG1.out, HT.out, Bc6.out, L6.out⟩
                case measure => simp [intOf]; omega
          · obtain ⟨D0, nn0, hD0, hnn0, hS0, hgt0, hls0, hm0, hm1, S0, _, _⟩ := tail_facts ST.out
            have HG1 := Lib.hid (show G ≤ g + 40 * ((k + 1 : Nat) : Int) by push_cast; omega)
            have HST0 := Lib.hid hS0
            unfold Cur.val at S0
            have HS0 := Lib.hid S0
            clear S0 hS0 hgt0 hm0 hm1
            have HNN0 := Lib.hid hnn0
            clear hnn0
            have HLS0 := Lib.hid hls0
            have HD0 := Lib.hid hD0
            clear hls0 hD0
            go_wp2_with fail
            refine (HS0.out _).mono ?_; rintro e wq1 ⟨rfl, hb1⟩
            have Bc1 := Lib.hid (Ac100.out.bl hb1)
            have Ba1 := Lib.hid (Aa100.out.bl hb1)
            have L1 := Lib.hid (bl M100.out hb1)
            clear cq0 cq1 cq2 cq3 ck cb cn1 cn2 bn1 bn2
            clear hb1 Ac100 Aa100 M100
            generalize wr.heap.size = ga at age cane Ba1 ⊢
            have cq0 := Bc1.out.cell 0
            have cq1 := Bc1.out.cell 1
            have cq2 := Bc1.out.cell 2
            have cq3 := Bc1.out.cell 3
            simp only [List.getElem?_toArray, List.getElem?_cons_succ, List.getElem?_cons_zero] at cq0 cq1 cq2 cq3
            have aq0 := Ba1.out.cell 0
            have aq1 := Ba1.out.cell 1
            have aq2 := Ba1.out.cell 2
            have aq3 := Ba1.out.cell 3
            simp only [List.getElem?_toArray, List.getElem?_cons_succ, List.getElem?_cons_zero] at aq0 aq1 aq2 aq3
            have ck := (L1.out.cell (p := ⟨b, o + k * 2, none⟩) hb).trans HC.out.1
            have cb := (L1.out.cell (p := ⟨b, o + k * 2 + 1, none⟩) hb).trans HC.out.2
            have cf0 := Bc1.out.frozen 0
            have cf1 := Bc1.out.frozen 1
            have cf2 := Bc1.out.frozen 2
            have cf3 := Bc1.out.frozen 3
            have cn1 : ¬ gc = wq1.heap.size := by have := Bc1.out.lt; omega
            have cn2 : gc < wq1.heap.size := Bc1.out.lt
            have an1 : ¬ ga = wq1.heap.size := by have := Ba1.out.lt; omega
            have an2 : ga < wq1.heap.size := Ba1.out.lt
            have bn1 : ¬ b = wq1.heap.size := by have := L1.out.size; omega
            have bn2 : b < wq1.heap.size := by have := L1.out.size; omega
            have Xc := Lib.hid ((blk_set4 (x0 := .int .u64 D0.next) (x1 := .int .i64 D0.cap) (x2 := .int .u64 D0.got) (x3 := .int .u64 D0.lost) Bc1.out).alloc (.cells #[.int .u64 D0.next, .int .i64 D0.cap, .int .u64 D0.got, .int .u64 D0.lost] 27))
            have Xa := Lib.hid ((far_set4 (x0 := .int .u64 D0.next) (x1 := .int .i64 D0.cap) (x2 := .int .u64 D0.got) (x3 := .int .u64 D0.lost) Ba1.out (fun h => cane.out h.symm)).alloc (.cells #[.int .u64 D0.next, .int .i64 D0.cap, .int .u64 D0.got, .int .u64 D0.lost] 27))
            have XL := Lib.hid ((below_set4 (x0 := .int .u64 D0.next) (x1 := .int .i64 D0.cap) (x2 := .int .u64 D0.got) (x3 := .int .u64 D0.lost) L1.out cge.out).alloc (below_set4 (x0 := .int .u64 D0.next) (x1 := .int .i64 D0.cap) (x2 := .int .u64 D0.got) (x3 := .int .u64 D0.lost) L1.out cge.out).size (.cells #[.int .u64 D0.next, .int .i64 D0.cap, .int .u64 D0.got, .int .u64 D0.lost] 27))
            clear Bc1 Ba1 L1
            have HCL0 := Lib.hid (show seen D0 G = D0 by rw [HD0.out]; exact seen_seen ST.out.right ST.out.g0 (Int.le_refl _) ST.out.is)
            obtain ⟨D, nn, hD, hnn, hSD, hgt2, hls, hn0, hn1, S2, K2, K3⟩ := tail_facts HST0.out
            have hDD : D = D0 := by rw [hD]; exact HCL0.out
            have hls2 : D.lost ≠ c.lost → nn = room := fun h => by have := HLS0.out (by rw [← hDD]; exact h); have e1 := HNN0.out; rw [hnn, hDD]; omega
            unfold Cur.val at S2 K2 K3
            have HS2 := Lib.hid S2
            have HK2 := Lib.hid K2
            have HK3 := Lib.hid K3
            clear S2 K2 K3
            have dg0 := hSD.ok.got.1
            have dl0 := hSD.ok.lost.1
            have dsm := hSD.sum
            have dtop := hSD.top
            have p1 : decide (nn < 0) = false := decide_eq_false (by omega)
            have p2 : decide (room < nn) = false := decide_eq_false (by omega)
            have p3 : (nn != nn) = false := by simp
            have p4 : (D.got + D.lost + nn != G - g) = false := by simp; omega
            have b3 : D.got + D.lost + nn ≤ 9223372036854775807 := by omega
            have b4 : g ≤ G := by omega
            have b5 : G < 9223372036854775807 := dtop
            have b6 : nn ≤ 15 := by omega
            have HLS := Lib.hid hls2
            clear hD hnn hgt2 hls hls2 hDD dsm dtop hSD
            by_cases hl : D.lost = c.lost
            · have p5 : (D.lost != c.lost) = false := by rw [hl]; simp
              clear hl
              go_wp2_with fail
              refine (HS2.out _).mono ?_; rintro e wq2 ⟨rfl, hb2⟩
              have Bc2 := Lib.hid (Xc.out.bl hb2)
              have Ba2 := Lib.hid (Xa.out.bl hb2)
              have L2 := Lib.hid (bl XL.out hb2)
              clear cq0 cq1 cq2 cq3 aq0 aq1 aq2 aq3 ck cb cn1 cn2 an1 an2 bn1 bn2 cf0 cf1 cf2 cf3
              clear hb2 Xc Xa XL
              have cq0 := Bc2.out.cell 0
              have cq1 := Bc2.out.cell 1
              have cq2 := Bc2.out.cell 2
              have cq3 := Bc2.out.cell 3
              simp only [List.getElem?_toArray, List.getElem?_cons_succ, List.getElem?_cons_zero] at cq0 cq1 cq2 cq3
              have aq0 := Ba2.out.cell 0
              have aq1 := Ba2.out.cell 1
              have aq2 := Ba2.out.cell 2
              have aq3 := Ba2.out.cell 3
              simp only [List.getElem?_toArray, List.getElem?_cons_succ, List.getElem?_cons_zero] at aq0 aq1 aq2 aq3
              have ck := (L2.out.cell (p := ⟨b, o + k * 2, none⟩) hb).trans HC.out.1
              have cb := (L2.out.cell (p := ⟨b, o + k * 2 + 1, none⟩) hb).trans HC.out.2
              have dge := Lib.hid (show w.heap.size ≤ wq2.heap.size from L2.out.size)
              have cn1 : ¬ gc = wq2.heap.size := by have := Bc2.out.lt; omega
              have cdne := Lib.hid cn1
              have cn2 : gc < wq2.heap.size := Bc2.out.lt
              have an1 : ¬ ga = wq2.heap.size := by have := Ba2.out.lt; omega
              have adne := Lib.hid an1
              have an2 : ga < wq2.heap.size := Ba2.out.lt
              have bn1 : ¬ b = wq2.heap.size := by have := dge.out; omega
              have bn2 : b < wq2.heap.size := by have := dge.out; omega
              have Ac2 := Lib.hid (Bc2.out.alloc (.cells #[.int .u64 D.next, .int .i64 D.cap, .int .u64 D.got, .int .u64 D.lost] 27))
              have Aa2 := Lib.hid (Ba2.out.alloc (.cells #[.int .u64 D.next, .int .i64 D.cap, .int .u64 D.got, .int .u64 D.lost] 27))
              have Ad2 := Lib.hid (Blk.new wq2 27 #[.int .u64 D.next, .int .i64 D.cap, .int .u64 D.got, .int .u64 D.lost])
              have M2 := Lib.hid (L2.out.alloc L2.out.size (.cells #[.int .u64 D.next, .int .i64 D.cap, .int .u64 D.got, .int .u64 D.lost] 27))
              clear Bc2 Ba2 L2
              go_wp2_with fail
              refine (HK2.out _).mono ?_; rintro e wq3 ⟨rfl, hb3⟩
              have Bc3 := Lib.hid (Ac2.out.bl hb3)
              have Ba3 := Lib.hid (Aa2.out.bl hb3)
              have Bd3 := Lib.hid (Ad2.out.bl hb3)
              have L3 := Lib.hid (bl M2.out hb3)
              clear cq0 cq1 cq2 cq3 aq0 aq1 aq2 aq3 ck cb cn1 cn2 an1 an2 bn1 bn2
              clear hb3 Ac2 Aa2 Ad2 M2
              generalize wq2.heap.size = gd at dge cdne adne Bd3 ⊢
              have cq0 := Bc3.out.cell 0
              have cq1 := Bc3.out.cell 1
              have cq2 := Bc3.out.cell 2
              have cq3 := Bc3.out.cell 3
              simp only [List.getElem?_toArray, List.getElem?_cons_succ, List.getElem?_cons_zero] at cq0 cq1 cq2 cq3
              have aq0 := Ba3.out.cell 0
              have aq1 := Ba3.out.cell 1
              have aq2 := Ba3.out.cell 2
              have aq3 := Ba3.out.cell 3
              simp only [List.getElem?_toArray, List.getElem?_cons_succ, List.getElem?_cons_zero] at aq0 aq1 aq2 aq3
              have dq0 := Bd3.out.cell 0
              have dq1 := Bd3.out.cell 1
              have dq2 := Bd3.out.cell 2
              have dq3 := Bd3.out.cell 3
              simp only [List.getElem?_toArray, List.getElem?_cons_succ, List.getElem?_cons_zero] at dq0 dq1 dq2 dq3
              have ck := (L3.out.cell (p := ⟨b, o + k * 2, none⟩) hb).trans HC.out.1
              have cb := (L3.out.cell (p := ⟨b, o + k * 2 + 1, none⟩) hb).trans HC.out.2
              go_wp2_with fail
              refine (HK3.out _).mono ?_; rintro e wq4 ⟨rfl, hb4⟩
              have Bc4 := Lib.hid (Bc3.out.bl hb4)
              have Ba4 := Lib.hid (Ba3.out.bl hb4)
              have Bd4 := Lib.hid (Bd3.out.bl hb4)
              have L4 := Lib.hid (bl L3.out hb4)
              clear cq0 cq1 cq2 cq3 aq0 aq1 aq2 aq3 dq0 dq1 dq2 dq3 ck cb
              clear hb4 Bc3 Ba3 Bd3 L3
              have cq0 := Bc4.out.cell 0
              have cq1 := Bc4.out.cell 1
              have cq2 := Bc4.out.cell 2
              have cq3 := Bc4.out.cell 3
              simp only [List.getElem?_toArray, List.getElem?_cons_succ, List.getElem?_cons_zero] at cq0 cq1 cq2 cq3
              have aq0 := Ba4.out.cell 0
              have aq1 := Ba4.out.cell 1
              have aq2 := Ba4.out.cell 2
              have aq3 := Ba4.out.cell 3
              simp only [List.getElem?_toArray, List.getElem?_cons_succ, List.getElem?_cons_zero] at aq0 aq1 aq2 aq3
              have dq0 := Bd4.out.cell 0
              have dq1 := Bd4.out.cell 1
              have dq2 := Bd4.out.cell 2
              have dq3 := Bd4.out.cell 3
              simp only [List.getElem?_toArray, List.getElem?_cons_succ, List.getElem?_cons_zero] at dq0 dq1 dq2 dq3
              have ck := (L4.out.cell (p := ⟨b, o + k * 2, none⟩) hb).trans HC.out.1
              have cb := (L4.out.cell (p := ⟨b, o + k * 2 + 1, none⟩) hb).trans HC.out.2
              go_wp2_with fail
              go_roundw
              case rel => exact ⟨k + 1, by omega, G, last, D0, rfl, rfl, by go_num, HG1.out, HST0.out, Bc4.out, L4.out⟩
              case measure => simp [intOf]; omega
            · have p5 : (D.lost != c.lost) = true := by simp; exact hl
              have p6 : ((l k).kind != 1) = true := by simpa using q1
              have p7 : (nn != room) = false := by rw [HLS.out hl]; simp
              clear hl
              go_wp2_with fail
              refine (HS2.out _).mono ?_; rintro e wq2 ⟨rfl, hb2⟩
              have Bc2 := Lib.hid (Xc.out.bl hb2)
              have Ba2 := Lib.hid (Xa.out.bl hb2)
              have L2 := Lib.hid (bl XL.out hb2)
              clear cq0 cq1 cq2 cq3 aq0 aq1 aq2 aq3 ck cb cn1 cn2 an1 an2 bn1 bn2 cf0 cf1 cf2 cf3
              clear hb2 Xc Xa XL
              have cq0 := Bc2.out.cell 0
              have cq1 := Bc2.out.cell 1
              have cq2 := Bc2.out.cell 2
              have cq3 := Bc2.out.cell 3
              simp only [List.getElem?_toArray, List.getElem?_cons_succ, List.getElem?_cons_zero] at cq0 cq1 cq2 cq3
              have aq0 := Ba2.out.cell 0
              have aq1 := Ba2.out.cell 1
              have aq2 := Ba2.out.cell 2
              have aq3 := Ba2.out.cell 3
              simp only [List.getElem?_toArray, List.getElem?_cons_succ, List.getElem?_cons_zero] at aq0 aq1 aq2 aq3
              have ck := (L2.out.cell (p := ⟨b, o + k * 2, none⟩) hb).trans HC.out.1
              have cb := (L2.out.cell (p := ⟨b, o + k * 2 + 1, none⟩) hb).trans HC.out.2
              have dge := Lib.hid (show w.heap.size ≤ wq2.heap.size from L2.out.size)
              have cn1 : ¬ gc = wq2.heap.size := by have := Bc2.out.lt; omega
              have cdne := Lib.hid cn1
              have cn2 : gc < wq2.heap.size := Bc2.out.lt
              have an1 : ¬ ga = wq2.heap.size := by have := Ba2.out.lt; omega
              have adne := Lib.hid an1
              have an2 : ga < wq2.heap.size := Ba2.out.lt
              have bn1 : ¬ b = wq2.heap.size := by have := dge.out; omega
              have bn2 : b < wq2.heap.size := by have := dge.out; omega
              have Ac2 := Lib.hid (Bc2.out.alloc (.cells #[.int .u64 D.next, .int .i64 D.cap, .int .u64 D.got, .int .u64 D.lost] 27))
              have Aa2 := Lib.hid (Ba2.out.alloc (.cells #[.int .u64 D.next, .int .i64 D.cap, .int .u64 D.got, .int .u64 D.lost] 27))
              have Ad2 := Lib.hid (Blk.new wq2 27 #[.int .u64 D.next, .int .i64 D.cap, .int .u64 D.got, .int .u64 D.lost])
              have M2 := Lib.hid (L2.out.alloc L2.out.size (.cells #[.int .u64 D.next, .int .i64 D.cap, .int .u64 D.got, .int .u64 D.lost] 27))
              clear Bc2 Ba2 L2
              go_wp2_with fail
              refine (HK2.out _).mono ?_; rintro e wq3 ⟨rfl, hb3⟩
              have Bc3 := Lib.hid (Ac2.out.bl hb3)
              have Ba3 := Lib.hid (Aa2.out.bl hb3)
              have Bd3 := Lib.hid (Ad2.out.bl hb3)
              have L3 := Lib.hid (bl M2.out hb3)
              clear cq0 cq1 cq2 cq3 aq0 aq1 aq2 aq3 ck cb cn1 cn2 an1 an2 bn1 bn2
              clear hb3 Ac2 Aa2 Ad2 M2
              generalize wq2.heap.size = gd at dge cdne adne Bd3 ⊢
              have cq0 := Bc3.out.cell 0
              have cq1 := Bc3.out.cell 1
              have cq2 := Bc3.out.cell 2
              have cq3 := Bc3.out.cell 3
              simp only [List.getElem?_toArray, List.getElem?_cons_succ, List.getElem?_cons_zero] at cq0 cq1 cq2 cq3
              have aq0 := Ba3.out.cell 0
              have aq1 := Ba3.out.cell 1
              have aq2 := Ba3.out.cell 2
              have aq3 := Ba3.out.cell 3
              simp only [List.getElem?_toArray, List.getElem?_cons_succ, List.getElem?_cons_zero] at aq0 aq1 aq2 aq3
              have dq0 := Bd3.out.cell 0
              have dq1 := Bd3.out.cell 1
              have dq2 := Bd3.out.cell 2
              have dq3 := Bd3.out.cell 3
              simp only [List.getElem?_toArray, List.getElem?_cons_succ, List.getElem?_cons_zero] at dq0 dq1 dq2 dq3
              have ck := (L3.out.cell (p := ⟨b, o + k * 2, none⟩) hb).trans HC.out.1
              have cb := (L3.out.cell (p := ⟨b, o + k * 2 + 1, none⟩) hb).trans HC.out.2
              go_wp2_with fail
              refine (HK3.out _).mono ?_; rintro e wq4 ⟨rfl, hb4⟩
              have Bc4 := Lib.hid (Bc3.out.bl hb4)
              have Ba4 := Lib.hid (Ba3.out.bl hb4)
              have Bd4 := Lib.hid (Bd3.out.bl hb4)
              have L4 := Lib.hid (bl L3.out hb4)
              clear cq0 cq1 cq2 cq3 aq0 aq1 aq2 aq3 dq0 dq1 dq2 dq3 ck cb
              clear hb4 Bc3 Ba3 Bd3 L3
              have cq0 := Bc4.out.cell 0
              have cq1 := Bc4.out.cell 1
              have cq2 := Bc4.out.cell 2
              have cq3 := Bc4.out.cell 3
              simp only [List.getElem?_toArray, List.getElem?_cons_succ, List.getElem?_cons_zero] at cq0 cq1 cq2 cq3
              have aq0 := Ba4.out.cell 0
              have aq1 := Ba4.out.cell 1
              have aq2 := Ba4.out.cell 2
              have aq3 := Ba4.out.cell 3
              simp only [List.getElem?_toArray, List.getElem?_cons_succ, List.getElem?_cons_zero] at aq0 aq1 aq2 aq3
              have dq0 := Bd4.out.cell 0
              have dq1 := Bd4.out.cell 1
              have dq2 := Bd4.out.cell 2
              have dq3 := Bd4.out.cell 3
              simp only [List.getElem?_toArray, List.getElem?_cons_succ, List.getElem?_cons_zero] at dq0 dq1 dq2 dq3
              have ck := (L4.out.cell (p := ⟨b, o + k * 2, none⟩) hb).trans HC.out.1
              have cb := (L4.out.cell (p := ⟨b, o + k * 2 + 1, none⟩) hb).trans HC.out.2
              go_wp2_with fail
              go_roundw
              case rel => exact ⟨k + 1, by omega, G, last, D0, rfl, rfl, by go_num, HG1.out, HST0.out, Bc4.out, L4.out⟩
              case measure => simp [intOf]; omega
        · have hd1 : decide ((k : Int) < (n : Int)) = false := decide_eq_false (by omega)
          go_wp2_with fail
          refine (awake_any _).mono ?_; rintro e w2 ⟨rfl, hb2⟩
          have L3 := Lib.hid (bl L0.out hb2)
          clear hb2
          go_wp2_with fail
          go_ret
          exact ⟨rfl, L3.out⟩
  · go_enter Try.func4, Try.ntmps4
    go_wp2_with fail
    refine (whole_any g hg _ n l w HX.out).mono ?_; rintro e w' ⟨hres, rfl⟩
    obtain ⟨bb, rfl, hiff⟩ := hres
    have hbf : bb = false := by cases bb with
      | false => rfl
      | true => exact absurd (hiff.1 rfl) hW
    subst hbf
    clear hiff
    go_wp2_with fail
    refine (awake_any _).mono ?_; rintro e w2 ⟨rfl, hb2⟩
    have L3 := Lib.hid hb2
    clear hb2
    go_wp2_with fail
    go_ret
    exact ⟨rfl, L3.out⟩
end Go.Proofs.Ythfkgbgbhjnpdaa.Queue
