/-
  QueuePicks: the law's walk. No condition. By an AI agent.
-/
import Derived.Test.YthfkgbgbhjnpdaaQAwake
import Derived.Test.YthfkgbgbhjnpdaaRefPick
import Derived.Test.YthfkgbgbhjnpdaaHeadM
namespace Go.Proofs.Ythfkgbgbhjnpdaa.Queue
set_option linter.unusedVariables false
set_option linter.unusedSimpArgs false
open Go Go.RowKit Go.Proofs.Ythfkgbgbhjnpdaa.Base Go.Deep

/-- cell j of the reference's subscription i -/
def cellAt (s : Sub) : Nat → Value
  | 0 => .int .i64 s.rank
  | 1 => .int .u64 s.cur.next
  | 2 => .int .i64 s.cur.cap
  | 3 => .int .u64 s.cur.got
  | _ => .int .u64 s.cur.lost
def rcells (l : Nat → Sub) (k : Nat) : List Value := (List.range (5 * k)).map fun t => cellAt (l (t / 5)) (t % 5)
def news (s : Sub) : List Value := [.int .i64 s.rank, .int .u64 s.cur.next, .int .i64 s.cur.cap, .int .u64 s.cur.got, .int .u64 s.cur.lost]
theorem rcells_zero (l : Nat → Sub) : rcells l 0 = [] := rfl
theorem rcells_succ (l : Nat → Sub) (k : Nat) : rcells l (k + 1) = rcells l k ++ news (l k) := by
  unfold rcells news
  rw [show 5 * (k + 1) = 5 * k + 1 + 1 + 1 + 1 + 1 by omega]
  simp only [List.range_succ, List.map_append, List.map_cons, List.map_nil, List.append_assoc, List.cons_append, List.nil_append]
  rw [show 5 * k / 5 = k by omega, show (5 * k + 1) / 5 = k by omega, show (5 * k + 1 + 1) / 5 = k by omega, show (5 * k + 1 + 1 + 1) / 5 = k by omega, show (5 * k + 1 + 1 + 1 + 1) / 5 = k by omega,
    show 5 * k % 5 = 0 by omega, show (5 * k + 1) % 5 = 1 by omega, show (5 * k + 1 + 1) % 5 = 2 by omega, show (5 * k + 1 + 1 + 1) % 5 = 3 by omega, show (5 * k + 1 + 1 + 1 + 1) % 5 = 4 by omega]
  rfl
theorem rcells_at (l : Nat → Sub) {k i j : Nat} (hi : i < k) (hj : j < 5) : (rcells l k)[i * 5 + j]? = some (cellAt (l i) j) := by
  unfold rcells
  rw [List.getElem?_map, List.getElem?_range (by omega)]
  simp only [Option.map_some]
  rw [show (i * 5 + j) / 5 = i by omega, show (i * 5 + j) % 5 = j by omega]
theorem rsubs_of_own {w : World} {base : Nat} {v : Value} {n : Nat} {l : Nat → Sub} (h : w.ownsRow base 58 5 v n (rcells l n)) (hl : n ≤ maxLen) (hok : ∀ i, i < n → (l i).Ok) : RSubs w v n l := by
  rcases h.2 with ⟨rfl, h0⟩ | ⟨g, cap, cur, rfl, _, hh, _⟩
  · subst h0
    exact ⟨⟨none, 0, rfl, by simp [maxLen], fun hn => absurd hn (by omega)⟩, hok⟩
  · refine ⟨⟨some ⟨g, 0, none⟩, cap, rfl, hl, fun hn => ⟨g, 0, rfl, ?_, fun i hi => ?_⟩⟩, hok⟩
    · rcases Nat.lt_or_ge g w.heap.size with hlt | hge
      · exact hlt
      · rw [Array.getElem?_eq_none hge] at hh; cases hh
    · have c : ∀ j, j < 5 → w.cell? ⟨g, 0 + i * 5 + j, none⟩ = some (cellAt (l i) j) := fun j hj => by
        have := h.cells (g := g) rfl (i * 5 + j) _ (rcells_at l hi hj)
        have e : (⟨g, 0, none⟩ : Addr).add (i * 5 + j) = ⟨g, 0 + i * 5 + j, none⟩ := by unfold Addr.add; split <;> simp_all
        rwa [e] at this
      exact ⟨c 0 (by omega), c 1 (by omega), c 2 (by omega), c 3 (by omega), c 4 (by omega)⟩

theorem Subs.below {w w' : World} {v : Value} {n : Nat} {l : Nat → Sub} (h : Subs w v n l) (hb : Below w.heap.size w w') : Subs w' v n l := by
  obtain ⟨A, c, rfl, hl, hf⟩ := h.form
  refine ⟨⟨A, c, rfl, hl, fun hn => ?_⟩, h.ok⟩
  obtain ⟨b, o, rfl, hlt, hc⟩ := hf hn
  have k : ∀ j, w'.cell? ⟨b, j, none⟩ = w.cell? ⟨b, j, none⟩ := fun j => hb.cell (p := ⟨b, j, none⟩) hlt
  exact ⟨b, o, rfl, Nat.lt_of_lt_of_le hlt hb.size, fun i hi => by simp only [k]; exact hc i hi⟩
theorem RSubs.below {w w' : World} {v : Value} {n : Nat} {l : Nat → Sub} (h : RSubs w v n l) (hb : Below w.heap.size w w') : RSubs w' v n l := by
  obtain ⟨A, c, rfl, hl, hf⟩ := h.form
  refine ⟨⟨A, c, rfl, hl, fun hn => ?_⟩, h.ok⟩
  obtain ⟨b, o, rfl, hlt, hc⟩ := hf hn
  have k : ∀ j, w'.cell? ⟨b, j, none⟩ = w.cell? ⟨b, j, none⟩ := fun j => hb.cell (p := ⟨b, j, none⟩) hlt
  exact ⟨b, o, rfl, Nat.lt_of_lt_of_le hlt hb.size, fun i hi => by simp only [k]; exact hc i hi⟩
theorem rsub_info : (Try.prog.info? 58).map (fun i => (i.zero, i.size, i.bytes)) = some (some (.agg #[.int .i64 0, .int .u64 0, .int .i64 0, .int .u64 0, .int .u64 0]), 5, 40) := by kernel_rfl
/-- the copy of a cursor, and below all is as it was -/
structure One (w : World) (b1 : Nat) (c1 : Array Value) (W : World) : Prop where
  box : Blk W b1 27 c1
  below : Below w.heap.size w W

set_option maxRecDepth 100000 in
set_option maxHeartbeats 16000000 in
theorem QueuePicks_walk (v : Value) (x0 : Nat × (Nat → Sub)) (u : Value) (gs : List Int) (w : World) (hs : Subs w v x0.1 x0.2) (hi : Ints w .u64 u gs) (hg : ∀ x ∈ gs, (Lit.int .u64 x).wf = true) :
    Calls Try.prog 7 #[v, u] w fun e w' => e = .returned (.bool true) ∧ Below w.heap.size w w' := by
  obtain ⟨n, l⟩ := x0
  simp only at hs
  have hgb : ∀ x ∈ gs, 0 ≤ x ∧ x ≤ 18446744073709551615 := fun x hx => u64_bounds (hg x hx)
  have HS := Lib.hid hs
  have HI := Lib.hid hi
  obtain ⟨A, c, rfl, hl, hf⟩ := hs.form
  obtain ⟨A2, c2, rfl, hl2, hf2⟩ := hi.form
  have HF := Lib.hid hf
  have HOK := Lib.hid hs.ok
  have HGB := Lib.hid hgb
  obtain ⟨i0, hi0, hz0, hz1, hz2⟩ := info_parts rsub_info
  unfold maxLen at hl hl2
  clear hf hf2 hs hi hg hgb
  by_cases hn : n ≤ 40 ∧ gs.length ≤ 40
  · obtain ⟨hn1, hn2⟩ := hn
    have k1 : decide (40 < (n : Int)) = false := decide_eq_false (by omega)
    have k1' : decide (40 < n) = false := decide_eq_false (by omega)
    have k2 : decide (40 < (gs.length : Int)) = false := decide_eq_false (by omega)
    have k2' : decide (40 < gs.length) = false := decide_eq_false (by omega)
    have hown0 := Lib.hid (World.ownsRow_made (e := 58) (size := 5) w #[] 0 (Nat.le_refl _) (by simp [maxLen]) rfl)
    have hbel0 := Lib.hid ((Below.refl w.heap.size w).alloc (Nat.le_refl _) (.cells #[] 58))
    go_enter Try.func7, Try.ntmps7
    go_wp2_with fail
    go_loopw [5, 6] (fun rv i wr => ∃ k : Nat, k ≤ n ∧ i = .int .i64 k ∧ wr.ownsRow w.heap.size 58 5 rv k (rcells l k) ∧ Below w.heap.size w wr) (fun _ i _ => n - (intOf i).toNat)
    case atStart => exact ⟨0, by omega, rfl, hown0.out, hbel0.out⟩
    case round =>
      obtain ⟨k, hk, rfl, hown, hbl⟩ := hrel
      have OW := Lib.hid hown
      have L0 := Lib.hid hbl
      clear hown hbl
      by_cases hlt : k < n
      · obtain ⟨b, o, rfl, hb, hc⟩ := HF.out (by omega)
        have HC := Lib.hid (hc k hlt)
        clear hc
        have c1 := (L0.out.cell (p := ⟨b, o + k * 6 + 1, none⟩) hb).trans HC.out.2.1
        have c2' := (L0.out.cell (p := ⟨b, o + k * 6 + 2, none⟩) hb).trans HC.out.2.2.1
        have c3 := (L0.out.cell (p := ⟨b, o + k * 6 + 3, none⟩) hb).trans HC.out.2.2.2.1
        have c4 := (L0.out.cell (p := ⟨b, o + k * 6 + 4, none⟩) hb).trans HC.out.2.2.2.2.1
        have c5 := (L0.out.cell (p := ⟨b, o + k * 6 + 5, none⟩) hb).trans HC.out.2.2.2.2.2
        have hi1 : (0 : Int) ≤ (k : Int) := by omega
        have hi2 : (k : Int) < (n : Int) := by omega
        have hd1 : decide ((k : Int) < (n : Int)) = true := decide_eq_true hi2
        have hsz := L0.out.size
        go_upto_region 8 with fail
        generalize hso : l k = s at *
        have hst : One wr wr.heap.size #[.int .u64 s.cur.next, .int .i64 s.cur.cap, .int .u64 s.cur.got, .int .u64 s.cur.lost] (wr.alloc (.cells #[.int .u64 s.cur.next, .int .i64 s.cur.cap, .int .u64 s.cur.got, .int .u64 s.cur.lost] 27)).drew :=
          ⟨Blk.new _ _ _, ((Below.refl _ _).alloc (Nat.le_refl _) _).drew⟩
        obtain ⟨kq, hkq⟩ : ∃ kq, kq = wr.heap.size := ⟨_, rfl⟩
        rw [← hkq] at hst
        have HKQ := Lib.hid hkq
        rw [← hkq]
        clear hkq c1 c2' c3 c4 c5
        have HST := Lib.hid hst
        clear hst
        have hnonempty : Nonempty (Held (One wr kq #[.int .u64 s.cur.next, .int .i64 s.cur.cap, .int .u64 s.cur.got, .int .u64 s.cur.lost])) := ⟨⟨_, HST.out⟩⟩
        have m1 : ∀ x : Held (One wr kq #[.int .u64 s.cur.next, .int .i64 s.cur.cap, .int .u64 s.cur.got, .int .u64 s.cur.lost]), x.w.cell? ⟨b, o + k * 6 + 1, none⟩ = some (.int .i64 s.rank) := fun x => ((bl L0.out x.ok.below).cell (p := ⟨b, o + k * 6 + 1, none⟩) hb).trans HC.out.2.1
        have n0 : ∀ x : Held (One wr kq #[.int .u64 s.cur.next, .int .i64 s.cur.cap, .int .u64 s.cur.got, .int .u64 s.cur.lost]), x.w.cell? ⟨kq, 0, none⟩ = some (.int .u64 s.cur.next) := fun x => x.ok.box.cell 0
        have n1 : ∀ x : Held (One wr kq #[.int .u64 s.cur.next, .int .i64 s.cur.cap, .int .u64 s.cur.got, .int .u64 s.cur.lost]), x.w.cell? ⟨kq, 1, none⟩ = some (.int .i64 s.cur.cap) := fun x => x.ok.box.cell 1
        have n2 : ∀ x : Held (One wr kq #[.int .u64 s.cur.next, .int .i64 s.cur.cap, .int .u64 s.cur.got, .int .u64 s.cur.lost]), x.w.cell? ⟨kq, 2, none⟩ = some (.int .u64 s.cur.got) := fun x => x.ok.box.cell 2
        have n3 : ∀ x : Held (One wr kq #[.int .u64 s.cur.next, .int .i64 s.cur.cap, .int .u64 s.cur.got, .int .u64 s.cur.lost]), x.w.cell? ⟨kq, 3, none⟩ = some (.int .u64 s.cur.lost) := fun x => x.ok.box.cell 3
        refine drawn_float (S := One wr kq #[.int .u64 s.cur.next, .int .i64 s.cur.cap, .int .u64 s.cur.got, .int .u64 s.cur.lost]) 16 u5 (by kernel_rfl) (by kernel_rfl) HST.out (.inl ⟨rfl, fun w => by rw [BigFrame.run_move (.tmp 5) rfl]; rfl⟩) ?_
        simp only [List.take_succ_cons, List.take_zero, List.drop_succ_cons, List.drop_zero, Nat.reduceSub, Act.put, List.setIfInBounds_toArray, List.set_cons_zero, List.set_cons_succ]
        repeat (go_big_quiet_step (fail))
        refine wpQuiet_nil ?_
        intro w7 hw'; obtain ⟨⟨w7', hb7⟩, hw''⟩ := hw'; dsimp only at hw''; subst hw''
        have L1 := Lib.hid (bl L0.out hb7.below)
        have OW1 := Lib.hid (World_ownsRow_bl OW.out hb7.below)
        clear hb7 m1 n0 n1 n2 n3 hnonempty
        have hsz7 := L1.out.size
        go_wp2_with (at_builtin; refine wpList_append_own _ rfl _ _ 54 rfl w.heap.size 58 i0 (.agg #[.int .i64 0, .int .u64 0, .int .i64 0, .int .u64 0, .int .u64 0]) 5 40 Try.underlying54 hi0 hz0 hz1 hz2 rfl (by decide) _ _ _ rfl (OW1.out.alloc _) ⟨w7.heap.size, 0, none⟩ 1 1 (news s) rfl rfl ?c1 ?c2 ?c3 ?c4 ?c5 ?_)
        case c1 =>
          have hbn := Blk.new w7 58 #[.int .i64 s.rank, .int .u64 s.cur.next, .int .i64 s.cur.cap, .int .u64 s.cur.got, .int .u64 s.cur.lost]
          intro j u hj
          match j, hj with
          | 0, hj => simp [news] at hj; subst hj; exact hbn.cell 0
          | 1, hj => simp [news] at hj; subst hj; exact hbn.cell 1
          | 2, hj => simp [news] at hj; subst hj; exact hbn.cell 2
          | 3, hj => simp [news] at hj; subst hj; exact hbn.cell 3
          | 4, hj => simp [news] at hj; subst hj; exact hbn.cell 4
        case c2 =>
          intro u hu
          simp only [news, List.mem_cons, List.not_mem_nil, or_false] at hu
          rcases hu with rfl | rfl | rfl | rfl | rfl <;> rfl
        case c3 => unfold maxLen; omega
        case c4 => omega
        case c5 => simp; omega
        intro v' w8 hown' hgrow _
        have hbel' := (L1.out.alloc hsz7 (.cells #[.int .i64 s.rank, .int .u64 s.cur.next, .int .i64 s.cur.cap, .int .u64 s.cur.got, .int .u64 s.cur.lost] 58)).grown hgrow (by simp; omega) (fun k hk => (OW1.out.lt k hk).1)
        have L8 := Lib.hid hbel'
        rw [← hso, ← rcells_succ] at hown'
        have OW8 := Lib.hid hown'
        clear hown' hgrow hbel'
        go_wp2_with fail
        refine plainEnd_normal ?_
        go_wp2_with fail
        go_roundw
        case rel => exact ⟨k + 1, by omega, by go_num, OW8.out, L8.out⟩
        case measure => simp [intOf]; omega
      · obtain rfl : k = n := by omega
        have hd1 : decide ((k : Int) < (k : Int)) = false := decide_eq_false (by omega)
        have RS := Lib.hid (rsubs_of_own OW.out (by unfold maxLen; omega) HOK.out)
        go_wp2_with fail
        refine (Pick_any _ k l _ gs _ (HS.out.below L0.out) (HI.out.below L0.out) HGB.out).mono ?_; rintro e w1 ⟨x, er, rfl, hp, hb1⟩
        have L1 := Lib.hid (bl L0.out hb1)
        have RS1 := Lib.hid (RS.out.below hb1)
        have HP := Lib.hid hp
        clear hb1 hp
        go_wp2_with fail
        refine (refPick_any _ k l _ gs _ RS1.out (HI.out.below L1.out) HGB.out).mono ?_; rintro e w2 ⟨x', er', rfl, hp, hb2⟩
        obtain ⟨rfl, rfl⟩ := PickIs.unique hp HP.out
        have L2 := Lib.hid (bl L1.out hb2)
        clear hb2 hp
        have t1 : (x' == x') = true := by simp
        have t2 : (er' == er') = true := by simp
        go_wp2_with fail
        refine (awake_any _).mono ?_; rintro e w8 ⟨rfl, hb8⟩
        have L8 := Lib.hid (bl L2.out hb8)
        clear hb8
        go_wp2_with fail
        go_ret
        exact ⟨rfl, L8.out⟩
  · have hk : decide (40 < (n : Int)) = true ∨ (decide (40 < (n : Int)) = false ∧ decide (40 < (gs.length : Int)) = true) := by
      by_cases q : 40 < (n : Int)
      · exact .inl (decide_eq_true q)
      · exact .inr ⟨decide_eq_false q, decide_eq_true (by omega)⟩
    rcases hk with k1 | ⟨k1, k2⟩
    all_goals
      go_enter Try.func7, Try.ntmps7
      go_wp2_with fail
      refine (awake_any _).mono ?_; rintro e w8 ⟨rfl, hb8⟩
      go_wp2_with fail
      go_ret
      exact ⟨rfl, hb8⟩
end Go.Proofs.Ythfkgbgbhjnpdaa.Queue
