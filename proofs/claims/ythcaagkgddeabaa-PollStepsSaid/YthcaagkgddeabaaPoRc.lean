/-
  Law 12: plain: subscriptions and spots in the document's types. Printed by wip/tools/mkporc.py. Conditions stand at each. By an AI agent.
-/
import Derived.Test.YthcaagkgddeabaaPoRb
namespace Go.Proofs.Ythcaagkgddeabaa.Bank
set_option linter.unusedVariables false
set_option linter.unusedSimpArgs false
open Go Go.RowKit Go.Proofs.Ythcaagkgddeabaa.Base Go.Deep Go.ChangeShapes Go.WideShapes Go.Proofs.Ythcaagkgddeabaa.Queue
def rscell (s : Spot) : Nat → Value
  | 0 => .int .i64 s.owners
  | 1 => .int .i64 s.seq
  | 2 => .int .i64 s.first
  | 3 => .int .i64 s.words
  | _ => .int .i64 s.depth
def rscells (l : Nat → Spot) (k : Nat) : List Value := (List.range (5 * k)).map fun t => rscell (l (t / 5)) (t % 5)
def rsnews (s : Spot) : List Value := [.int .i64 s.owners, .int .i64 s.seq, .int .i64 s.first, .int .i64 s.words, .int .i64 s.depth]
theorem rscells_succ (l : Nat → Spot) (k : Nat) : rscells l (k + 1) = rscells l k ++ rsnews (l k) := by
  unfold rscells rsnews
  rw [show 5 * (k + 1) = 5 * k + 1 + 1 + 1 + 1 + 1 by omega]
  simp only [List.range_succ, List.map_append, List.map_cons, List.map_nil, List.append_assoc, List.cons_append, List.nil_append]
  rw [show 5 * k / 5 = k by omega, show (5 * k + 1) / 5 = k by omega, show (5 * k + 1 + 1) / 5 = k by omega, show (5 * k + 1 + 1 + 1) / 5 = k by omega, show (5 * k + 1 + 1 + 1 + 1) / 5 = k by omega,
    show 5 * k % 5 = 0 by omega, show (5 * k + 1) % 5 = 1 by omega, show (5 * k + 1 + 1) % 5 = 2 by omega, show (5 * k + 1 + 1 + 1) % 5 = 3 by omega, show (5 * k + 1 + 1 + 1 + 1) % 5 = 4 by omega]
  rfl
theorem rscells_at (l : Nat → Spot) {k i j : Nat} (hi : i < k) (hj : j < 5) : (rscells l k)[i * 5 + j]? = some (rscell (l i) j) := by
  unfold rscells
  rw [List.getElem?_map, List.getElem?_range (by omega)]
  simp only [Option.map_some]
  rw [show (i * 5 + j) / 5 = i by omega, show (i * 5 + j) % 5 = j by omega]
theorem sps_of_own {w : World} {base : Nat} {t : TypeId} {v : Value} {n : Nat} {l : Nat → Spot} (h : w.ownsRow base t 5 v n (rscells l n)) (hl : n ≤ maxLen) : Sps w v n l ∧ (0 < n → ∃ g c, v = .slice (some ⟨g, 0, none⟩) n c ∧ base ≤ g) := by
  rcases h.2 with ⟨rfl, h0⟩ | ⟨g, cap, cur, rfl, hbg, hh, _⟩
  · subst h0
    exact ⟨⟨⟨none, 0, rfl, by simp [maxLen], fun hn => absurd hn (by omega)⟩⟩, fun hn => absurd hn (by omega)⟩
  · refine ⟨⟨⟨some ⟨g, 0, none⟩, cap, rfl, hl, fun hn => ⟨g, 0, rfl, ?_, fun i hi => ?_⟩⟩⟩, fun _ => ⟨g, cap, rfl, hbg⟩⟩
    · rcases Nat.lt_or_ge g w.heap.size with hlt | hge
      · exact hlt
      · rw [Array.getElem?_eq_none hge] at hh; cases hh
    · have c : ∀ j, j < 5 → w.cell? ⟨g, 0 + i * 5 + j, none⟩ = some (rscell (l i) j) := fun j hj => by
        have := h.cells (g := g) rfl (i * 5 + j) _ (rscells_at l hi hj)
        have e : (⟨g, 0, none⟩ : Addr).add (i * 5 + j) = ⟨g, 0 + i * 5 + j, none⟩ := by unfold Addr.add; split <;> simp_all
        rwa [e] at this
      exact ⟨c 0 (by omega), c 1 (by omega), c 2 (by omega), c 3 (by omega), c 4 (by omega)⟩
def ucell (s : Queue.Sub) : Nat → Value
  | 0 => .int .i64 s.topic
  | 1 => .int .i64 s.rank
  | 2 => .int .u64 s.cur.next
  | 3 => .int .i64 s.cur.cap
  | 4 => .int .u64 s.cur.got
  | _ => .int .u64 s.cur.lost
def ucells (l : Nat → Queue.Sub) (k : Nat) : List Value := (List.range (6 * k)).map fun t => ucell (l (t / 6)) (t % 6)
def unews (s : Queue.Sub) : List Value := [.int .i64 s.topic, .int .i64 s.rank, .int .u64 s.cur.next, .int .i64 s.cur.cap, .int .u64 s.cur.got, .int .u64 s.cur.lost]
theorem ucells_succ (l : Nat → Queue.Sub) (k : Nat) : ucells l (k + 1) = ucells l k ++ unews (l k) := by
  unfold ucells unews
  rw [show 6 * (k + 1) = 6 * k + 1 + 1 + 1 + 1 + 1 + 1 by omega]
  simp only [List.range_succ, List.map_append, List.map_cons, List.map_nil, List.append_assoc, List.cons_append, List.nil_append]
  rw [show 6 * k / 6 = k by omega, show (6 * k + 1) / 6 = k by omega, show (6 * k + 1 + 1) / 6 = k by omega, show (6 * k + 1 + 1 + 1) / 6 = k by omega, show (6 * k + 1 + 1 + 1 + 1) / 6 = k by omega, show (6 * k + 1 + 1 + 1 + 1 + 1) / 6 = k by omega,
    show 6 * k % 6 = 0 by omega, show (6 * k + 1) % 6 = 1 by omega, show (6 * k + 1 + 1) % 6 = 2 by omega, show (6 * k + 1 + 1 + 1) % 6 = 3 by omega, show (6 * k + 1 + 1 + 1 + 1) % 6 = 4 by omega, show (6 * k + 1 + 1 + 1 + 1 + 1) % 6 = 5 by omega]
  rfl
theorem ucells_at (l : Nat → Queue.Sub) {k i j : Nat} (hi : i < k) (hj : j < 6) : (ucells l k)[i * 6 + j]? = some (ucell (l i) j) := by
  unfold ucells
  rw [List.getElem?_map, List.getElem?_range (by omega)]
  simp only [Option.map_some]
  rw [show (i * 6 + j) / 6 = i by omega, show (i * 6 + j) % 6 = j by omega]
theorem subs_of_own {w : World} {base : Nat} {t : TypeId} {v : Value} {n : Nat} {l : Nat → Queue.Sub} (h : w.ownsRow base t 6 v n (ucells l n)) (hl : n ≤ maxLen) (hok : ∀ i, i < n → (l i).Ok) : Queue.Subs w v n l := by
  rcases h.2 with ⟨rfl, h0⟩ | ⟨g, cap, cur, rfl, hbg, hh, _⟩
  · subst h0
    exact ⟨⟨none, 0, rfl, by simp [maxLen], fun hn => absurd hn (by omega)⟩, hok⟩
  · refine ⟨⟨some ⟨g, 0, none⟩, cap, rfl, hl, fun hn => ⟨g, 0, rfl, ?_, fun i hi => ?_⟩⟩, hok⟩
    · rcases Nat.lt_or_ge g w.heap.size with hlt | hge
      · exact hlt
      · rw [Array.getElem?_eq_none hge] at hh; cases hh
    · have c : ∀ j, j < 6 → w.cell? ⟨g, 0 + i * 6 + j, none⟩ = some (ucell (l i) j) := fun j hj => by
        have := h.cells (g := g) rfl (i * 6 + j) _ (ucells_at l hi hj)
        have e : (⟨g, 0, none⟩ : Addr).add (i * 6 + j) = ⟨g, 0 + i * 6 + j, none⟩ := by unfold Addr.add; split <;> simp_all
        rwa [e] at this
      exact ⟨c 0 (by omega), c 1 (by omega), c 2 (by omega), c 3 (by omega), c 4 (by omega), c 5 (by omega)⟩
theorem own_apart {w : World} {b b' z z' n n' : Nat} {e e' : TypeId} {v v' : Value} {xs xs' : List Value} (h1 : w.ownsRow b e z v n xs) (h2 : w.ownsRow b' e' z' v' n' xs') (ne : e ≠ e') : ∀ k, v.ownBlock = some k → ¬ v'.ownBlock = some k := by
  intro k hk hk'
  rcases h1.2 with ⟨rfl, _⟩ | ⟨g, cap, cur, rfl, _, hg, _⟩
  · simp [Value.ownBlock] at hk
  · rcases h2.2 with ⟨rfl, _⟩ | ⟨g', cap', cur', rfl, _, hg', _⟩
    · simp [Value.ownBlock] at hk'
    · simp [Value.ownBlock] at hk hk'
      subst hk
      subst hk'
      rw [hg] at hg'
      simp at hg'
      exact ne hg'.2
theorem rspot_info : (Try.prog.info? 128).map (fun i => (i.zero, i.size, i.bytes)) = some (some (.agg #[.int .i64 0, .int .i64 0, .int .i64 0, .int .i64 0, .int .i64 0]), 5, 40) := by kernel_rfl
theorem rsub_info : (Try.prog.info? 127).map (fun i => (i.zero, i.size, i.bytes)) = some (some (.agg #[.int .i64 0, .int .i64 0, .int .u64 0, .int .i64 0, .int .u64 0, .int .u64 0]), 6, 48) := by kernel_rfl
set_option maxRecDepth 100000 in
set_option maxHeartbeats 16000000 in
theorem RPlain_any (v1 v2 : Value) (n m : Nat) (l : Nat → Queue.Sub) (s : Nat → Spot) (tries : Int) (w : World) (hl : Queue.Subs w v1 n l) (hs : Sps w v2 m s) (hn : n ≤ 8) (hm : m ≤ 8) :
    Calls Try.prog 27 #[.agg #[v1, v2, .int .i64 tries]] w fun e w' => ∃ (u1 u2 : Value), e = .returned (.tuple #[u1, u2]) ∧ w'.ownsRow (w.heap.size + 1) 127 6 u1 n (ucells l n) ∧ w'.ownsRow (w.heap.size + 1) 128 5 u2 m (rscells s m) ∧ Below w.heap.size w w' := by
  obtain ⟨A, c, rfl, _, hg⟩ := hl.form
  obtain ⟨A2, c2, rfl, _, hg2⟩ := hs.form
  have HG1 := Lib.hid hg
  have HG2 := Lib.hid hg2
  have HN8 := Lib.hid hn
  have HM8 := Lib.hid hm
  obtain ⟨i0, hi0, hz0, hz1, hz2⟩ := info_parts rsub_info
  clear hl hs hg hg2 hn hm
  go_enter Try.func27, Try.ntmps27
  go_upto_region 1 with fail
  have hcb := Blk.new w 25 #[.slice A n c, .slice A2 m c2, .int .i64 tries]
  have hlb := (Below.refl w.heap.size w).alloc (Nat.le_refl _) (.cells #[.slice A n c, .slice A2 m c2, .int .i64 tries] 25)
  obtain ⟨cb, hcbe⟩ : ∃ cb, w.heap.size = cb := ⟨_, rfl⟩
  have HCB := Lib.hid hcbe
  have hsz1 : (w.alloc (.cells #[.slice A n c, .slice A2 m c2, .int .i64 tries] 25)).heap.size = w.heap.size + 1 := by simp
  rw [hcbe] at hcb ⊢
  clear hcbe
  generalize w.alloc (.cells #[.slice A n c, .slice A2 m c2, .int .i64 tries] 25) = w1 at *
  have CB := Lib.hid hcb
  have L0_ := Lib.hid hlb
  have HS1 := Lib.hid hsz1
  clear hcb hlb hsz1
  go_upto_region 3 with fail
  have on1 := World.ownsRow_made (base := w.heap.size + 1) (e := 127) (size := 6) w1 #[] 0 (Nat.le_of_eq HS1.out.symm) (by simp [maxLen]) rfl
  have on2 := World.ownsRow_made (base := w.heap.size + 1) (e := 128) (size := 5) (w1.alloc (.cells #[] 127)) #[] 0 (by simp; have h1 := HS1.out; omega) (by simp [maxLen]) rfl
  have hsz2 : (w1.alloc (.cells #[] 127)).heap.size = w1.heap.size + 1 := by simp
  rw [hsz2] at on2
  try rw [hsz2]
  have OX := Lib.hid on2
  have ON := Lib.hid (on1.alloc (.cells #[] 128))
  have CB2 := Lib.hid ((CB.out.alloc (.cells #[] 127)).alloc (.cells #[] 128))
  have L1_ := Lib.hid ((L0_.out.alloc L0_.out.size (.cells #[] 127)).alloc (L0_.out.alloc L0_.out.size (.cells #[] 127)).size (.cells #[] 128))
  obtain ⟨sb, hsb⟩ : ∃ sb, w1.heap.size + 1 = sb := ⟨_, rfl⟩
  rw [hsb] at OX ⊢
  clear on1 on2 hsz2 CB L0_ hsb
  generalize (w1.alloc (.cells #[] 127)).alloc (.cells #[] 128) = w2 at *
  have CB := Lib.hid CB2.out
  have L0_ := Lib.hid L1_.out
  clear CB2 L1_
  go_wp2_with fail
  go_loopw [4, 6, 7] (fun sl_ si_ sx_ wr => ∃ i : Nat, i ≤ n ∧ si_ = .int .i64 i ∧ wr.ownsRow (w.heap.size + 1) 127 6 sl_ i (ucells l i) ∧ Blk wr cb 25 #[.slice A n c, .slice A2 m c2, .int .i64 tries] ∧ wr.ownsRow (w.heap.size + 1) 128 5 (.slice (some ⟨sb, 0, none⟩) 0 0) 0 (rscells s 0) ∧ Below w.heap.size w wr) (fun sl_ si_ sx_ _ => n - (intOf si_).toNat)
  case atStart => exact ⟨0, by omega, rfl, ON.out, CB.out, OX.out, L0_.out⟩
  case round =>
    obtain ⟨i, hi, rfl, hown, hcb, hox, hl⟩ := hrel
    have OW := Lib.hid hown
    have CC := Lib.hid hcb
    have L0 := Lib.hid hl
    have OXX := Lib.hid hox
    clear hl hown hcb hox
    have cf := CC.out.cell 0
    simp only [List.getElem?_toArray, List.getElem?_cons_zero, List.getElem?_cons_succ] at cf
    by_cases hlt : i < n
    rotate_left
    · obtain rfl : n = i := by omega
      have kd : decide ((n : Int) < (n : Int)) = false := decide_eq_false (by omega)
      clear hi hlt i0 hi0 hz0 hz1 hz2
      obtain ⟨A1_, c1_, hvf⟩ := own_form OW.out
      subst hvf
      have OX := Lib.hid OW.out
      have CB := Lib.hid CC.out
      have L0_ := Lib.hid L0.out
      have ON := Lib.hid OXX.out
      obtain ⟨i0, hi0, hz0, hz1, hz2⟩ := info_parts rspot_info
      clear OW CC L0 OXX
      go_wp2_with fail
      clear kd cf
      go_loopw [5, 8, 9] (fun sl_ si_ sx_ wr => ∃ i : Nat, i ≤ m ∧ si_ = .int .i64 i ∧ wr.ownsRow (w.heap.size + 1) 128 5 sl_ i (rscells s i) ∧ Blk wr cb 25 #[.slice A n c, .slice A2 m c2, .int .i64 tries] ∧ wr.ownsRow (w.heap.size + 1) 127 6 (.slice A1_ n c1_) n (ucells l n) ∧ Below w.heap.size w wr) (fun sl_ si_ sx_ _ => m - (intOf si_).toNat)
      case atStart => exact ⟨0, by omega, rfl, ON.out, CB.out, OX.out, L0_.out⟩
      case round =>
        obtain ⟨i, hi, rfl, hown, hcb, hox, hl⟩ := hrel
        have OW := Lib.hid hown
        have CC := Lib.hid hcb
        have L0 := Lib.hid hl
        have OXX := Lib.hid hox
        clear hl hown hcb hox
        have cf := CC.out.cell 1
        simp only [List.getElem?_toArray, List.getElem?_cons_zero, List.getElem?_cons_succ] at cf
        by_cases hlt : i < m
        rotate_left
        · obtain rfl : m = i := by omega
          have kd : decide ((m : Int) < (m : Int)) = false := decide_eq_false (by omega)
          clear hi hlt
          go_wp2_with fail
          go_ret2
          exact ⟨_, _, rfl, OXX.out, OW.out, L0.out⟩
        have kd : decide ((i : Int) < (m : Int)) = true := decide_eq_true (by omega)
        have ki0 : (0 : Int) ≤ (i : Int) := by omega
        have ki1 : (i : Int) < (m : Int) := by omega
        have HI := Lib.hid hlt
        clear hi hlt
        obtain ⟨b, off, hA, hb, hc⟩ := HG2.out (by have := HI.out; omega)
        subst hA
        have HC5 := Lib.hid (hc i HI.out)
        have x0 := (L0.out.cell (p := ⟨b, off + i * 5, none⟩) hb).trans HC5.out.1
        have x1 := (L0.out.cell (p := ⟨b, off + i * 5 + 1, none⟩) hb).trans HC5.out.2.1
        have x2 := (L0.out.cell (p := ⟨b, off + i * 5 + 2, none⟩) hb).trans HC5.out.2.2.1
        have x3 := (L0.out.cell (p := ⟨b, off + i * 5 + 3, none⟩) hb).trans HC5.out.2.2.2.1
        have x4 := (L0.out.cell (p := ⟨b, off + i * 5 + 4, none⟩) hb).trans HC5.out.2.2.2.2
        have HQ := Lib.hid (turn_no i m HI.out (by have h1 := HM8.out; unfold maxLen; omega))
        clear hb hc
        generalize hso : s i = s_ at *
        have HSO := Lib.hid hso
        clear hso
        have L1 := Lib.hid (L0.out.alloc L0.out.size (.cells #[.int .i64 s_.owners, .int .i64 s_.seq, .int .i64 s_.first, .int .i64 s_.words, .int .i64 s_.depth] 48))
        have OW1 := Lib.hid (OW.out.alloc (.cells #[.int .i64 s_.owners, .int .i64 s_.seq, .int .i64 s_.first, .int .i64 s_.words, .int .i64 s_.depth] 48))
        have CC1 := Lib.hid (CC.out.alloc (.cells #[.int .i64 s_.owners, .int .i64 s_.seq, .int .i64 s_.first, .int .i64 s_.words, .int .i64 s_.depth] 48))
        have OX1 := Lib.hid (OXX.out.alloc (.cells #[.int .i64 s_.owners, .int .i64 s_.seq, .int .i64 s_.first, .int .i64 s_.words, .int .i64 s_.depth] 48))
        have B1 := Lib.hid (Blk.new wr 48 #[.int .i64 s_.owners, .int .i64 s_.seq, .int .i64 s_.first, .int .i64 s_.words, .int .i64 s_.depth])
        go_upto_region 12 with fail
        obtain ⟨w7, hw7⟩ : ∃ w7, w7 = wr.alloc (.cells #[.int .i64 s_.owners, .int .i64 s_.seq, .int .i64 s_.first, .int .i64 s_.words, .int .i64 s_.depth] 48) := ⟨_, rfl⟩
        rw [← hw7] at L1 OW1 B1 CC1 OX1
        try rw [← hw7]
        have HSZ := Lib.hid (show w7.heap.size = wr.heap.size + 1 by rw [hw7]; simp)
        clear hw7 x0 x1 x2 x3 x4 cf
        have d0 := B1.out.cell 0
        have d1 := B1.out.cell 1
        have d2 := B1.out.cell 2
        have d3 := B1.out.cell 3
        have d4 := B1.out.cell 4
        simp only [List.getElem?_toArray, List.getElem?_cons_zero, List.getElem?_cons_succ] at d0 d1 d2 d3 d4
        go_wp2_with (at_builtin; refine wpList_append_own _ rfl _ _ 75 rfl ((w.heap.size + 1)) 128 i0 (.agg #[.int .i64 0, .int .i64 0, .int .i64 0, .int .i64 0, .int .i64 0]) 5 40 Try.underlying75 hi0 hz0 hz1 hz2 rfl (by decide) _ _ _ rfl (OW1.out.alloc _) ⟨w7.heap.size, 0, none⟩ 1 1 (rsnews s_) rfl rfl ?c1 ?c2 ?c3 ?c4 ?c5 ?_)
        case c1 =>
          have hbn := Blk.new w7 128 #[.int .i64 s_.owners, .int .i64 s_.seq, .int .i64 s_.first, .int .i64 s_.words, .int .i64 s_.depth]
          intro j u hj
          match j, hj with
          | 0, hj => simp [rsnews] at hj; subst hj; exact hbn.cell 0
          | 1, hj => simp [rsnews] at hj; subst hj; exact hbn.cell 1
          | 2, hj => simp [rsnews] at hj; subst hj; exact hbn.cell 2
          | 3, hj => simp [rsnews] at hj; subst hj; exact hbn.cell 3
          | 4, hj => simp [rsnews] at hj; subst hj; exact hbn.cell 4
        case c2 =>
          intro u hu
          simp only [rsnews, List.mem_cons, List.not_mem_nil, or_false] at hu
          rcases hu with rfl | rfl | rfl | rfl | rfl <;> rfl
        case c3 => have := HI.out; have := HM8.out; unfold maxLen; omega
        case c4 => have := HI.out; have := HM8.out; have := L1.out.size; omega
        case c5 => have := L1.out.size; have := L0.out.size; have := HSZ.out; simp; omega
        intro v' w8 hown' hgrow _
        have hbel' := (L1.out.alloc L1.out.size (.cells #[.int .i64 s_.owners, .int .i64 s_.seq, .int .i64 s_.first, .int .i64 s_.words, .int .i64 s_.depth] 128)).grown hgrow (by have := L1.out.size; simp; omega) (fun k hk => by have h1 := (OW1.out.lt k hk).1; omega)
        have L8 := Lib.hid hbel'
        have CC8 := Lib.hid ((CC1.out.alloc (.cells #[.int .i64 s_.owners, .int .i64 s_.seq, .int .i64 s_.first, .int .i64 s_.words, .int .i64 s_.depth] 128)).grown hgrow (fun e => by have h1 := (OW1.out.lt cb e.symm).1; have h2 := HCB.out; omega))
        have OX8 := Lib.hid (ownsRow_ex (OX1.out.alloc (.cells #[.int .i64 s_.owners, .int .i64 s_.seq, .int .i64 s_.first, .int .i64 s_.words, .int .i64 s_.depth] 128)) (ex_of_grown hgrow) (fun k hk hT => own_apart OX1.out OW1.out (by decide) k hk hT))
        rw [← HSO.out, ← rscells_succ] at hown'
        have OW8 := Lib.hid hown'
        clear hown' hgrow hbel' d0 d1 d2 d3 d4
        go_wp2_with fail
        exact ⟨⟨i + 1, HI.out, HQ.out.1, OW8.out, CC8.out, OX8.out, L8.out⟩, HQ.out.2⟩
    have kd : decide ((i : Int) < (n : Int)) = true := decide_eq_true (by omega)
    have ki0 : (0 : Int) ≤ (i : Int) := by omega
    have ki1 : (i : Int) < (n : Int) := by omega
    have HI := Lib.hid hlt
    clear hi hlt
    obtain ⟨b, off, hA, hb, hc⟩ := HG1.out (by have := HI.out; omega)
    subst hA
    have HC5 := Lib.hid (hc i HI.out)
    have x0 := (L0.out.cell (p := ⟨b, off + i * 6, none⟩) hb).trans HC5.out.1
    have x1 := (L0.out.cell (p := ⟨b, off + i * 6 + 1, none⟩) hb).trans HC5.out.2.1
    have x2 := (L0.out.cell (p := ⟨b, off + i * 6 + 2, none⟩) hb).trans HC5.out.2.2.1
    have x3 := (L0.out.cell (p := ⟨b, off + i * 6 + 3, none⟩) hb).trans HC5.out.2.2.2.1
    have x4 := (L0.out.cell (p := ⟨b, off + i * 6 + 4, none⟩) hb).trans HC5.out.2.2.2.2.1
    have x5 := (L0.out.cell (p := ⟨b, off + i * 6 + 5, none⟩) hb).trans HC5.out.2.2.2.2.2
    have HQ := Lib.hid (turn_no i n HI.out (by have h1 := HN8.out; unfold maxLen; omega))
    clear hb hc
    generalize hso : l i = s_ at *
    have HSO := Lib.hid hso
    clear hso
    have L1 := Lib.hid (L0.out.alloc L0.out.size (.cells #[.int .i64 s_.topic, .int .i64 s_.rank, .int .u64 s_.cur.next, .int .i64 s_.cur.cap, .int .u64 s_.cur.got, .int .u64 s_.cur.lost] 46))
    have OW1 := Lib.hid (OW.out.alloc (.cells #[.int .i64 s_.topic, .int .i64 s_.rank, .int .u64 s_.cur.next, .int .i64 s_.cur.cap, .int .u64 s_.cur.got, .int .u64 s_.cur.lost] 46))
    have CC1 := Lib.hid (CC.out.alloc (.cells #[.int .i64 s_.topic, .int .i64 s_.rank, .int .u64 s_.cur.next, .int .i64 s_.cur.cap, .int .u64 s_.cur.got, .int .u64 s_.cur.lost] 46))
    have OX1 := Lib.hid (OXX.out.alloc (.cells #[.int .i64 s_.topic, .int .i64 s_.rank, .int .u64 s_.cur.next, .int .i64 s_.cur.cap, .int .u64 s_.cur.got, .int .u64 s_.cur.lost] 46))
    have B1 := Lib.hid (Blk.new wr 46 #[.int .i64 s_.topic, .int .i64 s_.rank, .int .u64 s_.cur.next, .int .i64 s_.cur.cap, .int .u64 s_.cur.got, .int .u64 s_.cur.lost])
    go_upto_region 7 with fail
    obtain ⟨w7, hw7⟩ : ∃ w7, w7 = wr.alloc (.cells #[.int .i64 s_.topic, .int .i64 s_.rank, .int .u64 s_.cur.next, .int .i64 s_.cur.cap, .int .u64 s_.cur.got, .int .u64 s_.cur.lost] 46) := ⟨_, rfl⟩
    rw [← hw7] at L1 OW1 B1 CC1 OX1
    try rw [← hw7]
    have HSZ := Lib.hid (show w7.heap.size = wr.heap.size + 1 by rw [hw7]; simp)
    clear hw7 x0 x1 x2 x3 x4 x5 cf
    have d0 := B1.out.cell 0
    have d1 := B1.out.cell 1
    have d2 := B1.out.cell 2
    have d3 := B1.out.cell 3
    have d4 := B1.out.cell 4
    have d5 := B1.out.cell 5
    simp only [List.getElem?_toArray, List.getElem?_cons_zero, List.getElem?_cons_succ] at d0 d1 d2 d3 d4 d5
    go_wp2_with (at_builtin; refine wpList_append_own _ rfl _ _ 74 rfl ((w.heap.size + 1)) 127 i0 (.agg #[.int .i64 0, .int .i64 0, .int .u64 0, .int .i64 0, .int .u64 0, .int .u64 0]) 6 48 Try.underlying74 hi0 hz0 hz1 hz2 rfl (by decide) _ _ _ rfl (OW1.out.alloc _) ⟨w7.heap.size, 0, none⟩ 1 1 (unews s_) rfl rfl ?c1 ?c2 ?c3 ?c4 ?c5 ?_)
    case c1 =>
      have hbn := Blk.new w7 127 #[.int .i64 s_.topic, .int .i64 s_.rank, .int .u64 s_.cur.next, .int .i64 s_.cur.cap, .int .u64 s_.cur.got, .int .u64 s_.cur.lost]
      intro j u hj
      match j, hj with
      | 0, hj => simp [unews] at hj; subst hj; exact hbn.cell 0
      | 1, hj => simp [unews] at hj; subst hj; exact hbn.cell 1
      | 2, hj => simp [unews] at hj; subst hj; exact hbn.cell 2
      | 3, hj => simp [unews] at hj; subst hj; exact hbn.cell 3
      | 4, hj => simp [unews] at hj; subst hj; exact hbn.cell 4
      | 5, hj => simp [unews] at hj; subst hj; exact hbn.cell 5
    case c2 =>
      intro u hu
      simp only [unews, List.mem_cons, List.not_mem_nil, or_false] at hu
      rcases hu with rfl | rfl | rfl | rfl | rfl | rfl <;> rfl
    case c3 => have := HI.out; have := HN8.out; unfold maxLen; omega
    case c4 => have := HI.out; have := HN8.out; have := L1.out.size; omega
    case c5 => have := L1.out.size; have := L0.out.size; have := HSZ.out; simp; omega
    intro v' w8 hown' hgrow _
    have hbel' := (L1.out.alloc L1.out.size (.cells #[.int .i64 s_.topic, .int .i64 s_.rank, .int .u64 s_.cur.next, .int .i64 s_.cur.cap, .int .u64 s_.cur.got, .int .u64 s_.cur.lost] 127)).grown hgrow (by have := L1.out.size; simp; omega) (fun k hk => by have h1 := (OW1.out.lt k hk).1; omega)
    have L8 := Lib.hid hbel'
    have CC8 := Lib.hid ((CC1.out.alloc (.cells #[.int .i64 s_.topic, .int .i64 s_.rank, .int .u64 s_.cur.next, .int .i64 s_.cur.cap, .int .u64 s_.cur.got, .int .u64 s_.cur.lost] 127)).grown hgrow (fun e => by have h1 := (OW1.out.lt cb e.symm).1; have h2 := HCB.out; omega))
    have OX8 := Lib.hid (ownsRow_ex (OX1.out.alloc (.cells #[.int .i64 s_.topic, .int .i64 s_.rank, .int .u64 s_.cur.next, .int .i64 s_.cur.cap, .int .u64 s_.cur.got, .int .u64 s_.cur.lost] 127)) (ex_of_grown hgrow) (fun k hk hT => own_apart OX1.out OW1.out (by decide) k hk hT))
    rw [← HSO.out, ← ucells_succ] at hown'
    have OW8 := Lib.hid hown'
    clear hown' hgrow hbel' d0 d1 d2 d3 d4 d5
    go_wp2_with fail
    exact ⟨⟨i + 1, HI.out, HQ.out.1, OW8.out, CC8.out, OX8.out, L8.out⟩, HQ.out.2⟩
end Go.Proofs.Ythcaagkgddeabaa.Bank
