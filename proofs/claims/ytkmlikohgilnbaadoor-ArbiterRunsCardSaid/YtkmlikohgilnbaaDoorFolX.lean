/-
  Reg: what may come right behind what; the walk through Follows. Condition: the table of ways lies in block 0. By an AI agent.
-/
import Derived.Test.YtkmlikohgilnbaaDoorRegD
import Derived.Test.YtkmlikohgilnbaaDoorRegH
import Derived.Deep.CutRange
namespace Go.Proofs.YtkmlikohgilnbaaDoor.Reg
set_option linter.unusedVariables false
set_option linter.unusedSimpArgs false
open Go Go.RowKit Go.Proofs.YtkmlikohgilnbaaDoor.Base Go.Proofs.YtkmlikohgilnbaaDoor.Modes Go.Deep

/-- where two states differ first -/
theorem st_ways (D t : St) : D = t ∨ ((D.mode == t.mode) = false ∨ (D.mode == t.mode) = true ∧ (D.source == t.source) = false ∨ (D.mode == t.mode) = true ∧ (D.source == t.source) = true ∧ (D.hold == t.hold) = false ∨ (D.mode == t.mode) = true ∧ (D.source == t.source) = true ∧ (D.hold == t.hold) = true ∧ (D.flags == t.flags) = false ∨ (D.mode == t.mode) = true ∧ (D.source == t.source) = true ∧ (D.hold == t.hold) = true ∧ (D.flags == t.flags) = true ∧ (D.epoch == t.epoch) = false) := by
  by_cases h : D = t
  · exact .inl h
  · right
    obtain ⟨m, so, ho, fl, ep⟩ := D
    obtain ⟨m', so', ho', fl', ep'⟩ := t
    simp only
    by_cases a : m = m'
    · by_cases b : so = so'
      · by_cases c : ho = ho'
        · by_cases d : fl = fl'
          · have e : ¬ ep = ep' := fun e => h (by subst a b c d e; rfl)
            simp [a, b, c, d, e]
          · simp [a, b, c, d]
        · simp [a, b, c]
      · simp [a, b]
    · simp [a]
structure FSt (w wr : World) (s t : St) : Prop where
  bs : Blk wr w.heap.size 34 #[.int .i64 s.mode, .int .i64 s.source, .bool s.hold, .int .i64 s.flags, .int .u64 s.epoch]
  bt : Blk wr (w.heap.size + 1) 34 #[.int .i64 t.mode, .int .i64 t.source, .bool t.hold, .int .i64 t.flags, .int .u64 t.epoch]
  bl : Below w.heap.size w wr
  tab : Tab wr
theorem FSt.go {w wr w' : World} {s t : St} (h : FSt w wr s t) (hb : Below wr.heap.size wr w') : FSt w w' s t := ⟨h.bs.bl hb, h.bt.bl hb, Base.bl h.bl hb, h.tab.below hb⟩
def hitH (s t : St) (f : Int) : Prop := healthE s f = 0 ∧ healthS s f = t
def hitD (s t : St) (a : Ask) : Prop := decideE s a = 0 ∧ decideS s a = t
def Fol (s t : St) : Prop := hitH s t t.flags ∨ ∃ (k : Nat) (b : Bool), k < 4 ∧ hitD s t ⟨k, t.mode, b⟩
def FolRes (s t : St) (e : Ending) : Prop := ∃ b : Bool, e = .returned (.bool b) ∧ (b = true ↔ Fol s t)
theorem FolRes.yes {s t : St} (h : Fol s t) : FolRes s t (.returned (.bool true)) := ⟨true, rfl, by simp; exact h⟩
theorem FolRes.no {s t : St} (h : ¬ Fol s t) : FolRes s t (.returned (.bool false)) := ⟨false, rfl, by simp; exact h⟩
/-- the ways of a test of a told state -/
theorem hit_ways {e : Int} {D t : St} : (e = 0 ∧ D = t) ∨ (¬ (e = 0 ∧ D = t) ∧ ((e == 0) = false ∨ (e == 0) = true ∧ ((D.mode == t.mode) = false ∨ (D.mode == t.mode) = true ∧ (D.source == t.source) = false ∨ (D.mode == t.mode) = true ∧ (D.source == t.source) = true ∧ (D.hold == t.hold) = false ∨ (D.mode == t.mode) = true ∧ (D.source == t.source) = true ∧ (D.hold == t.hold) = true ∧ (D.flags == t.flags) = false ∨ (D.mode == t.mode) = true ∧ (D.source == t.source) = true ∧ (D.hold == t.hold) = true ∧ (D.flags == t.flags) = true ∧ (D.epoch == t.epoch) = false))) := by
  by_cases h : e = 0
  · rcases st_ways D t with h1 | h1
    · exact .inl ⟨h, h1⟩
    · refine .inr ⟨fun hh => ?_, .inr ⟨by simpa using h, h1⟩⟩
      obtain ⟨_, rfl⟩ := hh
      simp at h1
  · exact .inr ⟨fun hh => h hh.1, .inl (by simpa using h)⟩
set_option maxRecDepth 100000 in
set_option maxHeartbeats 32000000 in
theorem Follows_any (s : St) (hs : s.Ok) (t : St) (hst : t.Ok) (w : World) (ht : Tab w) : Calls Tryd.prog 28 #[s.val, t.val] w fun e w' => FolRes s t e ∧ Below w.heap.size w w' := by
  have HT := Lib.hid ht
  have HH := Lib.hid (Health_any s hs t.flags)
  have HD := Lib.hid (fun (k : Nat) (hk : k < 4) (b : Bool) => Decide_any s hs ⟨k, t.mode, b⟩ ⟨by constructor <;> (simp only; omega), hst.mode⟩)
  clear ht hs hst
  have hw := hit_ways (e := healthE s t.flags) (D := healthS s t.flags) (t := t)
  have HN0 := Lib.hid (fun h => (show hitH s t t.flags from h) : (healthE s t.flags = 0 ∧ healthS s t.flags = t) → hitH s t t.flags)
  have HM0 := Lib.hid (fun (h : ¬ (healthE s t.flags = 0 ∧ healthS s t.flags = t)) => (show ¬ hitH s t t.flags from h))
  generalize healthE s t.flags = hE at *
  generalize healthS s t.flags = hS at *
  have BW := Lib.hid (show Blk ((w.alloc (.cells #[.int .i64 s.mode, .int .i64 s.source, .bool s.hold, .int .i64 s.flags, .int .u64 s.epoch] 34)).alloc (.cells #[.int .i64 t.mode, .int .i64 t.source, .bool t.hold, .int .i64 t.flags, .int .u64 t.epoch] 34)) w.heap.size 34 #[.int .i64 s.mode, .int .i64 s.source, .bool s.hold, .int .i64 s.flags, .int .u64 s.epoch] from (Blk.new w 34 _).alloc _)
  rcases hw with ⟨rfl, rfl⟩ | ⟨hno, hw⟩
  · have HY := Lib.hid (FolRes.yes (.inl (HN0.out ⟨rfl, rfl⟩)))
    clear HN0 HM0 BW HD
    unfold St.val at *
    have hSe0 : (hS.mode == hS.mode) = true := by simp
    have hSe1 : (hS.source == hS.source) = true := by simp
    have hSe2 : (hS.hold == hS.hold) = true := by simp
    have hSe3 : (hS.flags == hS.flags) = true := by simp
    have hSe4 : (hS.epoch == hS.epoch) = true := by simp
    have Bs0 := Lib.hid ((blk_new' w (g := w.heap.size) (by simp) 34 #[.int .i64 s.mode, .int .i64 s.source, .bool s.hold, .int .i64 s.flags, .int .u64 s.epoch]).alloc (.cells #[.int .i64 hS.mode, .int .i64 hS.source, .bool hS.hold, .int .i64 hS.flags, .int .u64 hS.epoch] 34))
    have Bt0 := Lib.hid (blk_new' (w.alloc (.cells #[.int .i64 s.mode, .int .i64 s.source, .bool s.hold, .int .i64 s.flags, .int .u64 s.epoch] 34)) (g := w.heap.size + 1) (by simp) 34 #[.int .i64 hS.mode, .int .i64 hS.source, .bool hS.hold, .int .i64 hS.flags, .int .u64 hS.epoch])
    have L0 := Lib.hid (((Below.refl w.heap.size w).alloc (by first | exact Nat.le_refl _ | (simp; done) | (simp; omega)) (.cells #[.int .i64 s.mode, .int .i64 s.source, .bool s.hold, .int .i64 s.flags, .int .u64 s.epoch] 34)).alloc (by first | exact Nat.le_refl _ | (simp; done) | (simp; omega)) (.cells #[.int .i64 hS.mode, .int .i64 hS.source, .bool hS.hold, .int .i64 hS.flags, .int .u64 hS.epoch] 34))
    have T0 := Lib.hid (HT.out.below L0.out)
    go_enter Tryd.func28, Tryd.ntmps28
    go_wp2_with fail
    refine (HH.out _).mono ?_; rintro e wq1 ⟨rfl, hb1⟩
    have Bs1 := Lib.hid (Bs0.out.bl hb1)
    have Bt1 := Lib.hid (Bt0.out.bl hb1)
    have L1 := Lib.hid (bl L0.out hb1)
    have T1 := Lib.hid (T0.out.below hb1)
    clear hb1 Bs0 Bt0 L0 T0
    have sq0 := Bs1.out.cell 0
    have sq1 := Bs1.out.cell 1
    have sq2 := Bs1.out.cell 2
    have sq3 := Bs1.out.cell 3
    have sq4 := Bs1.out.cell 4
    simp only [List.getElem?_toArray, List.getElem?_cons_succ, List.getElem?_cons_zero] at sq0 sq1 sq2 sq3 sq4
    have tq0 := Bt1.out.cell 0
    have tq1 := Bt1.out.cell 1
    have tq2 := Bt1.out.cell 2
    have tq3 := Bt1.out.cell 3
    have tq4 := Bt1.out.cell 4
    simp only [List.getElem?_toArray, List.getElem?_cons_succ, List.getElem?_cons_zero] at tq0 tq1 tq2 tq3 tq4
    have vge := Lib.hid (show w.heap.size ≤ wq1.heap.size from L1.out.size)
    have sn1 : ¬ w.heap.size = wq1.heap.size := by have := Bs1.out.lt; omega
    have svne := Lib.hid sn1
    have sn2 : w.heap.size < wq1.heap.size := Bs1.out.lt
    have tn1 : ¬ (w.heap.size + 1) = wq1.heap.size := by have := Bt1.out.lt; omega
    have tvne := Lib.hid tn1
    have tn2 : (w.heap.size + 1) < wq1.heap.size := Bt1.out.lt
    have As1 := Lib.hid (Bs1.out.alloc (.cells #[.int .i64 hS.mode, .int .i64 hS.source, .bool hS.hold, .int .i64 hS.flags, .int .u64 hS.epoch] 34))
    have At1 := Lib.hid (Bt1.out.alloc (.cells #[.int .i64 hS.mode, .int .i64 hS.source, .bool hS.hold, .int .i64 hS.flags, .int .u64 hS.epoch] 34))
    have Ta1 := Lib.hid (T1.out.below ((Below.refl _ _).alloc (Nat.le_refl _) (.cells #[.int .i64 hS.mode, .int .i64 hS.source, .bool hS.hold, .int .i64 hS.flags, .int .u64 hS.epoch] 34)))
    have Av1 := Lib.hid (Blk.new wq1 34 #[.int .i64 hS.mode, .int .i64 hS.source, .bool hS.hold, .int .i64 hS.flags, .int .u64 hS.epoch])
    have M1 := Lib.hid (L1.out.alloc L1.out.size (.cells #[.int .i64 hS.mode, .int .i64 hS.source, .bool hS.hold, .int .i64 hS.flags, .int .u64 hS.epoch] 34))
    clear Bs1 Bt1 L1 T1
    go_wp2_with fail
    go_ret
    exact ⟨HY.out, M1.out⟩
  · have HM := Lib.hid (HM0.out hno)
    clear HN0 HM0 BW hno
    unfold St.val at HH
    have Bs0 := Lib.hid ((blk_new' w (g := w.heap.size) (by simp) 34 #[.int .i64 s.mode, .int .i64 s.source, .bool s.hold, .int .i64 s.flags, .int .u64 s.epoch]).alloc (.cells #[.int .i64 t.mode, .int .i64 t.source, .bool t.hold, .int .i64 t.flags, .int .u64 t.epoch] 34))
    have Bt0 := Lib.hid (blk_new' (w.alloc (.cells #[.int .i64 s.mode, .int .i64 s.source, .bool s.hold, .int .i64 s.flags, .int .u64 s.epoch] 34)) (g := w.heap.size + 1) (by simp) 34 #[.int .i64 t.mode, .int .i64 t.source, .bool t.hold, .int .i64 t.flags, .int .u64 t.epoch])
    have L0 := Lib.hid (((Below.refl w.heap.size w).alloc (by first | exact Nat.le_refl _ | (simp; done) | (simp; omega)) (.cells #[.int .i64 s.mode, .int .i64 s.source, .bool s.hold, .int .i64 s.flags, .int .u64 s.epoch] 34)).alloc (by first | exact Nat.le_refl _ | (simp; done) | (simp; omega)) (.cells #[.int .i64 t.mode, .int .i64 t.source, .bool t.hold, .int .i64 t.flags, .int .u64 t.epoch] 34))
    have T0 := Lib.hid (HT.out.below L0.out)
    unfold St.val
    go_enter Tryd.func28, Tryd.ntmps28
    have hcutw : ∀ (W1 : World), Below w.heap.size w W1 → Blk W1 w.heap.size 34 #[.int .i64 s.mode, .int .i64 s.source, .bool s.hold, .int .i64 s.flags, .int .u64 s.epoch] → Blk W1 (w.heap.size + 1) 34 #[.int .i64 t.mode, .int .i64 t.source, .bool t.hold, .int .i64 t.flags, .int .u64 t.epoch] → True := fun _ _ _ _ => trivial
    clear hcutw
    go_wp2_with fail
    refine (HH.out _).mono ?_; rintro e wq1 ⟨rfl, hb1⟩
    have Bs1 := Lib.hid (Bs0.out.bl hb1)
    have Bt1 := Lib.hid (Bt0.out.bl hb1)
    have L1 := Lib.hid (bl L0.out hb1)
    have T1 := Lib.hid (T0.out.below hb1)
    clear hb1 Bs0 Bt0 L0 T0
    have sq0 := Bs1.out.cell 0
    have sq1 := Bs1.out.cell 1
    have sq2 := Bs1.out.cell 2
    have sq3 := Bs1.out.cell 3
    have sq4 := Bs1.out.cell 4
    simp only [List.getElem?_toArray, List.getElem?_cons_succ, List.getElem?_cons_zero] at sq0 sq1 sq2 sq3 sq4
    have tq0 := Bt1.out.cell 0
    have tq1 := Bt1.out.cell 1
    have tq2 := Bt1.out.cell 2
    have tq3 := Bt1.out.cell 3
    have tq4 := Bt1.out.cell 4
    simp only [List.getElem?_toArray, List.getElem?_cons_succ, List.getElem?_cons_zero] at tq0 tq1 tq2 tq3 tq4
    have vge := Lib.hid (show w.heap.size ≤ wq1.heap.size from L1.out.size)
    have sn1 : ¬ w.heap.size = wq1.heap.size := by have := Bs1.out.lt; omega
    have svne := Lib.hid sn1
    have sn2 : w.heap.size < wq1.heap.size := Bs1.out.lt
    have tn1 : ¬ (w.heap.size + 1) = wq1.heap.size := by have := Bt1.out.lt; omega
    have tvne := Lib.hid tn1
    have tn2 : (w.heap.size + 1) < wq1.heap.size := Bt1.out.lt
    have As1 := Lib.hid (Bs1.out.alloc (.cells #[.int .i64 hS.mode, .int .i64 hS.source, .bool hS.hold, .int .i64 hS.flags, .int .u64 hS.epoch] 34))
    have At1 := Lib.hid (Bt1.out.alloc (.cells #[.int .i64 hS.mode, .int .i64 hS.source, .bool hS.hold, .int .i64 hS.flags, .int .u64 hS.epoch] 34))
    have Ta1 := Lib.hid (T1.out.below ((Below.refl _ _).alloc (Nat.le_refl _) (.cells #[.int .i64 hS.mode, .int .i64 hS.source, .bool hS.hold, .int .i64 hS.flags, .int .u64 hS.epoch] 34)))
    have Av1 := Lib.hid (Blk.new wq1 34 #[.int .i64 hS.mode, .int .i64 hS.source, .bool hS.hold, .int .i64 hS.flags, .int .u64 hS.epoch])
    have M1 := Lib.hid (L1.out.alloc L1.out.size (.cells #[.int .i64 hS.mode, .int .i64 hS.source, .bool hS.hold, .int .i64 hS.flags, .int .u64 hS.epoch] 34))
    clear Bs1 Bt1 L1 T1
    go_upto_region 2 with fail
    go_cut [25] from 19 to 24 (fun v wx => v = .bool false ∧ wx = wq1.alloc (.cells #[.int .i64 hS.mode, .int .i64 hS.source, .bool hS.hold, .int .i64 hS.flags, .int .u64 hS.epoch] 34))
    case first =>
      rcases hw with q0 | ⟨q0, f0 | ⟨f0, f1⟩ | ⟨f0, f1, f2⟩ | ⟨f0, f1, f2, f3⟩ | ⟨f0, f1, f2, f3, f4⟩⟩
      all_goals
        go_wp2_with fail
        go_meet
        exact ⟨rfl, rfl⟩
    case rest =>
      obtain ⟨rfl, rfl⟩ := hcut
      clear hw
      have F0 := Lib.hid (show FSt w (wq1.alloc (.cells #[.int .i64 hS.mode, .int .i64 hS.source, .bool hS.hold, .int .i64 hS.flags, .int .u64 hS.epoch] 34)) s t from ⟨As1.out, At1.out, M1.out, Ta1.out⟩)
      clear As1 At1 M1 Ta1 Av1 vge svne tvne HH sq0
      go_wp2_with fail
      generalize wq1.alloc (.cells #[.int .i64 hS.mode, .int .i64 hS.source, .bool hS.hold, .int .i64 hS.flags, .int .u64 hS.epoch] 34) = W1 at *
      go_loopw [26] (fun i wr => ∃ k : Nat, k ≤ 4 ∧ i = .int .i64 k ∧ (∀ k' : Nat, k' < k → ∀ b, ¬ hitD s t ⟨k', t.mode, b⟩) ∧ FSt w wr s t) (fun i _ => 4 - (intOf i).toNat)
      case atStart => exact ⟨0, by omega, rfl, fun k' h => by omega, F0.out⟩
      case round =>
        obtain ⟨k, hk, rfl, hall, hf⟩ := hrel
        have HALL := Lib.hid hall
        have F1 := Lib.hid hf
        clear hall hf F0
        by_cases hlt : k < 4
        · obtain ⟨wo, rfl⟩ : ∃ wo : World, wo = wr := ⟨_, rfl⟩
          have hd1 : decide ((k : Int) < 4) = true := decide_eq_true (by omega)
          have F2 := Lib.hid (F1.out.go ((Below.refl _ _).alloc (Nat.le_refl _) (.cells #[.bool false, .bool true] 4)))
          have BL := Lib.hid (Blk.new wo 4 #[.bool false, .bool true])
          go_wp2_with fail
          generalize wo.heap.size = gl at *
          generalize wo.alloc (.cells #[.bool false, .bool true] 4) = W2 at *
          go_loopw [31] (fun i wr => ∃ j : Nat, j ≤ 2 ∧ i = .int .i64 j ∧ (∀ j' : Nat, j' < j → ¬ hitD s t ⟨k, t.mode, j' == 1⟩) ∧ FSt w wr s t ∧ Blk wr gl 4 #[.bool false, .bool true]) (fun i _ => 2 - (intOf i).toNat)
          case atStart => exact ⟨0, by omega, rfl, fun j' h => by omega, F2.out, BL.out⟩
          case round =>
            obtain ⟨j, hj, rfl, hall2, hf2, hbl⟩ := hrel
            have HALL2 := Lib.hid hall2
            have F3 := Lib.hid hf2
            have BL3 := Lib.hid hbl
            clear hall2 F2 BL F1
            have s0 := hf2.bs.cell 0
            have s1 := hf2.bs.cell 1
            have s2 := hf2.bs.cell 2
            have s3 := hf2.bs.cell 3
            have s4 := hf2.bs.cell 4
            simp only [List.getElem?_toArray, List.getElem?_cons_succ, List.getElem?_cons_zero] at s0 s1 s2 s3 s4
            have t0 := hf2.bt.cell 0
            have t1 := hf2.bt.cell 1
            have t2 := hf2.bt.cell 2
            have t3 := hf2.bt.cell 3
            have t4 := hf2.bt.cell 4
            simp only [List.getElem?_toArray, List.getElem?_cons_succ, List.getElem?_cons_zero] at t0 t1 t2 t3 t4
            clear hf2
            by_cases hjl : j < 2
            · have hgo : ∀ (b : Bool), (j == 1) = b → wr.cell? ⟨gl, j, none⟩ = some (.bool b) := fun b hb => by
                rw [BL3.out.cell j, ← hb]
                rcases (show j = 0 ∨ j = 1 by omega) with rfl | rfl <;> rfl
              obtain ⟨b, hb⟩ : ∃ b, (j == 1) = b := ⟨_, rfl⟩
              have c0 := hgo b hb
              have HBJ := Lib.hid hb
              have HDC := Lib.hid (HD.out k hlt b wr F3.out.tab)
              have hw2 := hit_ways (e := decideE s ⟨k, t.mode, b⟩) (D := decideS s ⟨k, t.mode, b⟩) (t := t)
              have HYES := Lib.hid (show (decideE s ⟨k, t.mode, b⟩ = 0 ∧ decideS s ⟨k, t.mode, b⟩ = t) → FolRes s t (.returned (.bool true)) from fun h => FolRes.yes (.inr ⟨k, b, hlt, h⟩))
              have HNOT := Lib.hid (show ¬ (decideE s ⟨k, t.mode, b⟩ = 0 ∧ decideS s ⟨k, t.mode, b⟩ = t) → ¬ hitD s t ⟨k, t.mode, j == 1⟩ from fun h => by rw [hb]; exact h)
              generalize decideE s ⟨k, t.mode, b⟩ = dE at *
              generalize hdS : decideS s ⟨k, t.mode, b⟩ = dS at *
              clear hdS hgo hb
              unfold St.val Ask.val at HDC
              simp only at HDC
              have hd2 : decide ((j : Int) < 2) = true := decide_eq_true (by omega)
              have hj0 : (0 : Int) ≤ (j : Int) := by omega
              have hj2 : (j : Int) < 2 := by omega
              go_wp2_with fail
              refine HDC.out.mono ?_; rintro e w5 ⟨rfl, hb5⟩
              have F5 := Lib.hid (F3.out.go hb5)
              have BL5 := Lib.hid (BL3.out.bl hb5)
              clear hb5 c0 s0 s1 s2 s3 s4 t0 t1 t2 t3 t4
              have t0 := F5.out.bt.cell 0
              have t1 := F5.out.bt.cell 1
              have t2 := F5.out.bt.cell 2
              have t3 := F5.out.bt.cell 3
              have t4 := F5.out.bt.cell 4
              simp only [List.getElem?_toArray, List.getElem?_cons_succ, List.getElem?_cons_zero] at t0 t1 t2 t3 t4
              have n1 : ¬ w.heap.size + 1 = w5.heap.size := by have := F5.out.bt.lt; omega
              have n2 : w.heap.size + 1 < w5.heap.size := F5.out.bt.lt
              have F6 := Lib.hid (F5.out.go ((Below.refl _ _).alloc (Nat.le_refl _) (.cells #[.int .i64 dS.mode, .int .i64 dS.source, .bool dS.hold, .int .i64 dS.flags, .int .u64 dS.epoch] 34)))
              have BL6 := Lib.hid (BL5.out.alloc (.cells #[.int .i64 dS.mode, .int .i64 dS.source, .bool dS.hold, .int .i64 dS.flags, .int .u64 dS.epoch] 34))
              rcases hw2 with ⟨rfl, rfl⟩ | ⟨hno2, hw2⟩
              · have HY := Lib.hid (HYES.out ⟨rfl, rfl⟩)
                clear HYES HNOT
                have e0 : (dS.mode == dS.mode) = true := by simp
                have e1 : (dS.source == dS.source) = true := by simp
                have e2 : (dS.hold == dS.hold) = true := by simp
                have e3 : (dS.flags == dS.flags) = true := by simp
                have e4 : (dS.epoch == dS.epoch) = true := by simp
                go_wp2_with fail
                go_ret
                exact ⟨HY.out, F6.out.bl⟩
              · have HN2 := Lib.hid (HNOT.out hno2)
                clear HYES HNOT hno2
                go_upto_region 11 with fail
                go_cut [51] from 45 to 50 (fun v wx => v = .bool false ∧ wx = w5.alloc (.cells #[.int .i64 dS.mode, .int .i64 dS.source, .bool dS.hold, .int .i64 dS.flags, .int .u64 dS.epoch] 34))
                case first =>
                  rcases hw2 with q0 | ⟨q0, f0 | ⟨f0, f1⟩ | ⟨f0, f1, f2⟩ | ⟨f0, f1, f2, f3⟩ | ⟨f0, f1, f2, f3, f4⟩⟩
                  all_goals
                    go_wp2_with fail
                    go_meet
                    exact ⟨rfl, rfl⟩
                case rest =>
                  obtain ⟨rfl, rfl⟩ := hcut
                  clear hw2
                  go_wp2_with fail
                  go_roundw
                  case rel => exact ⟨j + 1, by omega, by go_num, fun j' h => by
                    rcases Nat.lt_succ_iff_lt_or_eq.1 h with h1 | h1
                    · exact HALL2.out j' h1
                    · rw [h1]; exact HN2.out, F6.out, BL6.out⟩
                  case measure => simp [intOf]; omega
            · obtain rfl : j = 2 := by omega
              have HK := Lib.hid (show ∀ b, ¬ hitD s t ⟨k, t.mode, b⟩ from fun b => by
                cases b
                · exact HALL2.out 0 (by decide)
                · exact HALL2.out 1 (by decide))
              go_wp2_with fail
              go_roundw
              case rel => exact ⟨k + 1, by omega, by go_num, fun k' h => by
                rcases Nat.lt_succ_iff_lt_or_eq.1 h with h1 | h1
                · exact HALL.out k' h1
                · rw [h1]; exact HK.out, F3.out⟩
              case measure => simp [intOf]; omega
        · obtain rfl : k = 4 := by omega
          have HR := Lib.hid (FolRes.no (s := s) (t := t) (by
            rintro (h | ⟨k, b, hk, h⟩)
            · exact HM.out h
            · exact HALL.out k hk b h))
          go_wp2_with fail
          go_ret
          exact ⟨HR.out, F1.out.bl⟩
end Go.Proofs.YtkmlikohgilnbaaDoor.Reg
