/-
  Reg: the walk through the reference's Follows. Condition: the table of ways lies in block 0. By an AI agent.
-/
import Derived.Test.YtjnhmoafljfnkaaDoorFolW
import Derived.Test.YtjnhmoafljfnkaaDoorRefM
import Derived.Deep.CutRange
namespace Go.Proofs.YtjnhmoafljfnkaaDoor.Reg
set_option linter.unusedVariables false
set_option linter.unusedSimpArgs false
open Go Go.RowKit Go.Proofs.YtjnhmoafljfnkaaDoor.Base Go.Proofs.YtjnhmoafljfnkaaDoor.Modes Go.Deep

theorem hitH_flags {s t : St} {f : Int} (h : hitH s t f) : f = t.flags ∧ 0 ≤ f ∧ f ≤ 63 := by
  obtain ⟨h1, h2⟩ := h
  have h3 : healthS s f = ⟨s.mode, s.source, s.hold, f, s.epoch + 1⟩ := by unfold healthS; rw [if_pos h1]
  rw [h3] at h2
  subst h2
  refine ⟨rfl, ?_⟩
  unfold healthE at h1
  split at h1
  · cases h1
  · split at h1
    · cases h1
    · rename_i q; simpa using q
theorem decide_in {s : St} {a : Ask} (h : decideE s a = 0) : a.In := by
  by_cases hi : a.In
  · exact hi
  · unfold decideE at h
    rw [if_pos hi] at h
    split at h <;> cases h
theorem hitD_mode {s t : St} {a : Ask} (h : hitD s t a) : a.In ∧ t.mode = a.mode := by
  obtain ⟨h1, h2⟩ := h
  refine ⟨decide_in h1, ?_⟩
  have h3 : decideS s a = nextS s a := by unfold decideS; rw [if_pos h1]
  rw [h3] at h2
  rw [← h2]
  unfold nextS
  split
  · rename_i q; exact q.2.symm
  · split <;> rfl
def askK (k : Nat) : Ask := ⟨(k : Int) / 16, (k : Int) / 2 % 8, (k : Int) % 2 == 1⟩
theorem fol_no {s t : St} (h1 : ∀ f : Nat, f < 64 → ¬ hitH s t f) (h2 : ∀ k : Nat, k < 64 → ¬ hitD s t (askK k)) : ¬ Fol s t := by
  rintro (h | ⟨k, b, hk, h⟩)
  · obtain ⟨_, f0, f1⟩ := hitH_flags h
    refine h1 t.flags.toNat (by omega) ?_
    rwa [show ((t.flags.toNat : Nat) : Int) = t.flags by omega]
  · obtain ⟨hin, _⟩ := hitD_mode h
    obtain ⟨_, ⟨m0, m1⟩⟩ := hin
    simp only at m0 m1
    refine h2 (k * 16 + t.mode.toNat * 2 + (if b then 1 else 0)) (by split <;> omega) ?_
    have e : askK (k * 16 + t.mode.toNat * 2 + (if b then 1 else 0)) = ⟨k, t.mode, b⟩ := by
      unfold askK
      cases b
      · simp only [Bool.false_eq_true, if_false, Nat.add_zero, Ask.mk.injEq]
        refine ⟨by omega, by omega, ?_⟩
        simp; omega
      · simp only [if_true, Ask.mk.injEq]
        refine ⟨by omega, by omega, ?_⟩
        simp; omega
    rw [e]; exact h
theorem fol_yesH {s t : St} {f : Int} (h : hitH s t f) : Fol s t := by
  have h1 := (hitH_flags h).1
  subst h1
  exact .inl h
theorem fol_yesD {s t : St} {a : Ask} (h : hitD s t a) : Fol s t := by
  obtain ⟨⟨⟨a0, a1⟩, _⟩, hm⟩ := hitD_mode h
  refine .inr ⟨a.source.toNat, a.free, by omega, ?_⟩
  rw [hm, show ((a.source.toNat : Nat) : Int) = a.source by omega]
  exact h
set_option maxRecDepth 100000 in
set_option maxHeartbeats 32000000 in
theorem refFollows_any (s : St) (hs : s.Ok) (t : St) (w : World) : Calls Tryd.prog 20 #[s.val, t.val] w fun e w' => FolRes s t e ∧ Below w.heap.size w w' := by
  have HH := Lib.hid (fun (f : Nat) => refHealth_any s hs (f : Int))
  have HD := Lib.hid (fun (k : Nat) (hk : k < 64) => refDecide_any s hs (askK k) ⟨by unfold askK; constructor <;> (simp only; omega), by unfold askK; constructor <;> (simp only; omega)⟩)
  have F0 := Lib.hid (show Blk ((w.alloc (.cells #[.int .i64 s.mode, .int .i64 s.source, .bool s.hold, .int .i64 s.flags, .int .u64 s.epoch] 24)).alloc (.cells #[.int .i64 t.mode, .int .i64 t.source, .bool t.hold, .int .i64 t.flags, .int .u64 t.epoch] 24)) w.heap.size 24 #[.int .i64 s.mode, .int .i64 s.source, .bool s.hold, .int .i64 s.flags, .int .u64 s.epoch] ∧ Blk ((w.alloc (.cells #[.int .i64 s.mode, .int .i64 s.source, .bool s.hold, .int .i64 s.flags, .int .u64 s.epoch] 24)).alloc (.cells #[.int .i64 t.mode, .int .i64 t.source, .bool t.hold, .int .i64 t.flags, .int .u64 t.epoch] 24)) (w.heap.size + 1) 24 #[.int .i64 t.mode, .int .i64 t.source, .bool t.hold, .int .i64 t.flags, .int .u64 t.epoch] ∧ Below w.heap.size w ((w.alloc (.cells #[.int .i64 s.mode, .int .i64 s.source, .bool s.hold, .int .i64 s.flags, .int .u64 s.epoch] 24)).alloc (.cells #[.int .i64 t.mode, .int .i64 t.source, .bool t.hold, .int .i64 t.flags, .int .u64 t.epoch] 24)) from ⟨(Blk.new w 24 _).alloc _, blk_new' (w.alloc (.cells #[.int .i64 s.mode, .int .i64 s.source, .bool s.hold, .int .i64 s.flags, .int .u64 s.epoch] 24)) (g := w.heap.size + 1) (by simp) 24 _, ((Below.refl _ _).alloc (Nat.le_refl _) _).alloc (by simp) _⟩)
  clear hs
  unfold St.val
  go_enter Tryd.func20, Tryd.ntmps20
  go_wp2_with fail
  generalize (w.alloc (.cells #[.int .i64 s.mode, .int .i64 s.source, .bool s.hold, .int .i64 s.flags, .int .u64 s.epoch] 24)).alloc (.cells #[.int .i64 t.mode, .int .i64 t.source, .bool t.hold, .int .i64 t.flags, .int .u64 t.epoch] 24) = W1 at *
  go_loopw [5] (fun i wr => ∃ k : Nat, k ≤ 64 ∧ i = .int .i64 k ∧ (∀ f : Nat, f < k → ¬ hitH s t f) ∧ Blk wr w.heap.size 24 #[.int .i64 s.mode, .int .i64 s.source, .bool s.hold, .int .i64 s.flags, .int .u64 s.epoch] ∧ Blk wr (w.heap.size + 1) 24 #[.int .i64 t.mode, .int .i64 t.source, .bool t.hold, .int .i64 t.flags, .int .u64 t.epoch] ∧ Below w.heap.size w wr) (fun i _ => 64 - (intOf i).toNat)
  case atStart => exact ⟨0, by omega, rfl, fun k' h => by omega, F0.out⟩
  case round =>
    obtain ⟨k, hk, rfl, hall, hfs, hft, hfb⟩ := hrel
    have HALL := Lib.hid hall
    have FS := Lib.hid hfs
    have FT := Lib.hid hft
    have FB := Lib.hid hfb
    clear hall F0 hft hfb
    by_cases hlt : k < 64
    · have hd1 : decide ((k : Int) < 64) = true := decide_eq_true (by omega)
      have s0 := hfs.cell 0
      have s1 := hfs.cell 1
      have s2 := hfs.cell 2
      have s3 := hfs.cell 3
      have s4 := hfs.cell 4
      simp only [List.getElem?_toArray, List.getElem?_cons_succ, List.getElem?_cons_zero] at s0 s1 s2 s3 s4
      clear hfs
      have HDC := Lib.hid (HH.out k wr)
      have hw2 := hit_ways (e := healthE s (k : Int)) (D := healthS s (k : Int)) (t := t)
      have HYES := Lib.hid (show (healthE s (k : Int) = 0 ∧ healthS s (k : Int) = t) → FolRes s t (.returned (.bool true)) from fun h => FolRes.yes (fol_yesH h))
      have HNOT := Lib.hid (show ¬ (healthE s (k : Int) = 0 ∧ healthS s (k : Int) = t) → ¬ hitH s t k from fun h => h)
      generalize healthE s (k : Int) = dE at *
      generalize hdS : healthS s (k : Int) = dS at *
      clear hdS
      unfold St.val  at HDC
      skip
      go_wp2_with fail
      refine HDC.out.mono ?_; rintro e w5 ⟨rfl, hb5⟩
      have FS5 := Lib.hid (FS.out.bl hb5)
      have FT5 := Lib.hid (FT.out.bl hb5)
      have FB5 := Lib.hid (bl FB.out hb5)
      clear hb5 s0 s1 s2 s3 s4
      have t0 := FT5.out.cell 0
      have t1 := FT5.out.cell 1
      have t2 := FT5.out.cell 2
      have t3 := FT5.out.cell 3
      have t4 := FT5.out.cell 4
      simp only [List.getElem?_toArray, List.getElem?_cons_succ, List.getElem?_cons_zero] at t0 t1 t2 t3 t4
      have n1 : ¬ w.heap.size + 1 = w5.heap.size := by have := FT5.out.lt; omega
      have n2 : w.heap.size + 1 < w5.heap.size := FT5.out.lt
      have FS6 := Lib.hid (FS5.out.alloc (.cells #[.int .i64 dS.mode, .int .i64 dS.source, .bool dS.hold, .int .i64 dS.flags, .int .u64 dS.epoch] 24))
      have FT6 := Lib.hid (FT5.out.alloc (.cells #[.int .i64 dS.mode, .int .i64 dS.source, .bool dS.hold, .int .i64 dS.flags, .int .u64 dS.epoch] 24))
      have FB6 := Lib.hid (FB5.out.alloc FB5.out.size (.cells #[.int .i64 dS.mode, .int .i64 dS.source, .bool dS.hold, .int .i64 dS.flags, .int .u64 dS.epoch] 24))
      rcases hw2 with ⟨rfl, rfl⟩ | ⟨hno2, hw2⟩
      · have HY := Lib.hid (HYES.out ⟨rfl, rfl⟩)
        clear HYES HNOT
        have e0 : (dS.mode == dS.mode) = true := by simp
        have e1 : (dS.source == dS.source) = true := by simp
        have e2 : (dS.hold == dS.hold) = true := by simp
        have e3 : (dS.flags == dS.flags) = true := by simp
        have e4 : (dS.epoch == dS.epoch) = true := by simp
        go_wp2_with fail
        go_ret
        exact ⟨HY.out, FB6.out⟩
      · have HN2 := Lib.hid (HNOT.out hno2)
        clear HYES HNOT hno2
        go_upto_region 5 with fail
        go_cut [27] from 21 to 26 (fun v wx => v = .bool false ∧ wx = w5.alloc (.cells #[.int .i64 dS.mode, .int .i64 dS.source, .bool dS.hold, .int .i64 dS.flags, .int .u64 dS.epoch] 24))
        case first =>
          rcases hw2 with q0 | ⟨q0, f0 | ⟨f0, f1⟩ | ⟨f0, f1, f2⟩ | ⟨f0, f1, f2, f3⟩ | ⟨f0, f1, f2, f3, f4⟩⟩
          all_goals
            go_wp2_with fail
            go_meet
            exact ⟨rfl, rfl⟩
        case rest =>
          obtain ⟨rfl, rfl⟩ := hcut
          clear hw2
          go_wp2_with fail
          go_roundw
          case rel => exact ⟨k + 1, by omega, by go_num, fun k' h => by
            rcases Nat.lt_succ_iff_lt_or_eq.1 h with h1 | h1
            · exact HALL.out k' h1
            · rw [h1]; exact HN2.out, FS6.out, FT6.out, FB6.out⟩
          case measure => simp [intOf]; omega
    · have hk64 : k = 64 := by omega
      have hd1 : decide ((k : Int) < 64) = false := decide_eq_false (by omega)
      have HALLH := Lib.hid (show ∀ f : Nat, f < 64 → ¬ hitH s t f from fun f hf => HALL.out f (by omega))
      clear hk64
      clear HALL HH hfs
      go_wp2_with fail
      go_loopw [8] (fun i wr => ∃ k : Nat, k ≤ 64 ∧ i = .int .i64 k ∧ (∀ f : Nat, f < k → ¬ hitD s t (askK f)) ∧ Blk wr w.heap.size 24 #[.int .i64 s.mode, .int .i64 s.source, .bool s.hold, .int .i64 s.flags, .int .u64 s.epoch] ∧ Blk wr (w.heap.size + 1) 24 #[.int .i64 t.mode, .int .i64 t.source, .bool t.hold, .int .i64 t.flags, .int .u64 t.epoch] ∧ Below w.heap.size w wr) (fun i _ => 64 - (intOf i).toNat)
      case atStart => exact ⟨0, by omega, rfl, fun k' h => by omega, FS.out, FT.out, FB.out⟩
      case round =>
        clear FS FT FB
        obtain ⟨k, hk, rfl, hall, hfs, hft, hfb⟩ := hrel
        have HALL := Lib.hid hall
        have FS := Lib.hid hfs
        have FT := Lib.hid hft
        have FB := Lib.hid hfb
        clear hall hft hfb
        by_cases hlt : k < 64
        · have hd1 : decide ((k : Int) < 64) = true := decide_eq_true (by omega)
          have s0 := hfs.cell 0
          have s1 := hfs.cell 1
          have s2 := hfs.cell 2
          have s3 := hfs.cell 3
          have s4 := hfs.cell 4
          simp only [List.getElem?_toArray, List.getElem?_cons_succ, List.getElem?_cons_zero] at s0 s1 s2 s3 s4
          clear hfs
          have HDC := Lib.hid (HD.out k hlt wr)
          have hw2 := hit_ways (e := decideE s (askK k)) (D := decideS s (askK k)) (t := t)
          have HYES := Lib.hid (show (decideE s (askK k) = 0 ∧ decideS s (askK k) = t) → FolRes s t (.returned (.bool true)) from fun h => FolRes.yes (fol_yesD h))
          have HNOT := Lib.hid (show ¬ (decideE s (askK k) = 0 ∧ decideS s (askK k) = t) → ¬ hitD s t (askK k) from fun h => h)
          generalize decideE s (askK k) = dE at *
          generalize hdS : decideS s (askK k) = dS at *
          clear hdS
          unfold St.val Ask.val askK at HDC
          simp only at HDC
          go_wp2_with fail
          refine HDC.out.mono ?_; rintro e w5 ⟨rfl, hb5⟩
          have FS5 := Lib.hid (FS.out.bl hb5)
          have FT5 := Lib.hid (FT.out.bl hb5)
          have FB5 := Lib.hid (bl FB.out hb5)
          clear hb5 s0 s1 s2 s3 s4
          have t0 := FT5.out.cell 0
          have t1 := FT5.out.cell 1
          have t2 := FT5.out.cell 2
          have t3 := FT5.out.cell 3
          have t4 := FT5.out.cell 4
          simp only [List.getElem?_toArray, List.getElem?_cons_succ, List.getElem?_cons_zero] at t0 t1 t2 t3 t4
          have n1 : ¬ w.heap.size + 1 = w5.heap.size := by have := FT5.out.lt; omega
          have n2 : w.heap.size + 1 < w5.heap.size := FT5.out.lt
          have FS6 := Lib.hid (FS5.out.alloc (.cells #[.int .i64 dS.mode, .int .i64 dS.source, .bool dS.hold, .int .i64 dS.flags, .int .u64 dS.epoch] 24))
          have FT6 := Lib.hid (FT5.out.alloc (.cells #[.int .i64 dS.mode, .int .i64 dS.source, .bool dS.hold, .int .i64 dS.flags, .int .u64 dS.epoch] 24))
          have FB6 := Lib.hid (FB5.out.alloc FB5.out.size (.cells #[.int .i64 dS.mode, .int .i64 dS.source, .bool dS.hold, .int .i64 dS.flags, .int .u64 dS.epoch] 24))
          rcases hw2 with ⟨rfl, rfl⟩ | ⟨hno2, hw2⟩
          · have HY := Lib.hid (HYES.out ⟨rfl, rfl⟩)
            clear HYES HNOT
            have e0 : (dS.mode == dS.mode) = true := by simp
            have e1 : (dS.source == dS.source) = true := by simp
            have e2 : (dS.hold == dS.hold) = true := by simp
            have e3 : (dS.flags == dS.flags) = true := by simp
            have e4 : (dS.epoch == dS.epoch) = true := by simp
            go_wp2_with fail
            go_ret
            exact ⟨HY.out, FB6.out⟩
          · have HN2 := Lib.hid (HNOT.out hno2)
            clear HYES HNOT hno2
            go_upto_region 11 with fail
            go_cut [52] from 46 to 51 (fun v wx => v = .bool false ∧ wx = w5.alloc (.cells #[.int .i64 dS.mode, .int .i64 dS.source, .bool dS.hold, .int .i64 dS.flags, .int .u64 dS.epoch] 24))
            case first =>
              rcases hw2 with q0 | ⟨q0, f0 | ⟨f0, f1⟩ | ⟨f0, f1, f2⟩ | ⟨f0, f1, f2, f3⟩ | ⟨f0, f1, f2, f3, f4⟩⟩
              all_goals
                go_wp2_with fail
                go_meet
                exact ⟨rfl, rfl⟩
            case rest =>
              obtain ⟨rfl, rfl⟩ := hcut
              clear hw2
              go_wp2_with fail
              go_roundw
              case rel => exact ⟨k + 1, by omega, by go_num, fun k' h => by
                rcases Nat.lt_succ_iff_lt_or_eq.1 h with h1 | h1
                · exact HALL.out k' h1
                · rw [h1]; exact HN2.out, FS6.out, FT6.out, FB6.out⟩
              case measure => simp [intOf]; omega
        · obtain rfl : k = 64 := by omega
          have HR := Lib.hid (FolRes.no (fol_no HALLH.out HALL.out))
          go_wp2_with fail
          go_ret
          exact ⟨HR.out, FB.out⟩
end Go.Proofs.YtjnhmoafljfnkaaDoor.Reg
