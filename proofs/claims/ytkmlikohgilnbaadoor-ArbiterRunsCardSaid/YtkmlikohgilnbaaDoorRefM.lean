/-
  Reg: the walk through the reference's Decide. Conditions stand at each. By an AI agent.
-/
import Derived.Test.YtkmlikohgilnbaaDoorRefJ
import Derived.Test.YtkmlikohgilnbaaDoorRefK
import Derived.Test.YtkmlikohgilnbaaDoorRefL
namespace Go.Proofs.YtkmlikohgilnbaaDoor.Reg
set_option linter.unusedVariables false
set_option linter.unusedSimpArgs false
open Go Go.RowKit Go.Proofs.YtkmlikohgilnbaaDoor.Base Go.Proofs.YtkmlikohgilnbaaDoor.Modes Go.Deep

set_option maxHeartbeats 4000000 in
theorem refDecide_any (s : St) (h : s.Ok) (a : Ask) (ha : a.Ok) (w : World) : Calls Tryd.prog 61 #[s.val, a.val] w fun e w' => e = .returned (.tuple #[(decideS s a).val, .int .i64 (decideE s a)]) ∧ Below w.heap.size w w' := by
  have HM := Lib.hid (Right_any s h)
  have HW := refdecide_ways s a
  have hnr := need_range s.mode a.mode
  obtain ⟨e0, e1⟩ := h.epoch
  have HNX : decideE s a = 0 → decideS s a = nextS s a := fun h => if_pos h
  have HZX : decideE s a ≠ 0 → decideS s a = St.zero := fun h => if_neg h
  have hz : ∀ {c : Int}, decideE s a = c → c ≠ 0 → (decideS s a).val = .agg #[.int .i64 0, .int .i64 0, .bool false, .int .i64 0, .int .u64 0] := fun h1 h2 => by rw [HZX (by rw [h1]; exact h2)]; rfl
  generalize partsB s = pb at *
  have HNV : ∀ v : St, nextS s a = v → decideE s a = 0 → (decideS s a).val = v.val := fun v h1 h2 => by rw [HNX h2, h1]
  have hfy : wayB s.mode a.mode = true → Hid (∀ W, ∃ x y : Int, Calls Tryd.prog 68 #[.int .i64 s.mode, .int .i64 a.mode] W fun e w' => e = .returned (.tuple #[.agg #[.int .i64 x, .int .i64 y, .int .i64 (needZ s.mode a.mode), .int .i64 (notZ s.mode a.mode)], .bool true]) ∧ Below W.heap.size W w') := fun h => Lib.hid (fun W => Find_yes _ _ h W)
  have hfn : wayB s.mode a.mode = false → Hid (∀ W, Calls Tryd.prog 68 #[.int .i64 s.mode, .int .i64 a.mode] W fun e w' => e = .returned (.tuple #[.agg #[.int .i64 0, .int .i64 0, .int .i64 0, .int .i64 0], .bool false]) ∧ Below W.heap.size W w') := fun h => Lib.hid (fun W => Find_no _ _ h W)
  have hha : s.Parts → Hid (∀ W, Calls Tryd.prog 69 #[.int .i64 s.flags, .int .i64 (needZ s.mode a.mode)] W fun e w' => e = .returned (.bool (hasF 6 s.flags (needZ s.mode a.mode))) ∧ W = w') := fun hp => Lib.hid (fun W => has_any _ _ ⟨hp.2.2.1.1, by have := hp.2.2.1.2; omega⟩ ⟨hnr.1.1, by have := hnr.1.2; omega⟩ W)
  have hno : s.Parts → Hid (∀ W, Calls Tryd.prog 70 #[.int .i64 s.flags, .int .i64 (notZ s.mode a.mode)] W fun e w' => e = .returned (.bool (noneF 6 s.flags (notZ s.mode a.mode))) ∧ W = w') := fun hp => Lib.hid (fun W => none_any _ _ ⟨hp.2.2.1.1, by have := hp.2.2.1.2; omega⟩ ⟨hnr.2.1, by have := hnr.2.2; omega⟩ W)
  unfold nextS at HNV
  obtain ⟨m, so, ho, fl, ep⟩ := s
  obtain ⟨q, am, af⟩ := a
  clear HNX HZX h ha hnr
  generalize decideE ⟨m, so, ho, fl, ep⟩ ⟨q, am, af⟩ = E at *
  generalize decideS ⟨m, so, ho, fl, ep⟩ ⟨q, am, af⟩ = S at *
  unfold Ask.val
  unfold St.val at HM hz
  show Calls Tryd.prog 61 #[.agg #[.int .i64 m, .int .i64 so, .bool ho, .int .i64 fl, .int .u64 ep], .agg #[.int .i64 q, .int .i64 am, .bool af]] w fun e w' => e = .returned (.tuple #[S.val, .int .i64 E]) ∧ Below w.heap.size w w'
  simp only at *
  generalize needZ m am = nd at *
  generalize notZ m am = nt at *
  generalize hasF 6 fl nd = hb at *
  generalize noneF 6 fl nt = nb at *
  generalize rightB ⟨m, so, ho, fl, ep⟩ = rb at *
  have hval : ∀ v, S.val = v → ∀ c, E = c → (∀ P : Value → Int → Prop, P v c → P S.val E) := fun v h1 c h2 P hp => by rw [h1, h2]; exact hp
  rcases HW with ⟨rfl, hE⟩ | ⟨rfl, hp, HW⟩
  · have hv := hz hE (by decide); unfold St.val at hv ⊢; rw [hv, hE]; exact rd1 m so fl ep q am ho af pb w HM
  have HHA := hha hp
  have HNO := hno hp
  have hep := hp.2.2.2
  simp only at hep
  clear hha hno hp hval
  rcases HW with ⟨hq, hE⟩ | ⟨a0, a1, a2, a3, HW⟩
  · have hv := hz hE (by decide)
    unfold St.val at hv ⊢
    rw [hv, hE]
    rcases hq with a0 | ⟨a0, a1⟩ | ⟨a0, a1, a2⟩ | ⟨a0, a1, a2, a3⟩
    · exact rd10a m so fl ep q am ho af pb w HM a0
    · exact rd10b m so fl ep q am ho af pb w HM a0 a1
    · exact rd10c m so fl ep q am ho af pb w HM a0 a1 a2
    · exact rd10d m so fl ep q am ho af pb w HM a0 a1 a2 a3
  rcases HW with ⟨rfl, h1, hE⟩ | ⟨hq, HW⟩
  · have hv := hz hE (by decide); unfold St.val at hv ⊢; rw [hv, hE]; exact rd23 m so fl ep q am af pb w HM a0 a1 a2 a3 h1
  rcases HW with ⟨r0, r1, hE⟩ | ⟨hq2, HW⟩
  · have hv := hz hE (by decide); unfold St.val at hv ⊢; rw [hv, hE]; clear hv hE hz HNV
    rcases hq with ⟨rfl, h1⟩ | rfl
    · exact rd24t m so fl ep q am af pb w HM a0 a1 a2 a3 h1 r0 r1
    · exact rd24f m so fl ep q am af pb w HM a0 a1 a2 a3 r0 r1
  rcases HW with ⟨wy, hE⟩ | ⟨wy, HW⟩
  · have hv := hz hE (by decide); unfold St.val at hv ⊢; rw [hv, hE]; clear hv hE hz HNV
    have HF := hfn wy
    clear hfn hfy
    rcases hq with ⟨rfl, h1⟩ | rfl
    · rcases hq2 with ⟨r0, r1⟩ | r0
      · exact rd21tt m so fl ep q am af pb w HM a0 a1 a2 a3 h1 r0 r1 HF
      · exact rd21tf m so fl ep q am af pb w HM a0 a1 a2 a3 h1 r0 HF
    · rcases hq2 with ⟨r0, r1⟩ | r0
      · exact rd21ft m so fl ep q am af pb w HM a0 a1 a2 a3 r0 r1 HF
      · exact rd21ff m so fl ep q am af pb w HM a0 a1 a2 a3 r0 HF
  have HF := hfy wy
  clear hfn hfy
  rcases HW with ⟨hq3, hE⟩ | ⟨rfl, rfl, HW⟩
  · have hv := hz hE (by decide); unfold St.val at hv ⊢; rw [hv, hE]; clear hv hE hz HNV
    rcases hq3 with rfl | ⟨rfl, rfl⟩
    · rcases hq with ⟨rfl, h1⟩ | rfl
      · rcases hq2 with ⟨r0, r1⟩ | r0
        · exact rd22att m so fl ep q am af pb w nd nt HM a0 a1 a2 a3 h1 r0 r1 HF HHA
        · exact rd22atf m so fl ep q am af pb w nd nt HM a0 a1 a2 a3 h1 r0 HF HHA
      · rcases hq2 with ⟨r0, r1⟩ | r0
        · exact rd22aft m so fl ep q am af pb w nd nt HM a0 a1 a2 a3 r0 r1 HF HHA
        · exact rd22aff m so fl ep q am af pb w nd nt HM a0 a1 a2 a3 r0 HF HHA
    · rcases hq with ⟨rfl, h1⟩ | rfl
      · rcases hq2 with ⟨r0, r1⟩ | r0
        · exact rd22btt m so fl ep q am af pb w nd nt HM a0 a1 a2 a3 h1 r0 r1 HF HHA HNO
        · exact rd22btf m so fl ep q am af pb w nd nt HM a0 a1 a2 a3 h1 r0 HF HHA HNO
      · rcases hq2 with ⟨r0, r1⟩ | r0
        · exact rd22bft m so fl ep q am af pb w nd nt HM a0 a1 a2 a3 r0 r1 HF HHA HNO
        · exact rd22bff m so fl ep q am af pb w nd nt HM a0 a1 a2 a3 r0 HF HHA HNO
  rcases HW with ⟨d0, hE⟩ | ⟨d0, hE⟩
  · have hv := hz hE (by decide); unfold St.val at hv ⊢; rw [hv, hE]; clear hv hE hz HNV
    rcases hq with ⟨rfl, h1⟩ | rfl
    · rcases hq2 with ⟨r0, r1⟩ | r0
      · exact rd16tt m so fl ep q am af pb w nd nt HM a0 a1 a2 a3 h1 r0 r1 HF HHA HNO d0
      · exact rd16tf m so fl ep q am af pb w nd nt HM a0 a1 a2 a3 h1 r0 HF HHA HNO d0
    · rcases hq2 with ⟨r0, r1⟩ | r0
      · exact rd16ft m so fl ep q am af pb w nd nt HM a0 a1 a2 a3 r0 r1 HF HHA HNO d0
      · exact rd16ff m so fl ep q am af pb w nd nt HM a0 a1 a2 a3 r0 HF HHA HNO d0
  have d1 : ep + 1 ≤ 4503599627370495 := by simp at d0; omega
  subst hE
  by_cases q1 : q = 3
  · have q1' : (q == 3) = true := by simpa using q1
    by_cases q2 : am = 7
    · have q2' : (am == 7) = true := by simpa using q2
      have hv := HNV ⟨am, q, true, fl, ep + 1⟩ (by rw [if_pos ⟨q1, q2⟩, q1, q2]) rfl
      unfold St.val at hv ⊢; rw [hv]; clear hv HNV hz
      rcases hq with ⟨rfl, h1⟩ | rfl
      · rcases hq2 with ⟨r0, r1⟩ | r0
        · exact rd00tt m so fl ep q am af pb w nd nt HM a0 a1 a2 a3 h1 r0 r1 HF HHA HNO d0 d1 e0 q1' q2'
        · exact rd00tf m so fl ep q am af pb w nd nt HM a0 a1 a2 a3 h1 r0 HF HHA HNO d0 d1 e0 q1' q2'
      · rcases hq2 with ⟨r0, r1⟩ | r0
        · exact rd00ft m so fl ep q am af pb w nd nt HM a0 a1 a2 a3 r0 r1 HF HHA HNO d0 d1 e0 q1' q2'
        · exact rd00ff m so fl ep q am af pb w nd nt HM a0 a1 a2 a3 r0 HF HHA HNO d0 d1 e0 q1' q2'
    · have q2' : (am == 7) = false := by simpa using q2
      cases af
      · have hv := HNV ⟨am, q, ho, fl, ep + 1⟩ (by rw [if_neg (fun h => q2 h.2), if_neg (by decide)]) rfl
        unfold St.val at hv ⊢; rw [hv]; clear hv HNV hz
        rcases hq with ⟨rfl, h1⟩ | rfl
        · rcases hq2 with ⟨r0, r1⟩ | r0
          · exact rd02tt m so fl ep q am pb w nd nt HM a0 a1 a2 a3 h1 r0 r1 HF HHA HNO d0 d1 e0 q1' q2'
          · exact rd02tf m so fl ep q am pb w nd nt HM a0 a1 a2 a3 h1 r0 HF HHA HNO d0 d1 e0 q1' q2'
        · rcases hq2 with ⟨r0, r1⟩ | r0
          · exact rd02ft m so fl ep q am pb w nd nt HM a0 a1 a2 a3 r0 r1 HF HHA HNO d0 d1 e0 q1' q2'
          · exact rd02ff m so fl ep q am pb w nd nt HM a0 a1 a2 a3 r0 HF HHA HNO d0 d1 e0 q1' q2'
      · have hv := HNV ⟨am, 0, false, fl, ep + 1⟩ (by rw [if_neg (fun h => q2 h.2), if_pos rfl]) rfl
        unfold St.val at hv ⊢; rw [hv]; clear hv HNV hz
        rcases hq with ⟨rfl, h1⟩ | rfl
        · rcases hq2 with ⟨r0, r1⟩ | r0
          · exact rd01tt m so fl ep q am pb w nd nt HM a0 a1 a2 a3 h1 r0 r1 HF HHA HNO d0 d1 e0 q1' q2'
          · exact rd01tf m so fl ep q am pb w nd nt HM a0 a1 a2 a3 h1 r0 HF HHA HNO d0 d1 e0 q1' q2'
        · rcases hq2 with ⟨r0, r1⟩ | r0
          · exact rd01ft m so fl ep q am pb w nd nt HM a0 a1 a2 a3 r0 r1 HF HHA HNO d0 d1 e0 q1' q2'
          · exact rd01ff m so fl ep q am pb w nd nt HM a0 a1 a2 a3 r0 HF HHA HNO d0 d1 e0 q1' q2'
  · have q1' : (q == 3) = false := by simpa using q1
    cases af
    · have hv := HNV ⟨am, q, ho, fl, ep + 1⟩ (by rw [if_neg (fun h => q1 h.1), if_neg (by decide)]) rfl
      unfold St.val at hv ⊢; rw [hv]; clear hv HNV hz
      rcases hq with ⟨rfl, h1⟩ | rfl
      · exact absurd (by simpa using h1) q1
      · rcases hq2 with ⟨r0, r1⟩ | r0
        · exact rd04ft m so fl ep q am pb w nd nt HM a0 a1 a2 a3 r0 r1 HF HHA HNO d0 d1 e0 q1'
        · exact rd04ff m so fl ep q am pb w nd nt HM a0 a1 a2 a3 r0 HF HHA HNO d0 d1 e0 q1'
    · have hv := HNV ⟨am, 0, false, fl, ep + 1⟩ (by rw [if_neg (fun h => q1 h.1), if_pos rfl]) rfl
      unfold St.val at hv ⊢; rw [hv]; clear hv HNV hz
      rcases hq with ⟨rfl, h1⟩ | rfl
      · exact absurd (by simpa using h1) q1
      · rcases hq2 with ⟨r0, r1⟩ | r0
        · exact rd03ft m so fl ep q am pb w nd nt HM a0 a1 a2 a3 r0 r1 HF HHA HNO d0 d1 e0 q1'
        · exact rd03ff m so fl ep q am pb w nd nt HM a0 a1 a2 a3 r0 HF HHA HNO d0 d1 e0 q1'
end Go.Proofs.YtkmlikohgilnbaaDoor.Reg
