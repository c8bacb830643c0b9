/-
  Law 6: the document's Check tells the first fault. Conditions stand at each. By an AI agent; by mkplf.py.
-/
import Derived.Test.YtgdfhgoenemanaaDoorPlE
namespace Go.Proofs.YtgdfhgoenemanaaDoor.Plan
set_option linter.unusedVariables false
set_option linter.unusedSimpArgs false
open Go Go.RowKit Go.Proofs.YtgdfhgoenemanaaDoor.Base
def findF (l : Nat → Tc) (n : Nat) (s : ByteArray) : Int := match (List.range n).find? (fun j => decide ((l j).nm = s)) with
  | some j => (j : Int)
  | none => -1
theorem eqs_true {a b : ByteArray} (h : a = b) : (a.toList == b.toList) = true := by rw [h]; simp
theorem eqs_false {a b : ByteArray} (h : a ≠ b) : (a.toList == b.toList) = false := by
  rw [beq_eq_false_iff_ne]
  intro e
  rw [ByteArray.toList_eq, ByteArray.toList_eq] at e
  have e2 := Array.toList_inj.1 e
  apply h
  cases a
  cases b
  simp only at e2
  rw [e2]
set_option maxRecDepth 100000 in
set_option maxHeartbeats 4000000 in
theorem Find_any (c : Cf) (A : Option Addr) (k : Nat) (s : ByteArray) (w : World) (ht : Tcs w A c.n c.l) (hn : c.n ≤ 1000) :
    Calls Tryd.prog 30 #[cfV c A k, .string s] w fun e w' => e = .returned (.int .i64 (findF c.l c.n s)) ∧ Below w.heap.size w w' := by
  have HT := Lib.hid ht
  have HN := Lib.hid hn
  clear ht hn
  unfold cfV
  go_enter Tryd.func30, Tryd.ntmps30
  go_upto_region 1 with fail
  have CB := Lib.hid (Blk.new w 24 #[.int .i64 c.tasks, .slice A c.n k, .int .i64 c.tries, .int .i64 c.log])
  have L0 := Lib.hid ((Below.refl w.heap.size w).alloc (Nat.le_refl _) (.cells #[.int .i64 c.tasks, .slice A c.n k, .int .i64 c.tries, .int .i64 c.log] 24))
  generalize (w.alloc (.cells #[.int .i64 c.tasks, .slice A c.n k, .int .i64 c.tries, .int .i64 c.log] 24)) = w0 at *
  have HT0 := Lib.hid (HT.out.bl L0.out)
  have g1 := CB.out.cell 1
  simp only [List.getElem?_toArray, List.getElem?_cons_succ, List.getElem?_cons_zero] at g1
  go_wp2_with fail
  go_loopw [5] (fun s5 wr => ∃ (i : Nat), i ≤ c.n ∧ s5 = .int .i64 i ∧ (∀ j, j < i → (c.l j).nm ≠ s) ∧ w0 = wr) (fun s5 _ => c.n + 1 - (intOf s5).toNat)
  case atStart => exact ⟨0, by omega, rfl, fun j hj => absurd hj (by omega), rfl⟩
  case round =>
    obtain ⟨i, hi, rfl, hok, hw⟩ := hrel
    subst hw
    have HOK := Lib.hid hok
    clear hok
    by_cases hlt : i < c.n
    · have kd : decide ((i : Int) < (c.n : Int)) = true := decide_eq_true (by omega)
      have kdn : decide (i < c.n) = true := decide_eq_true hlt
      have kdm : i < c.n := hlt
      have ki0 : (0 : Int) ≤ (i : Int) := by omega
      have ki1 : (i : Int) < (c.n : Int) := by omega
      have ki5 : (i : Int) ≤ 1000 := by have := HN.out; omega
      obtain ⟨tb, tof, rfl, htb, htc⟩ := HT0.out (by omega)
      have t0 := (htc i hlt).1
      have HI := Lib.hid hlt
      clear htb htc hi hlt
      by_cases he : (c.l i).nm = s
      · have kq := eqs_true he
        have HF := Lib.hid (show findF c.l c.n s = (i : Int) by unfold findF; rw [find_first (p := fun j => decide ((c.l j).nm = s)) HI.out (decide_eq_true he) (fun j hj => decide_eq_false (HOK.out j hj))])
        clear he
        go_wp2_with fail
        go_ret
        exact ⟨by rw [HF.out]; rfl, L0.out⟩
      · have kq := eqs_false he
        have HE := Lib.hid he
        clear he
        go_wp2_with fail
        exact ⟨⟨i + 1, HI.out, by go_num, fun j hj => if e : j = i then by rw [e]; exact HE.out else HOK.out j (by omega), by first | rfl | trivial⟩, by have := HI.out; simp [intOf]; omega⟩
    · have he : i = c.n := by omega
      have kd : decide ((i : Int) < (c.n : Int)) = false := decide_eq_false (by omega)
      have kdn : decide (i < c.n) = false := decide_eq_false hlt
      have kdm : ¬ i < c.n := hlt
      have HF := Lib.hid (show findF c.l c.n s = -1 by unfold findF; rw [find_none (p := fun j => decide ((c.l j).nm = s)) (fun j hj => decide_eq_false (HOK.out j (by omega)))])
      clear hlt he hi
      go_wp2_with fail
      go_ret
      exact ⟨by rw [HF.out]; rfl, L0.out⟩
theorem find_there {l : Nat → Tc} {n i : Nat} (hi : i < n) : (decide (findF l n (l i).nm < (i : Int))) = thereB l i := by
  rw [Bool.eq_iff_iff, decide_eq_true_iff]
  unfold thereB findF
  rw [List.any_eq_true]
  cases hf : (List.range n).find? (fun j => decide ((l j).nm = (l i).nm)) with
  | none =>
    exfalso
    rw [List.find?_eq_none] at hf
    exact hf i (List.mem_range.2 hi) (decide_eq_true rfl)
  | some j =>
    have h1 := List.find?_some hf
    simp only [decide_eq_true_eq] at h1
    constructor
    · intro h
      exact ⟨j, List.mem_range.2 (by simp only at h; omega), decide_eq_true h1⟩
    · rintro ⟨q, hq, he⟩
      have hq := List.mem_range.1 hq
      rw [List.find?_eq_some_iff_append] at hf
      obtain ⟨_, a, b, hab, hall⟩ := hf
      simp only
      have hlen : a.length = j := by
        have := congrArg (fun z => z[a.length]?) hab
        simp only [List.getElem?_append_right (Nat.le_refl _), Nat.sub_self, List.getElem?_cons_zero] at this
        have h2 := List.getElem?_eq_some_iff.1 this
        obtain ⟨h3, h4⟩ := h2
        rw [List.getElem_range] at h4
        exact h4
      by_cases hle : j ≤ q
      · omega
      · exfalso
        have hqa : q ∈ a := by
          have h5 : (List.range n)[q]? = a[q]? := by rw [hab, List.getElem?_append_left (by omega)]
          rw [List.getElem?_range (by omega)] at h5
          exact List.mem_of_getElem? h5.symm
        have := hall q hqa
        rw [decide_eq_true (of_decide_eq_true he)] at this
        cases this

theorem two {f : Nat → Int} (h0 : f 0 = 0) (h1 : f 1 = 0) (j : Nat) (hj : j < 2) : f j = 0 := by
  rcases (show j = 0 ∨ j = 1 by omega) with e | e
  · rw [e]; exact h0
  · rw [e]; exact h1
set_option maxRecDepth 100000 in
set_option maxHeartbeats 8000000 in
theorem refCheck_any (c : Cf) (A : Option Addr) (k : Nat) (w : World) (ht : Tcs w A c.n c.l) (hn : c.n ≤ 1000) :
    Calls Tryd.prog 21 #[cfV c A k] w fun e w' => e = .returned (.agg #[.int .i64 (faultF c).1, .int .i64 (faultF c).2]) ∧ Below w.heap.size w w' := by
  have HT := Lib.hid ht
  have HN := Lib.hid hn
  clear ht hn
  unfold cfV
  go_enter Tryd.func21, Tryd.ntmps21
  go_upto_region 1 with fail
  obtain ⟨B, hB⟩ : ∃ B, w.heap.size = B := ⟨_, rfl⟩
  have z1 : (w.alloc (.cells #[.int .i64 c.tasks, .slice A c.n k, .int .i64 c.tries, .int .i64 c.log] 24)).heap.size = B + 1 := by simp [hB]
  have hcb : Blk ((w.alloc (.cells #[.int .i64 c.tasks, .slice A c.n k, .int .i64 c.tries, .int .i64 c.log] 24)).alloc (.cells #[.int .i64 0, .int .i64 0] 63)) B 24 #[.int .i64 c.tasks, .slice A c.n k, .int .i64 c.tries, .int .i64 c.log] := hB ▸ (Blk.new w 24 #[.int .i64 c.tasks, .slice A c.n k, .int .i64 c.tries, .int .i64 c.log]).alloc _
  have hfb : Blk ((w.alloc (.cells #[.int .i64 c.tasks, .slice A c.n k, .int .i64 c.tries, .int .i64 c.log] 24)).alloc (.cells #[.int .i64 0, .int .i64 0] 63)) (B + 1) 63 #[.int .i64 0, .int .i64 0] := z1 ▸ Blk.new (w.alloc (.cells #[.int .i64 c.tasks, .slice A c.n k, .int .i64 c.tries, .int .i64 c.log] 24)) 63 #[.int .i64 0, .int .i64 0]
  have hl : Below w.heap.size w ((w.alloc (.cells #[.int .i64 c.tasks, .slice A c.n k, .int .i64 c.tries, .int .i64 c.log] 24)).alloc (.cells #[.int .i64 0, .int .i64 0] 63)) := ((Below.refl w.heap.size w).alloc (Nat.le_refl _) _).alloc (by rw [z1, hB]; omega) _
  simp only [hB] at ⊢
  have CB := Lib.hid hcb
  have FB := Lib.hid hfb
  have L0 := Lib.hid hl
  have HB := Lib.hid hB
  clear hcb hfb hl z1
  generalize ((w.alloc (.cells #[.int .i64 c.tasks, .slice A c.n k, .int .i64 c.tries, .int .i64 c.log] 24)).alloc (.cells #[.int .i64 0, .int .i64 0] 63)) = w0 at *
  have HT0 := Lib.hid (show TcsB B w0 A c.n c.l by rw [← hB]; exact HT.out.to_b L0.out)
  clear hB
  have g0 := CB.out.cell 0
  have g1 := CB.out.cell 1
  have g2 := CB.out.cell 2
  have g3 := CB.out.cell 3
  have f0 := FB.out.cell 0
  have f1 := FB.out.cell 1
  have r0 := FB.out.frozen 0
  have r1 := FB.out.frozen 1
  simp only [List.getElem?_toArray, List.getElem?_cons_succ, List.getElem?_cons_zero] at g0 g1 g2 g3 f0 f1
  have HA := Lib.hid (show sureE (inB c.tasks 1 8) 10 = askE c 0 ∧ sureE (inB c.n 1 64) 12 = askE c 1 ∧ sureE (inB c.tries 1 16 && inB c.log 1 64) 10 = askE c 2 from ⟨rfl, rfl, rfl⟩)
  by_cases h1 : c.tasks < 1
  · skip
    have k1 : decide (c.tasks < 1) = true := decide_eq_true (by omega)
    have hq : askE c 0 = 10 := by rw [← HA.out.1, show inB c.tasks 1 8 = false from by unfold inB; simp; omega]; rfl
    have HF := Lib.hid (show faultF c = (-1, 10) by rw [fault_ask (c := c) (k := 0) (by omega) (by rw [hq]; decide) (fun j hj => absurd hj (by omega)), hq])
    clear hq h1 HT0
    go_wp2_with fail
    have hfz := (FB.out.set_ 0 (.int .i64 (-1))).set_ 1 (.int .i64 10)
    exact bodyPost_ret (results_cell_row (fn := Tryd.f21) rfl _ _ (B + 1) _ _ _ _ rfl hfz Tryd.underlying63 rfl (by kernel_rfl)) rfl ⟨by rw [HF.out]; rfl, (L0.out.setCell (p := ⟨B + 1, 0, none⟩) (show w.heap.size ≤ B + 1 by rw [HB.out]; omega) _).setCell (p := ⟨B + 1, 1, none⟩) (show w.heap.size ≤ B + 1 by rw [HB.out]; omega) _⟩
  have k1 : decide (c.tasks < 1) = false := decide_eq_false (by omega)
  by_cases h2 : c.tasks > 8
  · skip
    have k2 : decide (c.tasks > 8) = true := decide_eq_true (by omega)
    have hq : askE c 0 = 10 := by rw [← HA.out.1, show inB c.tasks 1 8 = false from by unfold inB; simp; omega]; rfl
    have HF := Lib.hid (show faultF c = (-1, 10) by rw [fault_ask (c := c) (k := 0) (by omega) (by rw [hq]; decide) (fun j hj => absurd hj (by omega)), hq])
    clear hq h2 HT0
    go_wp2_with fail
    have hfz := (FB.out.set_ 0 (.int .i64 (-1))).set_ 1 (.int .i64 10)
    exact bodyPost_ret (results_cell_row (fn := Tryd.f21) rfl _ _ (B + 1) _ _ _ _ rfl hfz Tryd.underlying63 rfl (by kernel_rfl)) rfl ⟨by rw [HF.out]; rfl, (L0.out.setCell (p := ⟨B + 1, 0, none⟩) (show w.heap.size ≤ B + 1 by rw [HB.out]; omega) _).setCell (p := ⟨B + 1, 1, none⟩) (show w.heap.size ≤ B + 1 by rw [HB.out]; omega) _⟩
  have k2 : decide (c.tasks > 8) = false := decide_eq_false (by omega)
  have HK0 := Lib.hid (show askE c 0 = 0 by rw [← HA.out.1, show inB c.tasks 1 8 = true from by unfold inB; simp; omega]; rfl)
  by_cases h3 : (c.n : Int) < 1
  · skip
    have k3 : decide ((c.n : Int) < 1) = true := decide_eq_true (by omega)
    have kn3 : c.n < 1 := by omega
    have km3 : decide (c.n < 1) = true := decide_eq_true kn3
    have hq : askE c 1 = 12 := by rw [← HA.out.2.1, show inB c.n 1 64 = false from by unfold inB; simp; omega]; rfl
    have HF := Lib.hid (show faultF c = (-1, 12) by rw [fault_ask (c := c) (k := 1) (by omega) (by rw [hq]; decide) (fun j hj => by rw [show j = 0 by omega]; exact HK0.out), hq])
    clear hq h3 HT0
    go_wp2_with fail
    have hfz := (FB.out.set_ 0 (.int .i64 (-1))).set_ 1 (.int .i64 12)
    exact bodyPost_ret (results_cell_row (fn := Tryd.f21) rfl _ _ (B + 1) _ _ _ _ rfl hfz Tryd.underlying63 rfl (by kernel_rfl)) rfl ⟨by rw [HF.out]; rfl, (L0.out.setCell (p := ⟨B + 1, 0, none⟩) (show w.heap.size ≤ B + 1 by rw [HB.out]; omega) _).setCell (p := ⟨B + 1, 1, none⟩) (show w.heap.size ≤ B + 1 by rw [HB.out]; omega) _⟩
  have k3 : decide ((c.n : Int) < 1) = false := decide_eq_false (by omega)
  have kn3 : ¬ c.n < 1 := by omega
  have km3 : decide (c.n < 1) = false := decide_eq_false kn3
  by_cases h4 : (c.n : Int) > 64
  · skip
    have k4 : decide ((c.n : Int) > 64) = true := decide_eq_true (by omega)
    have kn4 : 64 < c.n := by omega
    have km4 : decide (64 < c.n) = true := decide_eq_true kn4
    have hq : askE c 1 = 12 := by rw [← HA.out.2.1, show inB c.n 1 64 = false from by unfold inB; simp; omega]; rfl
    have HF := Lib.hid (show faultF c = (-1, 12) by rw [fault_ask (c := c) (k := 1) (by omega) (by rw [hq]; decide) (fun j hj => by rw [show j = 0 by omega]; exact HK0.out), hq])
    clear hq h4 HT0
    go_wp2_with fail
    have hfz := (FB.out.set_ 0 (.int .i64 (-1))).set_ 1 (.int .i64 12)
    exact bodyPost_ret (results_cell_row (fn := Tryd.f21) rfl _ _ (B + 1) _ _ _ _ rfl hfz Tryd.underlying63 rfl (by kernel_rfl)) rfl ⟨by rw [HF.out]; rfl, (L0.out.setCell (p := ⟨B + 1, 0, none⟩) (show w.heap.size ≤ B + 1 by rw [HB.out]; omega) _).setCell (p := ⟨B + 1, 1, none⟩) (show w.heap.size ≤ B + 1 by rw [HB.out]; omega) _⟩
  have k4 : decide ((c.n : Int) > 64) = false := decide_eq_false (by omega)
  have kn4 : ¬ 64 < c.n := by omega
  have km4 : decide (64 < c.n) = false := decide_eq_false kn4
  have HK1 := Lib.hid (show askE c 1 = 0 by rw [← HA.out.2.1, show inB c.n 1 64 = true from by unfold inB; simp; omega]; rfl)
  by_cases h5 : c.tries < 1
  · skip
    have k5 : decide (c.tries < 1) = true := decide_eq_true (by omega)
    have hq : askE c 2 = 10 := by rw [← HA.out.2.2, show (inB c.tries 1 16 && inB c.log 1 64) = false from by unfold inB; simp; omega]; rfl
    have HF := Lib.hid (show faultF c = (-1, 10) by rw [fault_ask (c := c) (k := 2) (by omega) (by rw [hq]; decide) (fun j hj => two HK0.out HK1.out j hj), hq])
    clear hq h5 HT0
    go_wp2_with fail
    have hfz := (FB.out.set_ 0 (.int .i64 (-1))).set_ 1 (.int .i64 10)
    exact bodyPost_ret (results_cell_row (fn := Tryd.f21) rfl _ _ (B + 1) _ _ _ _ rfl hfz Tryd.underlying63 rfl (by kernel_rfl)) rfl ⟨by rw [HF.out]; rfl, (L0.out.setCell (p := ⟨B + 1, 0, none⟩) (show w.heap.size ≤ B + 1 by rw [HB.out]; omega) _).setCell (p := ⟨B + 1, 1, none⟩) (show w.heap.size ≤ B + 1 by rw [HB.out]; omega) _⟩
  have k5 : decide (c.tries < 1) = false := decide_eq_false (by omega)
  by_cases h6 : c.tries > 16
  · skip
    have k6 : decide (c.tries > 16) = true := decide_eq_true (by omega)
    have hq : askE c 2 = 10 := by rw [← HA.out.2.2, show (inB c.tries 1 16 && inB c.log 1 64) = false from by unfold inB; simp; omega]; rfl
    have HF := Lib.hid (show faultF c = (-1, 10) by rw [fault_ask (c := c) (k := 2) (by omega) (by rw [hq]; decide) (fun j hj => two HK0.out HK1.out j hj), hq])
    clear hq h6 HT0
    go_wp2_with fail
    have hfz := (FB.out.set_ 0 (.int .i64 (-1))).set_ 1 (.int .i64 10)
    exact bodyPost_ret (results_cell_row (fn := Tryd.f21) rfl _ _ (B + 1) _ _ _ _ rfl hfz Tryd.underlying63 rfl (by kernel_rfl)) rfl ⟨by rw [HF.out]; rfl, (L0.out.setCell (p := ⟨B + 1, 0, none⟩) (show w.heap.size ≤ B + 1 by rw [HB.out]; omega) _).setCell (p := ⟨B + 1, 1, none⟩) (show w.heap.size ≤ B + 1 by rw [HB.out]; omega) _⟩
  have k6 : decide (c.tries > 16) = false := decide_eq_false (by omega)
  by_cases h7 : c.log < 1
  · skip
    have k7 : decide (c.log < 1) = true := decide_eq_true (by omega)
    have hq : askE c 2 = 10 := by rw [← HA.out.2.2, show (inB c.tries 1 16 && inB c.log 1 64) = false from by unfold inB; simp; omega]; rfl
    have HF := Lib.hid (show faultF c = (-1, 10) by rw [fault_ask (c := c) (k := 2) (by omega) (by rw [hq]; decide) (fun j hj => two HK0.out HK1.out j hj), hq])
    clear hq h7 HT0
    go_wp2_with fail
    have hfz := (FB.out.set_ 0 (.int .i64 (-1))).set_ 1 (.int .i64 10)
    exact bodyPost_ret (results_cell_row (fn := Tryd.f21) rfl _ _ (B + 1) _ _ _ _ rfl hfz Tryd.underlying63 rfl (by kernel_rfl)) rfl ⟨by rw [HF.out]; rfl, (L0.out.setCell (p := ⟨B + 1, 0, none⟩) (show w.heap.size ≤ B + 1 by rw [HB.out]; omega) _).setCell (p := ⟨B + 1, 1, none⟩) (show w.heap.size ≤ B + 1 by rw [HB.out]; omega) _⟩
  have k7 : decide (c.log < 1) = false := decide_eq_false (by omega)
  by_cases h8 : c.log > 64
  · skip
    have k8 : decide (c.log > 64) = true := decide_eq_true (by omega)
    have hq : askE c 2 = 10 := by rw [← HA.out.2.2, show (inB c.tries 1 16 && inB c.log 1 64) = false from by unfold inB; simp; omega]; rfl
    have HF := Lib.hid (show faultF c = (-1, 10) by rw [fault_ask (c := c) (k := 2) (by omega) (by rw [hq]; decide) (fun j hj => two HK0.out HK1.out j hj), hq])
    clear hq h8 HT0
    go_wp2_with fail
    have hfz := (FB.out.set_ 0 (.int .i64 (-1))).set_ 1 (.int .i64 10)
    exact bodyPost_ret (results_cell_row (fn := Tryd.f21) rfl _ _ (B + 1) _ _ _ _ rfl hfz Tryd.underlying63 rfl (by kernel_rfl)) rfl ⟨by rw [HF.out]; rfl, (L0.out.setCell (p := ⟨B + 1, 0, none⟩) (show w.heap.size ≤ B + 1 by rw [HB.out]; omega) _).setCell (p := ⟨B + 1, 1, none⟩) (show w.heap.size ≤ B + 1 by rw [HB.out]; omega) _⟩
  have k8 : decide (c.log > 64) = false := decide_eq_false (by omega)
  have HK2 := Lib.hid (show askE c 2 = 0 by rw [← HA.out.2.2, show (inB c.tries 1 16 && inB c.log 1 64) = true from by unfold inB; simp; omega]; rfl)
  have HK := Lib.hid (show ∀ j, j < 3 → askE c j = 0 from fun j hj => if e : j = 2 then by rw [e]; exact HK2.out else two HK0.out HK1.out j (by omega))
  clear h1 h2 h3 h4 h5 h6 h7 h8
  go_wp2_with fail
  clear k1 k2 k3 k4 k5 k6 k7 k8 kn3 kn4 km3 km4 g0 g2 g3 g1 f0 f1 r0 r1
  have Z0 := Lib.hid FB.out.lt
  go_loopw [3, 4] (fun s3 s4 wr => ∃ (i : Nat), i ≤ c.n ∧ s3 = .int .i64 i ∧ (∀ j, j < i → topicE c.l j = 0) ∧ Blk wr B 24 #[.int .i64 c.tasks, .slice A c.n k, .int .i64 c.tries, .int .i64 c.log] ∧ Blk wr (B + 1) 63 #[.int .i64 0, .int .i64 0] ∧ TcsB B wr A c.n c.l ∧ Below w.heap.size w wr) (fun s3 s4 _ => c.n + 1 - (intOf s3).toNat)
  case atStart => exact ⟨0, by omega, rfl, fun j hj => absurd hj (by omega), CB.out, FB.out, HT0.out, L0.out⟩
  case round =>
    clear CB FB HT0 Z0 L0
    obtain ⟨i, hi, rfl, hok, hcb, hf, htb, hl⟩ := hrel
    have HOK := Lib.hid hok
    have CB := Lib.hid hcb
    have FB := Lib.hid hf
    have TB := Lib.hid htb
    have L0 := Lib.hid hl
    clear hok hcb hf htb hl
    by_cases hlt : i < c.n
    · have kd : decide ((i : Int) < (c.n : Int)) = true := decide_eq_true (by omega)
      have kdn : decide (i < c.n) = true := decide_eq_true hlt
      have kdm : i < c.n := hlt
      have ki0 : (0 : Int) ≤ (i : Int) := by omega
      have ki1 : (i : Int) < (c.n : Int) := by omega
      have ki5 : (i : Int) ≤ 1000 := by have := HN.out; omega
      have g1 := CB.out.cell 1
      simp only [List.getElem?_toArray, List.getElem?_cons_succ, List.getElem?_cons_zero] at g1
      obtain ⟨tb, tof, hA, htb, htc⟩ := TB.out (by omega)
      obtain ⟨t0, t1, t2⟩ := htc i hlt
      rw [hA] at g1
      obtain ⟨nm, hnm⟩ : ∃ z, (c.l i).nm = z := ⟨_, rfl⟩
      obtain ⟨wo, hwo⟩ : ∃ z, (c.l i).words = z := ⟨_, rfl⟩
      obtain ⟨de, hde⟩ : ∃ z, (c.l i).depth = z := ⟨_, rfl⟩
      rw [hnm] at t0
      rw [hwo] at t1
      rw [hde] at t2
      have HI := Lib.hid hlt
      have HNM := Lib.hid hnm
      have HWO := Lib.hid hwo
      have HDE := Lib.hid hde
      have HAA := Lib.hid hA
      clear htb htc hi hlt hnm hwo hde hA
      go_wp2_with fail
      have TV := Lib.hid (Blk.new wr 59 #[.string nm, .int .i64 wo, .int .i64 de])
      have E1 := Lib.hid ((Below.refl wr.heap.size wr).alloc (Nat.le_refl _) (.cells #[.string nm, .int .i64 wo, .int .i64 de] 59))
      generalize (wr.alloc (.cells #[.string nm, .int .i64 wo, .int .i64 de] 59)) = w1 at *
      obtain ⟨tv, htv⟩ : ∃ tv, wr.heap.size = tv := ⟨_, rfl⟩
      have LE := Lib.hid (show w.heap.size ≤ tv by have := L0.out.size; omega)
      have CB1 := Lib.hid (CB.out.bl E1.out)
      have FB1 := Lib.hid (FB.out.bl E1.out)
      have TB1 := Lib.hid (TB.out.ex (T := fun _ => False) (Ex.of_below E1.out) (fun b hb => hb.elim))
      have L1 := Lib.hid (bl L0.out E1.out)
      rw [htv] at TV
      simp only [htv]
      clear htv E1 CB FB TB L0 g1 t0 t1 t2
      refine (refName_any nm w1).mono ?_; rintro e w2 ⟨rfl, hw2⟩
      subst hw2
      obtain ⟨nb, hnb⟩ : ∃ b, nameB nm = b := ⟨_, rfl⟩
      rw [hnb]
      have HNB := Lib.hid hnb
      clear hnb
      cases nb with
      | false =>
        have HTE := Lib.hid (show topicE c.l i = 13 by unfold topicE; rw [HNM.out, HNB.out]; rfl)
        have HF := Lib.hid (show faultF c = ((i : Int), 13) by rw [fault_topic (c := c) (i := i) HK.out HI.out (by rw [HTE.out]; decide) HOK.out, HTE.out])
        have f0 := FB1.out.cell 0
        have f1 := FB1.out.cell 1
        have r0 := FB1.out.frozen 0
        have r1 := FB1.out.frozen 1
        simp only [List.getElem?_toArray, List.getElem?_cons_succ, List.getElem?_cons_zero] at f0 f1
        go_wp2_with fail
        have hfz := (FB1.out.set_ 0 (.int .i64 (i : Int))).set_ 1 (.int .i64 13)
        exact bodyPost_ret (results_cell_row (fn := Tryd.f21) rfl _ _ (B + 1) _ _ _ _ rfl hfz Tryd.underlying63 rfl (by kernel_rfl)) rfl ⟨by rw [HF.out]; rfl, (L1.out.setCell (p := ⟨B + 1, 0, none⟩) (show w.heap.size ≤ B + 1 by rw [HB.out]; omega) _).setCell (p := ⟨B + 1, 1, none⟩) (show w.heap.size ≤ B + 1 by rw [HB.out]; omega) _⟩
      | true =>
        have hTE : topicE c.l i = if thereB c.l i then 15 else sureE (inB wo 1 64 && inB de 2 16) 10 := by unfold topicE; rw [HNM.out, HNB.out, HWO.out, HDE.out]; rfl
        have HTE := Lib.hid hTE
        have q0 := TV.out.cell 0
        have g0 := CB1.out.cell 0
        have g1 := CB1.out.cell 1
        have g2 := CB1.out.cell 2
        have g3 := CB1.out.cell 3
        simp only [List.getElem?_toArray, List.getElem?_cons_succ, List.getElem?_cons_zero] at q0 g0 g1 g2 g3
        clear hTE
        go_wp2_with fail
        have hfa := Find_any c A k nm w1 (TB1.out.tcs (by have := CB1.out.lt; omega)) HN.out
        unfold cfV at hfa
        refine hfa.mono ?_; rintro e w3 ⟨rfl, hl3⟩
        have TV3 := Lib.hid (TV.out.bl hl3)
        have CB3 := Lib.hid (CB1.out.bl hl3)
        have FB3 := Lib.hid (FB1.out.bl hl3)
        have TB3 := Lib.hid (TB1.out.ex (T := fun _ => False) (Ex.of_below hl3) (fun b hb => hb.elim))
        have L3 := Lib.hid (bl L1.out hl3)
        have hth := find_there (l := c.l) (n := c.n) (i := i) HI.out
        rw [HNM.out] at hth
        obtain ⟨ff, hff⟩ : ∃ z, findF c.l c.n nm = z := ⟨_, rfl⟩
        rw [hff] at hth ⊢
        have HTH := Lib.hid hth
        clear hfa hl3 TV CB1 FB1 TB1 L1 q0 g0 g1 g2 g3 hff hth
        by_cases hfi : ff < (i : Int)
        · have kf : decide (ff < (i : Int)) = true := decide_eq_true hfi
          have HTE := Lib.hid (show topicE c.l i = 15 by rw [HTE.out, ← HTH.out, kf]; rfl)
          clear hfi
          have HF := Lib.hid (show faultF c = ((i : Int), 15) by rw [fault_topic (c := c) (i := i) HK.out HI.out (by rw [HTE.out]; decide) HOK.out, HTE.out])
          have f0 := FB3.out.cell 0
          have f1 := FB3.out.cell 1
          have r0 := FB3.out.frozen 0
          have r1 := FB3.out.frozen 1
          simp only [List.getElem?_toArray, List.getElem?_cons_succ, List.getElem?_cons_zero] at f0 f1
          go_wp2_with fail
          have hfz := (FB3.out.set_ 0 (.int .i64 (i : Int))).set_ 1 (.int .i64 15)
          exact bodyPost_ret (results_cell_row (fn := Tryd.f21) rfl _ _ (B + 1) _ _ _ _ rfl hfz Tryd.underlying63 rfl (by kernel_rfl)) rfl ⟨by rw [HF.out]; rfl, (L3.out.setCell (p := ⟨B + 1, 0, none⟩) (show w.heap.size ≤ B + 1 by rw [HB.out]; omega) _).setCell (p := ⟨B + 1, 1, none⟩) (show w.heap.size ≤ B + 1 by rw [HB.out]; omega) _⟩
        have kf : decide (ff < (i : Int)) = false := decide_eq_false hfi
        have HTE := Lib.hid (show topicE c.l i = sureE (inB wo 1 64 && inB de 2 16) 10 by rw [HTE.out, ← HTH.out, kf]; rfl)
        clear hfi HTH
        have q1 := TV3.out.cell 1
        have q2 := TV3.out.cell 2
        simp only [List.getElem?_toArray, List.getElem?_cons_succ, List.getElem?_cons_zero] at q1 q2
        by_cases h1 : wo < 1
        · have k1 : decide (wo < 1) = true := decide_eq_true h1
          have HTE := Lib.hid (show topicE c.l i = 10 by rw [HTE.out, show (inB wo 1 64 && inB de 2 16) = false from by unfold inB; simp; omega]; rfl)
          clear h1
          have HF := Lib.hid (show faultF c = ((i : Int), 10) by rw [fault_topic (c := c) (i := i) HK.out HI.out (by rw [HTE.out]; decide) HOK.out, HTE.out])
          have f0 := FB3.out.cell 0
          have f1 := FB3.out.cell 1
          have r0 := FB3.out.frozen 0
          have r1 := FB3.out.frozen 1
          simp only [List.getElem?_toArray, List.getElem?_cons_succ, List.getElem?_cons_zero] at f0 f1
          go_wp2_with fail
          have hfz := (FB3.out.set_ 0 (.int .i64 (i : Int))).set_ 1 (.int .i64 10)
          exact bodyPost_ret (results_cell_row (fn := Tryd.f21) rfl _ _ (B + 1) _ _ _ _ rfl hfz Tryd.underlying63 rfl (by kernel_rfl)) rfl ⟨by rw [HF.out]; rfl, (L3.out.setCell (p := ⟨B + 1, 0, none⟩) (show w.heap.size ≤ B + 1 by rw [HB.out]; omega) _).setCell (p := ⟨B + 1, 1, none⟩) (show w.heap.size ≤ B + 1 by rw [HB.out]; omega) _⟩
        have k1 : decide (wo < 1) = false := decide_eq_false h1
        by_cases h2 : wo > 64
        · have k2 : decide (wo > 64) = true := decide_eq_true h2
          have HTE := Lib.hid (show topicE c.l i = 10 by rw [HTE.out, show (inB wo 1 64 && inB de 2 16) = false from by unfold inB; simp; omega]; rfl)
          clear h2
          have HF := Lib.hid (show faultF c = ((i : Int), 10) by rw [fault_topic (c := c) (i := i) HK.out HI.out (by rw [HTE.out]; decide) HOK.out, HTE.out])
          have f0 := FB3.out.cell 0
          have f1 := FB3.out.cell 1
          have r0 := FB3.out.frozen 0
          have r1 := FB3.out.frozen 1
          simp only [List.getElem?_toArray, List.getElem?_cons_succ, List.getElem?_cons_zero] at f0 f1
          go_wp2_with fail
          have hfz := (FB3.out.set_ 0 (.int .i64 (i : Int))).set_ 1 (.int .i64 10)
          exact bodyPost_ret (results_cell_row (fn := Tryd.f21) rfl _ _ (B + 1) _ _ _ _ rfl hfz Tryd.underlying63 rfl (by kernel_rfl)) rfl ⟨by rw [HF.out]; rfl, (L3.out.setCell (p := ⟨B + 1, 0, none⟩) (show w.heap.size ≤ B + 1 by rw [HB.out]; omega) _).setCell (p := ⟨B + 1, 1, none⟩) (show w.heap.size ≤ B + 1 by rw [HB.out]; omega) _⟩
        have k2 : decide (wo > 64) = false := decide_eq_false h2
        by_cases h3 : de < 2
        · have k3 : decide (de < 2) = true := decide_eq_true h3
          have HTE := Lib.hid (show topicE c.l i = 10 by rw [HTE.out, show (inB wo 1 64 && inB de 2 16) = false from by unfold inB; simp; omega]; rfl)
          clear h3
          have HF := Lib.hid (show faultF c = ((i : Int), 10) by rw [fault_topic (c := c) (i := i) HK.out HI.out (by rw [HTE.out]; decide) HOK.out, HTE.out])
          have f0 := FB3.out.cell 0
          have f1 := FB3.out.cell 1
          have r0 := FB3.out.frozen 0
          have r1 := FB3.out.frozen 1
          simp only [List.getElem?_toArray, List.getElem?_cons_succ, List.getElem?_cons_zero] at f0 f1
          go_wp2_with fail
          have hfz := (FB3.out.set_ 0 (.int .i64 (i : Int))).set_ 1 (.int .i64 10)
          exact bodyPost_ret (results_cell_row (fn := Tryd.f21) rfl _ _ (B + 1) _ _ _ _ rfl hfz Tryd.underlying63 rfl (by kernel_rfl)) rfl ⟨by rw [HF.out]; rfl, (L3.out.setCell (p := ⟨B + 1, 0, none⟩) (show w.heap.size ≤ B + 1 by rw [HB.out]; omega) _).setCell (p := ⟨B + 1, 1, none⟩) (show w.heap.size ≤ B + 1 by rw [HB.out]; omega) _⟩
        have k3 : decide (de < 2) = false := decide_eq_false h3
        by_cases h4 : de > 16
        · have k4 : decide (de > 16) = true := decide_eq_true h4
          have HTE := Lib.hid (show topicE c.l i = 10 by rw [HTE.out, show (inB wo 1 64 && inB de 2 16) = false from by unfold inB; simp; omega]; rfl)
          clear h4
          have HF := Lib.hid (show faultF c = ((i : Int), 10) by rw [fault_topic (c := c) (i := i) HK.out HI.out (by rw [HTE.out]; decide) HOK.out, HTE.out])
          have f0 := FB3.out.cell 0
          have f1 := FB3.out.cell 1
          have r0 := FB3.out.frozen 0
          have r1 := FB3.out.frozen 1
          simp only [List.getElem?_toArray, List.getElem?_cons_succ, List.getElem?_cons_zero] at f0 f1
          go_wp2_with fail
          have hfz := (FB3.out.set_ 0 (.int .i64 (i : Int))).set_ 1 (.int .i64 10)
          exact bodyPost_ret (results_cell_row (fn := Tryd.f21) rfl _ _ (B + 1) _ _ _ _ rfl hfz Tryd.underlying63 rfl (by kernel_rfl)) rfl ⟨by rw [HF.out]; rfl, (L3.out.setCell (p := ⟨B + 1, 0, none⟩) (show w.heap.size ≤ B + 1 by rw [HB.out]; omega) _).setCell (p := ⟨B + 1, 1, none⟩) (show w.heap.size ≤ B + 1 by rw [HB.out]; omega) _⟩
        have k4 : decide (de > 16) = false := decide_eq_false h4
        have HX := Lib.hid (show topicE c.l i = 0 by rw [HTE.out, show (inB wo 1 64 && inB de 2 16) = true from by unfold inB; simp; omega]; rfl)
        clear h1 h2 h3 h4
        go_wp2_with fail
        exact ⟨⟨i + 1, HI.out, by go_num, fun j hj => if e : j = i then by rw [e]; exact HX.out else HOK.out j (by omega), CB3.out, FB3.out, TB3.out, L3.out⟩, by have := HI.out; simp [intOf]; omega⟩
    · have he : i = c.n := by omega
      have kd : decide ((i : Int) < (c.n : Int)) = false := decide_eq_false (by omega)
      have kdn : decide (i < c.n) = false := decide_eq_false hlt
      have kdm : ¬ i < c.n := hlt
      have HF := Lib.hid (fault_none (c := c) HK.out (fun j hj => HOK.out j (by omega)))
      have g1 := CB.out.cell 1
      have f0 := FB.out.cell 0
      have f1 := FB.out.cell 1
      have r0 := FB.out.frozen 0
      have r1 := FB.out.frozen 1
      simp only [List.getElem?_toArray, List.getElem?_cons_succ, List.getElem?_cons_zero] at g1 f0 f1
      clear hlt he hi
      go_wp2_with fail
      have hfz := (FB.out.set_ 0 (.int .i64 0)).set_ 1 (.int .i64 0)
      exact bodyPost_ret (results_cell_row (fn := Tryd.f21) rfl _ _ (B + 1) _ _ _ _ rfl hfz Tryd.underlying63 rfl (by kernel_rfl)) rfl ⟨by rw [HF.out]; rfl, (L0.out.setCell (p := ⟨B + 1, 0, none⟩) (show w.heap.size ≤ B + 1 by rw [HB.out]; omega) _).setCell (p := ⟨B + 1, 1, none⟩) (show w.heap.size ≤ B + 1 by rw [HB.out]; omega) _⟩
end Go.Proofs.YtgdfhgoenemanaaDoor.Plan
