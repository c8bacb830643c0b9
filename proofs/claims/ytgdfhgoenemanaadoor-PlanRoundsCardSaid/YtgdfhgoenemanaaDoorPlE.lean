/-
  Law 6: config.Check tells the first fault. Conditions stand at each. By an AI agent.
-/
import Derived.Test.YtgdfhgoenemanaaDoorPlD
import Derived.Laws.Rows
import Derived.Laws.ResultCell
namespace Go.Proofs.YtgdfhgoenemanaaDoor.Plan
set_option linter.unusedVariables false
set_option linter.unusedSimpArgs false
open Go Go.RowKit Go.Proofs.YtgdfhgoenemanaaDoor.Base
def askE (c : Cf) (k : Nat) : Int := match k with
  | 0 => sureE (inB c.tasks 1 8) 10
  | 1 => sureE (inB c.n 1 64) 12
  | _ => sureE (inB c.tries 1 16 && inB c.log 1 64) 10
def faultF (c : Cf) : Int × Int :=
  match (List.range 3).find? (fun k => decide (askE c k ≠ 0)) with
  | some k => (-1, askE c k)
  | none => match (List.range c.n).find? (fun i => decide (topicE c.l i ≠ 0)) with
    | some i => ((i : Int), topicE c.l i)
    | none => (0, 0)
theorem find_first {p : Nat → Bool} {n i : Nat} (hi : i < n) (h : p i = true) (hl : ∀ j, j < i → p j = false) : (List.range n).find? p = some i := by
  rw [List.find?_eq_some_iff_append]
  refine ⟨h, List.range i, List.map (fun x => i + 1 + x) (List.range (n - i - 1)), ?_, fun a ha => by rw [hl a (List.mem_range.1 ha)]; rfl⟩
  have e : n = i + (1 + (n - i - 1)) := by omega
  conv => lhs; rw [e, List.range_add]
  congr 1
  rw [List.range_add]
  simp [List.map_map, Function.comp_def]
  intro a ha
  omega
theorem find_none {p : Nat → Bool} {n : Nat} (hl : ∀ j, j < n → p j = false) : (List.range n).find? p = none := by
  rw [List.find?_eq_none]
  intro x hx
  rw [hl x (List.mem_range.1 hx)]
  simp
theorem fault_ask {c : Cf} {k : Nat} (hk : k < 3) (h : askE c k ≠ 0) (hl : ∀ j, j < k → askE c j = 0) : faultF c = (-1, askE c k) := by
  unfold faultF
  rw [find_first (p := fun k => decide (askE c k ≠ 0)) hk (decide_eq_true h) (fun j hj => decide_eq_false (by rw [hl j hj]; simp))]
theorem fault_topic {c : Cf} {i : Nat} (ha : ∀ j, j < 3 → askE c j = 0) (hi : i < c.n) (h : topicE c.l i ≠ 0) (hl : ∀ j, j < i → topicE c.l j = 0) : faultF c = ((i : Int), topicE c.l i) := by
  unfold faultF
  rw [find_none (p := fun k => decide (askE c k ≠ 0)) (fun j hj => decide_eq_false (by rw [ha j hj]; simp)), find_first (p := fun i => decide (topicE c.l i ≠ 0)) hi (decide_eq_true h) (fun j hj => decide_eq_false (by rw [hl j hj]; simp))]
theorem fault_none {c : Cf} (ha : ∀ j, j < 3 → askE c j = 0) (hl : ∀ j, j < c.n → topicE c.l j = 0) : faultF c = (0, 0) := by
  unfold faultF
  rw [find_none (p := fun k => decide (askE c k ≠ 0)) (fun j hj => decide_eq_false (by rw [ha j hj]; simp)), find_none (p := fun i => decide (topicE c.l i ≠ 0)) (fun j hj => decide_eq_false (by rw [hl j hj]; simp))]
/-- a config by value -/
def cfV (c : Cf) (A : Option Addr) (k : Nat) : Value := .agg #[.int .i64 c.tasks, .slice A c.n k, .int .i64 c.tries, .int .i64 c.log]
def cfCells (c : Cf) (A : Option Addr) (k : Nat) : Array Value := #[.int .i64 c.tasks, .slice A c.n k, .int .i64 c.tries, .int .i64 c.log]
set_option maxRecDepth 100000 in
set_option maxHeartbeats 4000000 in
theorem Check_any (c : Cf) (A : Option Addr) (k : Nat) (w : World) (ht : Tcs w A c.n c.l) (hn : c.n ≤ 1000) (hs : ∀ q, (c.l q).nm.size ≤ maxLen) :
    Calls Tryd.prog 19 #[cfV c A k] w fun e w' => e = .returned (.agg #[.int .i64 (faultF c).1, .int .i64 (faultF c).2]) ∧ Below w.heap.size w w' := by
  have HT := Lib.hid ht
  have HN := Lib.hid hn
  have HS := Lib.hid hs
  clear ht hn hs
  unfold cfV
  have hmm := @run_makeMap Tryd.prog
  go_enter Tryd.func19, Tryd.ntmps19
  go_upto_region 3 with fail
  obtain ⟨B, hB⟩ : ∃ B, w.heap.size = B := ⟨_, rfl⟩
  have z1 : (w.alloc (.cells #[.int .i64 c.tasks, .slice A c.n k, .int .i64 c.tries, .int .i64 c.log] 24)).heap.size = B + 1 := by simp [hB]
  have z2 : ((w.alloc (.cells #[.int .i64 c.tasks, .slice A c.n k, .int .i64 c.tries, .int .i64 c.log] 24)).alloc (.cells #[.int .i64 0, .int .i64 0] 61)).heap.size = B + 1 + 1 := by simp [hB]
  have z3 : (((w.alloc (.cells #[.int .i64 c.tasks, .slice A c.n k, .int .i64 c.tries, .int .i64 c.log] 24)).alloc (.cells #[.int .i64 0, .int .i64 0] 61)).alloc (.map #[] 0)).heap.size = B + 1 + 1 + 1 := by simp [hB]
  have z4 : ((((w.alloc (.cells #[.int .i64 c.tasks, .slice A c.n k, .int .i64 c.tries, .int .i64 c.log] 24)).alloc (.cells #[.int .i64 0, .int .i64 0] 61)).alloc (.map #[] 0)).alloc (.cells #[.int .i64 c.tasks, .slice A c.n k, .int .i64 c.tries, .int .i64 c.log, .map (some (w.heap.size + 1 + 1))] 73)).heap.size = B + 1 + 1 + 1 + 1 := by simp [hB]
  have hcb : Blk (((((w.alloc (.cells #[.int .i64 c.tasks, .slice A c.n k, .int .i64 c.tries, .int .i64 c.log] 24)).alloc (.cells #[.int .i64 0, .int .i64 0] 61)).alloc (.map #[] 0)).alloc (.cells #[.int .i64 c.tasks, .slice A c.n k, .int .i64 c.tries, .int .i64 c.log, .map (some (w.heap.size + 1 + 1))] 73)).alloc (.cells #[.func (.func 25) #[.pointer (some ⟨w.heap.size + 1 + 1 + 1, 0, none⟩)] #[], .func (.func 26) #[.pointer (some ⟨w.heap.size + 1 + 1 + 1, 0, none⟩)] #[], .func (.func 27) #[.pointer (some ⟨w.heap.size + 1 + 1 + 1, 0, none⟩)] #[]] 74)) B 24 #[.int .i64 c.tasks, .slice A c.n k, .int .i64 c.tries, .int .i64 c.log] := hB ▸ ((((Blk.new w 24 #[.int .i64 c.tasks, .slice A c.n k, .int .i64 c.tries, .int .i64 c.log]).alloc _).alloc _).alloc _).alloc _
  have hfb : Blk (((((w.alloc (.cells #[.int .i64 c.tasks, .slice A c.n k, .int .i64 c.tries, .int .i64 c.log] 24)).alloc (.cells #[.int .i64 0, .int .i64 0] 61)).alloc (.map #[] 0)).alloc (.cells #[.int .i64 c.tasks, .slice A c.n k, .int .i64 c.tries, .int .i64 c.log, .map (some (w.heap.size + 1 + 1))] 73)).alloc (.cells #[.func (.func 25) #[.pointer (some ⟨w.heap.size + 1 + 1 + 1, 0, none⟩)] #[], .func (.func 26) #[.pointer (some ⟨w.heap.size + 1 + 1 + 1, 0, none⟩)] #[], .func (.func 27) #[.pointer (some ⟨w.heap.size + 1 + 1 + 1, 0, none⟩)] #[]] 74)) (B + 1) 61 #[.int .i64 0, .int .i64 0] := z1 ▸ (((Blk.new (w.alloc (.cells #[.int .i64 c.tasks, .slice A c.n k, .int .i64 c.tries, .int .i64 c.log] 24)) 61 #[.int .i64 0, .int .i64 0]).alloc _).alloc _).alloc _
  have hjb : Blk (((((w.alloc (.cells #[.int .i64 c.tasks, .slice A c.n k, .int .i64 c.tries, .int .i64 c.log] 24)).alloc (.cells #[.int .i64 0, .int .i64 0] 61)).alloc (.map #[] 0)).alloc (.cells #[.int .i64 c.tasks, .slice A c.n k, .int .i64 c.tries, .int .i64 c.log, .map (some (w.heap.size + 1 + 1))] 73)).alloc (.cells #[.func (.func 25) #[.pointer (some ⟨w.heap.size + 1 + 1 + 1, 0, none⟩)] #[], .func (.func 26) #[.pointer (some ⟨w.heap.size + 1 + 1 + 1, 0, none⟩)] #[], .func (.func 27) #[.pointer (some ⟨w.heap.size + 1 + 1 + 1, 0, none⟩)] #[]] 74)) (B + 1 + 1 + 1) 73 #[.int .i64 c.tasks, .slice A c.n k, .int .i64 c.tries, .int .i64 c.log, .map (some (w.heap.size + 1 + 1))] := z3 ▸ (Blk.new (((w.alloc (.cells #[.int .i64 c.tasks, .slice A c.n k, .int .i64 c.tries, .int .i64 c.log] 24)).alloc (.cells #[.int .i64 0, .int .i64 0] 61)).alloc (.map #[] 0)) 73 #[.int .i64 c.tasks, .slice A c.n k, .int .i64 c.tries, .int .i64 c.log, .map (some (w.heap.size + 1 + 1))]).alloc _
  have hfs : Blk (((((w.alloc (.cells #[.int .i64 c.tasks, .slice A c.n k, .int .i64 c.tries, .int .i64 c.log] 24)).alloc (.cells #[.int .i64 0, .int .i64 0] 61)).alloc (.map #[] 0)).alloc (.cells #[.int .i64 c.tasks, .slice A c.n k, .int .i64 c.tries, .int .i64 c.log, .map (some (w.heap.size + 1 + 1))] 73)).alloc (.cells #[.func (.func 25) #[.pointer (some ⟨w.heap.size + 1 + 1 + 1, 0, none⟩)] #[], .func (.func 26) #[.pointer (some ⟨w.heap.size + 1 + 1 + 1, 0, none⟩)] #[], .func (.func 27) #[.pointer (some ⟨w.heap.size + 1 + 1 + 1, 0, none⟩)] #[]] 74)) (B + 1 + 1 + 1 + 1) 74 #[.func (.func 25) #[.pointer (some ⟨w.heap.size + 1 + 1 + 1, 0, none⟩)] #[], .func (.func 26) #[.pointer (some ⟨w.heap.size + 1 + 1 + 1, 0, none⟩)] #[], .func (.func 27) #[.pointer (some ⟨w.heap.size + 1 + 1 + 1, 0, none⟩)] #[]] := z4 ▸ Blk.new ((((w.alloc (.cells #[.int .i64 c.tasks, .slice A c.n k, .int .i64 c.tries, .int .i64 c.log] 24)).alloc (.cells #[.int .i64 0, .int .i64 0] 61)).alloc (.map #[] 0)).alloc (.cells #[.int .i64 c.tasks, .slice A c.n k, .int .i64 c.tries, .int .i64 c.log, .map (some (w.heap.size + 1 + 1))] 73)) 74 #[.func (.func 25) #[.pointer (some ⟨w.heap.size + 1 + 1 + 1, 0, none⟩)] #[], .func (.func 26) #[.pointer (some ⟨w.heap.size + 1 + 1 + 1, 0, none⟩)] #[], .func (.func 27) #[.pointer (some ⟨w.heap.size + 1 + 1 + 1, 0, none⟩)] #[]]
  have hmp : MapAt (((((w.alloc (.cells #[.int .i64 c.tasks, .slice A c.n k, .int .i64 c.tries, .int .i64 c.log] 24)).alloc (.cells #[.int .i64 0, .int .i64 0] 61)).alloc (.map #[] 0)).alloc (.cells #[.int .i64 c.tasks, .slice A c.n k, .int .i64 c.tries, .int .i64 c.log, .map (some (w.heap.size + 1 + 1))] 73)).alloc (.cells #[.func (.func 25) #[.pointer (some ⟨w.heap.size + 1 + 1 + 1, 0, none⟩)] #[], .func (.func 26) #[.pointer (some ⟨w.heap.size + 1 + 1 + 1, 0, none⟩)] #[], .func (.func 27) #[.pointer (some ⟨w.heap.size + 1 + 1 + 1, 0, none⟩)] #[]] 74)) (B + 1 + 1) c.l 0 := ⟨_, z2 ▸ ((World.ownsMap_made ((w.alloc (.cells #[.int .i64 c.tasks, .slice A c.n k, .int .i64 c.tries, .int .i64 c.log] 24)).alloc (.cells #[.int .i64 0, .int .i64 0] 61)) Tryd.prog 9 (plainElem Tryd.prog 3)).alloc _).alloc _, Keys.nil _⟩
  have hl : Below w.heap.size w (((((w.alloc (.cells #[.int .i64 c.tasks, .slice A c.n k, .int .i64 c.tries, .int .i64 c.log] 24)).alloc (.cells #[.int .i64 0, .int .i64 0] 61)).alloc (.map #[] 0)).alloc (.cells #[.int .i64 c.tasks, .slice A c.n k, .int .i64 c.tries, .int .i64 c.log, .map (some (w.heap.size + 1 + 1))] 73)).alloc (.cells #[.func (.func 25) #[.pointer (some ⟨w.heap.size + 1 + 1 + 1, 0, none⟩)] #[], .func (.func 26) #[.pointer (some ⟨w.heap.size + 1 + 1 + 1, 0, none⟩)] #[], .func (.func 27) #[.pointer (some ⟨w.heap.size + 1 + 1 + 1, 0, none⟩)] #[]] 74)) := (((((Below.refl w.heap.size w).alloc (Nat.le_refl _) _).alloc (by rw [z1, hB]; omega) _).alloc (by rw [z2, hB]; omega) _).alloc (by rw [z3, hB]; omega) _).alloc (by rw [z4, hB]; omega) _
  simp only [hB] at hcb hfb hjb hfs hmp hl ⊢
  have CB := Lib.hid hcb
  have FB := Lib.hid hfb
  have JB := Lib.hid hjb
  have FS := Lib.hid hfs
  have HM := Lib.hid hmp
  have HB := Lib.hid hB
  clear hcb hfb hjb hfs hmp z1 z2 z3 z4 hmm
  generalize (((((w.alloc (.cells #[.int .i64 c.tasks, .slice A c.n k, .int .i64 c.tries, .int .i64 c.log] 24)).alloc (.cells #[.int .i64 0, .int .i64 0] 61)).alloc (.map #[] 0)).alloc (.cells #[.int .i64 c.tasks, .slice A c.n k, .int .i64 c.tries, .int .i64 c.log, .map (some (B + 1 + 1))] 73)).alloc (.cells #[.func (.func 25) #[.pointer (some ⟨B + 1 + 1 + 1, 0, none⟩)] #[], .func (.func 26) #[.pointer (some ⟨B + 1 + 1 + 1, 0, none⟩)] #[], .func (.func 27) #[.pointer (some ⟨B + 1 + 1 + 1, 0, none⟩)] #[]] 74)) = w0 at *
  have L0 := Lib.hid (show Below w.heap.size w w0 by rw [hB]; exact hl)
  have HT0 := Lib.hid (HT.out.bl L0.out)
  have FS0 := Lib.hid FS.out.lt
  clear hB hl
  go_loopw [5, 6, 21] (fun s5 s6 s21 wr => ∃ (q : Nat), q ≤ 3 ∧ s21 = .int .i64 q ∧ (∀ j, j < q → askE c j = 0) ∧ w0 = wr) (fun s5 s6 s21 _ => 4 - (intOf s21).toNat)
  case atStart => exact ⟨0, by omega, rfl, fun j hj => absurd hj (by omega), rfl⟩
  case round =>
    obtain ⟨q, hq, rfl, hok, hw⟩ := hrel
    subst hw
    have HOK := Lib.hid hok
    clear hok
    by_cases hlt : q < 3
    · have g0 := FB.out.cell 0
      have g1 := FB.out.cell 1
      have r0 := FB.out.frozen 0
      have r1 := FB.out.frozen 1
      simp only [List.getElem?_toArray, List.getElem?_cons_succ, List.getElem?_cons_zero] at g0 g1
      rcases (show q = 0 ∨ q = 1 ∨ q = 2 by omega) with e | e | e
      · subst e
        have fc := FS.out.cell 0
        simp only [List.getElem?_toArray, List.getElem?_cons_succ, List.getElem?_cons_zero] at fc
        obtain ⟨a, ha⟩ : ∃ a, askE c 0 = a := ⟨_, rfl⟩
        have hc := tasks_any (B + 1 + 1 + 1) c A k (B + 1 + 1) w0 JB.out
        rw [show sureE (inB c.tasks 1 8) 10 = a from ha] at hc
        have HC := Lib.hid hc
        have HA := Lib.hid ha
        clear hc ha hq hlt
        by_cases ha0 : a = 0
        · subst ha0
          clear g0 g1 r0 r1
          go_wp2_with fail
          refine HC.out.mono ?_; rintro e w' ⟨rfl, hw9⟩
          subst hw9
          go_wp2_with fail
          exact ⟨⟨1, by omega, by go_num, fun j hj => if e : j = 0 then by rw [e]; exact HA.out else HOK.out j (by omega), by first | rfl | trivial⟩, by simp [intOf]⟩
        · have hb : (a != 0) = true := by simp [ha0]
          have HF := Lib.hid (fault_ask (c := c) (k := 0) (by omega) (by rw [HA.out]; exact ha0) (fun j hj => HOK.out j hj))
          clear ha0
          go_wp2_with fail
          refine HC.out.mono ?_; rintro e w' ⟨rfl, hw9⟩
          subst hw9
          go_wp2_with fail
          have hfz := (FB.out.set_ 0 (.int .i64 (-1))).set_ 1 (.int .i64 a)
          exact bodyPost_ret (results_cell_row (fn := Tryd.f19) rfl _ _ (B + 1) _ _ _ _ rfl hfz Tryd.underlying61 rfl (by kernel_rfl)) rfl ⟨by rw [HF.out, HA.out]; rfl, (L0.out.setCell (p := ⟨B + 1, 0, none⟩) (show w.heap.size ≤ B + 1 by rw [HB.out]; omega) _).setCell (p := ⟨B + 1, 1, none⟩) (show w.heap.size ≤ B + 1 by rw [HB.out]; omega) _⟩
      · subst e
        have fc := FS.out.cell 1
        simp only [List.getElem?_toArray, List.getElem?_cons_succ, List.getElem?_cons_zero] at fc
        obtain ⟨a, ha⟩ : ∃ a, askE c 1 = a := ⟨_, rfl⟩
        have hc := topics_any (B + 1 + 1 + 1) c A k (B + 1 + 1) w0 JB.out
        rw [show sureE (inB c.n 1 64) 12 = a from ha] at hc
        have HC := Lib.hid hc
        have HA := Lib.hid ha
        clear hc ha hq hlt
        by_cases ha0 : a = 0
        · subst ha0
          clear g0 g1 r0 r1
          go_wp2_with fail
          refine HC.out.mono ?_; rintro e w' ⟨rfl, hw9⟩
          subst hw9
          go_wp2_with fail
          exact ⟨⟨2, by omega, by go_num, fun j hj => if e : j = 1 then by rw [e]; exact HA.out else HOK.out j (by omega), by first | rfl | trivial⟩, by simp [intOf]⟩
        · have hb : (a != 0) = true := by simp [ha0]
          have HF := Lib.hid (fault_ask (c := c) (k := 1) (by omega) (by rw [HA.out]; exact ha0) (fun j hj => HOK.out j hj))
          clear ha0
          go_wp2_with fail
          refine HC.out.mono ?_; rintro e w' ⟨rfl, hw9⟩
          subst hw9
          go_wp2_with fail
          have hfz := (FB.out.set_ 0 (.int .i64 (-1))).set_ 1 (.int .i64 a)
          exact bodyPost_ret (results_cell_row (fn := Tryd.f19) rfl _ _ (B + 1) _ _ _ _ rfl hfz Tryd.underlying61 rfl (by kernel_rfl)) rfl ⟨by rw [HF.out, HA.out]; rfl, (L0.out.setCell (p := ⟨B + 1, 0, none⟩) (show w.heap.size ≤ B + 1 by rw [HB.out]; omega) _).setCell (p := ⟨B + 1, 1, none⟩) (show w.heap.size ≤ B + 1 by rw [HB.out]; omega) _⟩
      · subst e
        have fc := FS.out.cell 2
        simp only [List.getElem?_toArray, List.getElem?_cons_succ, List.getElem?_cons_zero] at fc
        obtain ⟨a, ha⟩ : ∃ a, askE c 2 = a := ⟨_, rfl⟩
        have hc := rest_any (B + 1 + 1 + 1) c A k (B + 1 + 1) w0 JB.out
        rw [show sureE (inB c.tries 1 16 && inB c.log 1 64) 10 = a from ha] at hc
        have HC := Lib.hid hc
        have HA := Lib.hid ha
        clear hc ha hq hlt
        by_cases ha0 : a = 0
        · subst ha0
          clear g0 g1 r0 r1
          go_wp2_with fail
          refine HC.out.mono ?_; rintro e w' ⟨rfl, hw9⟩
          subst hw9
          go_wp2_with fail
          exact ⟨⟨3, by omega, by go_num, fun j hj => if e : j = 2 then by rw [e]; exact HA.out else HOK.out j (by omega), by first | rfl | trivial⟩, by simp [intOf]⟩
        · have hb : (a != 0) = true := by simp [ha0]
          have HF := Lib.hid (fault_ask (c := c) (k := 2) (by omega) (by rw [HA.out]; exact ha0) (fun j hj => HOK.out j hj))
          clear ha0
          go_wp2_with fail
          refine HC.out.mono ?_; rintro e w' ⟨rfl, hw9⟩
          subst hw9
          go_wp2_with fail
          have hfz := (FB.out.set_ 0 (.int .i64 (-1))).set_ 1 (.int .i64 a)
          exact bodyPost_ret (results_cell_row (fn := Tryd.f19) rfl _ _ (B + 1) _ _ _ _ rfl hfz Tryd.underlying61 rfl (by kernel_rfl)) rfl ⟨by rw [HF.out, HA.out]; rfl, (L0.out.setCell (p := ⟨B + 1, 0, none⟩) (show w.heap.size ≤ B + 1 by rw [HB.out]; omega) _).setCell (p := ⟨B + 1, 1, none⟩) (show w.heap.size ≤ B + 1 by rw [HB.out]; omega) _⟩
    · have he : q = 3 := by omega
      have kd : decide ((q : Int) < 3) = false := decide_eq_false (by omega)
      have HA := Lib.hid (show ∀ j, j < 3 → askE c j = 0 from fun j hj => HOK.out j (by omega))
      have g1 := CB.out.cell 1
      simp only [List.getElem?_toArray, List.getElem?_cons_succ, List.getElem?_cons_zero] at g1
      clear hlt he hq HOK
      go_wp2_with fail
      clear kd g1 CB FS
      have TB0 := Lib.hid (show TcsB B w0 A c.n c.l by rw [← HB.out]; exact HT.out.to_b L0.out)
      have Z0 := Lib.hid (show B + 1 + 1 + 1 + 1 < w0.heap.size from FS0.out)
      clear FS0 HT0
      go_loopw [7, 8, 35] (fun s7 s8 s35 wr => ∃ (i : Nat), i ≤ c.n ∧ s35 = .int .i64 i ∧ (∀ j, j < i → topicE c.l j = 0) ∧ Blk wr (B + 1 + 1 + 1) 73 (jCells c A k (B + 1 + 1)) ∧ Blk wr (B + 1) 61 #[.int .i64 0, .int .i64 0] ∧ MapAt wr (B + 1 + 1) c.l i ∧ TcsB B wr A c.n c.l ∧ B + 1 + 1 + 1 + 1 < wr.heap.size ∧ Below w.heap.size w wr) (fun s7 s8 s35 _ => c.n + 1 - (intOf s35).toNat)
      case atStart => exact ⟨0, by omega, rfl, fun j hj => absurd hj (by omega), JB.out, FB.out, HM.out, TB0.out, Z0.out, L0.out⟩
      case round =>
        clear JB FB HM TB0 Z0 L0
        obtain ⟨i, hi, rfl, hok, hj, hf, hm, htb, hz, hl⟩ := hrel
        have HOK := Lib.hid hok
        have JB := Lib.hid hj
        have FB := Lib.hid hf
        have HM := Lib.hid hm
        have TB := Lib.hid htb
        have Z0 := Lib.hid hz
        have L0 := Lib.hid hl
        clear hok hj hf hm htb hz hl
        by_cases hlt : i < c.n
        · have kd : decide ((i : Int) < (c.n : Int)) = true := decide_eq_true (by omega)
          have kdn : decide (i < c.n) = true := decide_eq_true hlt
          have kdm : i < c.n := hlt
          have ki0 : (0 : Int) ≤ (i : Int) := by omega
          have ki1 : (i : Int) < (c.n : Int) := by omega
          have ki5 : (i : Int) ≤ 1000 := by have := HN.out; omega
          obtain ⟨a, ha⟩ : ∃ a, topicE c.l i = a := ⟨_, rfl⟩
          have hc := topic_any (B + 1 + 1 + 1) i (B + 1 + 1) c A k wr JB.out (TB.out.tcs (by have := Z0.out; omega)) HM.out hlt HN.out HS.out
          rw [ha] at hc
          have HC := Lib.hid hc
          have HX := Lib.hid ha
          have HI := Lib.hid hlt
          clear hc ha hi hlt
          by_cases ha0 : a = 0
          · subst ha0
            go_wp2_with fail
            refine HC.out.mono ?_; rintro e w5 ⟨rfl, hx5, hm5⟩
            have JB5 := Lib.hid (JB.out.ex hx5 (by omega))
            have FB5 := Lib.hid (FB.out.ex hx5 (by omega))
            have HM5 := Lib.hid (hm5 trivial)
            have TB5 := Lib.hid (TB.out.ex hx5 (fun b hb => by omega))
            have Z5 := Lib.hid (Nat.lt_of_lt_of_le Z0.out hx5.size)
            have L5 := Lib.hid (Ex.below L0.out hx5 (fun b hb => by have := HB.out; omega))
            clear hx5 hm5 JB FB HM TB Z0 L0 HC
            go_wp2_with fail
            exact ⟨⟨i + 1, HI.out, by go_num, fun j hj => if e : j = i then by rw [e]; exact HX.out else HOK.out j (by omega), JB5.out, FB5.out, HM5.out, TB5.out, Z5.out, L5.out⟩, by have := HI.out; simp [intOf]; omega⟩
          · have hb : (a != 0) = true := by simp [ha0]
            have HF := Lib.hid (fault_topic (c := c) (i := i) HA.out HI.out (by rw [HX.out]; exact ha0) HOK.out)
            clear ha0
            go_wp2_with fail
            refine HC.out.mono ?_; rintro e w5 ⟨rfl, hx5, hm5⟩
            have FB5 := Lib.hid (FB.out.ex hx5 (by omega))
            have L5 := Lib.hid (Ex.below L0.out hx5 (fun b hb => by have := HB.out; omega))
            have g0 := FB5.out.cell 0
            have g1 := FB5.out.cell 1
            have r0 := FB5.out.frozen 0
            have r1 := FB5.out.frozen 1
            simp only [List.getElem?_toArray, List.getElem?_cons_succ, List.getElem?_cons_zero] at g0 g1
            clear hx5 hm5 JB FB HM TB Z0 L0 HC
            go_wp2_with fail
            have hfz := (FB5.out.set_ 0 (.int .i64 (i : Int))).set_ 1 (.int .i64 a)
            exact bodyPost_ret (results_cell_row (fn := Tryd.f19) rfl _ _ (B + 1) _ _ _ _ rfl hfz Tryd.underlying61 rfl (by kernel_rfl)) rfl ⟨by rw [HF.out, HX.out]; rfl, (L5.out.setCell (p := ⟨B + 1, 0, none⟩) (show w.heap.size ≤ B + 1 by rw [HB.out]; omega) _).setCell (p := ⟨B + 1, 1, none⟩) (show w.heap.size ≤ B + 1 by rw [HB.out]; omega) _⟩
        · have he : i = c.n := by omega
          have kd : decide ((i : Int) < (c.n : Int)) = false := decide_eq_false (by omega)
          have kdn : decide (i < c.n) = false := decide_eq_false hlt
          have kdm : ¬ i < c.n := hlt
          have HF := Lib.hid (fault_none (c := c) HA.out (fun j hj => HOK.out j (by omega)))
          have g0 := FB.out.cell 0
          have g1 := FB.out.cell 1
          have r0 := FB.out.frozen 0
          have r1 := FB.out.frozen 1
          simp only [List.getElem?_toArray, List.getElem?_cons_succ, List.getElem?_cons_zero] at g0 g1
          clear hlt he hi
          go_wp2_with fail
          have hfz := (FB.out.set_ 0 (.int .i64 0)).set_ 1 (.int .i64 0)
          exact bodyPost_ret (results_cell_row (fn := Tryd.f19) rfl _ _ (B + 1) _ _ _ _ rfl hfz Tryd.underlying61 rfl (by kernel_rfl)) rfl ⟨by rw [HF.out]; rfl, (L0.out.setCell (p := ⟨B + 1, 0, none⟩) (show w.heap.size ≤ B + 1 by rw [HB.out]; omega) _).setCell (p := ⟨B + 1, 1, none⟩) (show w.heap.size ≤ B + 1 by rw [HB.out]; omega) _⟩
end Go.Proofs.YtgdfhgoenemanaaDoor.Plan
