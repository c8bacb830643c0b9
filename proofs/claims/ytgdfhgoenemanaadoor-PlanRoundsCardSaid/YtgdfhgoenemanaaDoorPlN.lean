/-
  Law 6: whether a config is few; whose each word is, in plain numbers; the document's lay. Conditions stand at each. By an AI agent.
-/
import Derived.Test.YtgdfhgoenemanaaDoorPlI
namespace Go.Proofs.YtgdfhgoenemanaaDoor.Plan
set_option linter.unusedVariables false
set_option linter.unusedSimpArgs false
open Go Go.RowKit Go.Proofs.YtgdfhgoenemanaaDoor.Base
def fewB (c : Cf) : Bool := decide (c.n ≤ 80) && (List.range c.n).all fun i => decide ((c.l i).nm.size ≤ 40)
theorem few_ok {c : Cf} (h : fewB c = true) : c.n ≤ 80 := by
  unfold fewB at h
  rw [Bool.and_eq_true, decide_eq_true_iff] at h
  exact h.1
theorem few_no {c : Cf} {i : Nat} (hi : i < c.n) (h : 40 < (c.l i).nm.size) : fewB c = false := by
  unfold fewB
  rw [Bool.and_eq_false_iff]
  right
  rw [List.all_eq_false]
  exact ⟨i, List.mem_range.2 hi, by simp; omega⟩
set_option maxRecDepth 100000 in
set_option maxHeartbeats 4000000 in
theorem Few_any (c : Cf) (A : Option Addr) (k : Nat) (w : World) (ht : Tcs w A c.n c.l) (hn : c.n ≤ maxLen) :
    Calls Tryd.prog 9 #[cfV c A k] w fun e w' => e = .returned (.bool (fewB c)) ∧ Below w.heap.size w w' := by
  have HT := Lib.hid ht
  have HN := Lib.hid hn
  clear ht hn
  unfold cfV
  go_enter Tryd.func9, Tryd.ntmps9
  go_upto_region 1 with fail
  have CB := Lib.hid (Blk.new w 24 #[.int .i64 c.tasks, .slice A c.n k, .int .i64 c.tries, .int .i64 c.log])
  have L0 := Lib.hid ((Below.refl w.heap.size w).alloc (Nat.le_refl _) (.cells #[.int .i64 c.tasks, .slice A c.n k, .int .i64 c.tries, .int .i64 c.log] 24))
  generalize (w.alloc (.cells #[.int .i64 c.tasks, .slice A c.n k, .int .i64 c.tries, .int .i64 c.log] 24)) = w0 at *
  have HT0 := Lib.hid (HT.out.bl L0.out)
  have g1 := CB.out.cell 1
  simp only [List.getElem?_toArray, List.getElem?_cons_succ, List.getElem?_cons_zero] at g1
  obtain ⟨n, hnn⟩ : ∃ n, c.n = n := ⟨_, rfl⟩
  rw [hnn] at g1 HN HT0
  have HNN := Lib.hid hnn
  simp only [hnn]
  clear hnn HT
  have ST : ∀ i : Nat, i < 82 → (i : Int) ≤ 82 := fun i h => by omega
  go_wp2_with fail
  go_loopw [3] (fun s3 wr => ∃ (i : Nat), i ≤ n ∧ i ≤ 81 ∧ s3 = .int .i64 i ∧ (∀ j, j < i → (c.l j).nm.size ≤ 40) ∧ w0 = wr) (fun s3 _ => 82 - (intOf s3).toNat)
  case atStart => exact ⟨0, by omega, by omega, rfl, fun j hj => absurd hj (by omega), rfl⟩
  case round =>
    obtain ⟨i, hi, hi2, rfl, hok, hw⟩ := hrel
    subst hw
    have HOK := Lib.hid hok
    clear hok
    by_cases hlt : i < n
    · have kd : decide ((i : Int) < (n : Int)) = true := decide_eq_true (by omega)
      have kdn : decide (i < n) = true := decide_eq_true hlt
      have kdm : i < n := hlt
      have ki0 : (0 : Int) ≤ (i : Int) := by omega
      have ki1 : (i : Int) < (n : Int) := by omega
      have ki5 : (i : Int) ≤ 81 := by omega
      by_cases h81 : i < 81
      · have q1 : decide ((i : Int) < 81) = true := decide_eq_true (by omega)
        have q2 : decide (i < 81) = true := decide_eq_true h81
        have q3 : i < 81 := h81
        obtain ⟨tb, tof, rfl, htb, htc⟩ := HT0.out (by omega)
        have t0 := (htc i hlt).1
        have HI := Lib.hid (show i < n ∧ i < 81 from ⟨hlt, h81⟩)
        clear htb htc hi hi2 hlt h81
        by_cases he : 40 < (c.l i).nm.size
        · have ke : decide (((c.l i).nm.size : Int) > 40) = true := decide_eq_true (by omega)
          have HF := Lib.hid (few_no (c := c) (by rw [HNN.out]; exact HI.out.1) he)
          clear he
          go_wp2_with fail
          go_ret
          exact ⟨by rw [HF.out]; rfl, L0.out⟩
        · have ke : decide (((c.l i).nm.size : Int) > 40) = false := decide_eq_false (by omega)
          have HE := Lib.hid (show (c.l i).nm.size ≤ 40 by omega)
          clear he
          go_wp2_with fail
          exact ⟨⟨i + 1, HI.out.1, HI.out.2, by go_num, fun j hj => if e : j = i then by rw [e]; exact HE.out else HOK.out j (by omega), by first | rfl | trivial⟩, by have := HI.out; simp [intOf]; omega⟩
      · have q1 : decide ((i : Int) < 81) = false := decide_eq_false (by omega)
        have q2 : decide (i < 81) = false := decide_eq_false h81
        have q3 : ¬ i < 81 := h81
        have k80 : decide ((n : Int) ≤ 80) = false := decide_eq_false (by omega)
        have k80n : decide (n ≤ 80) = false := decide_eq_false (by omega)
        have HF := Lib.hid (show fewB c = false by unfold fewB; rw [HNN.out, k80n]; rfl)
        have k80m : ¬ n ≤ 80 := by omega
        clear h81 hi hi2 hlt
        go_wp2_with fail
        go_ret
        exact ⟨by rw [HF.out]; rfl, L0.out⟩
    · have he : i = n := by omega
      have kd : decide ((i : Int) < (n : Int)) = false := decide_eq_false (by omega)
      have kdn : decide (i < n) = false := decide_eq_false hlt
      have kdm : ¬ i < n := hlt
      by_cases h80 : n ≤ 80
      · have k80 : decide ((n : Int) ≤ 80) = true := decide_eq_true (by omega)
        have k80n : decide (n ≤ 80) = true := decide_eq_true h80
        have k80m : n ≤ 80 := h80
        have HF := Lib.hid (show fewB c = true by unfold fewB; rw [HNN.out, k80n, Bool.true_and]; exact List.all_eq_true.2 fun j hj => decide_eq_true (HOK.out j (by have := List.mem_range.1 hj; omega)))
        clear hlt he hi hi2 h80
        go_wp2_with fail
        go_ret
        exact ⟨by rw [HF.out]; rfl, L0.out⟩
      · have k80 : decide ((n : Int) ≤ 80) = false := decide_eq_false (by omega)
        have k80n : decide (n ≤ 80) = false := decide_eq_false h80
        have k80m : ¬ n ≤ 80 := h80
        have HF := Lib.hid (show fewB c = false by unfold fewB; rw [HNN.out, k80n]; rfl)
        clear hlt he hi hi2 h80
        go_wp2_with fail
        go_ret
        exact ⟨by rw [HF.out]; rfl, L0.out⟩
/-- whose each word is, so far -/
def whL (c : Cf) : Nat → List Int
  | 0 => -1 :: List.replicate c.log.toNat (-2)
  | k + 1 => whL c k ++ List.replicate (2 + ((c.l k).words * (c.l k).depth).toNat) (k : Int)
theorem whL_len {c : Cf} (h : OkC c) : ∀ k, k ≤ c.n → ((whL c k).length : Int) = offP c k := by
  intro k hk
  induction k with
  | zero => have := h.log; simp [whL, offP]; omega
  | succ k ih =>
    have := ih (by omega)
    have := prod_bounds (h.l k (by omega))
    simp only [whL, offP, List.length_append, List.length_replicate]
    push_cast
    omega
/-- of topic k: the words from its beginning to the next one's -/
theorem whL_at {c : Cf} (h : OkC c) : ∀ n, n ≤ c.n → ∀ k, k < n → ∀ q : Nat, offP c k ≤ (q : Int) → (q : Int) < offP c (k + 1) → nth (whL c n) q = (k : Int) := by
  intro n hn
  induction n with
  | zero => intro k hk; omega
  | succ n ih =>
    intro k hk q h1 h2
    have hl := whL_len h n (by omega)
    have hp := prod_bounds (h.l n (by omega))
    unfold nth
    simp only [whL]
    rw [List.getD_eq_getElem?_getD]
    by_cases e : k = n
    · subst e
      simp only [offP] at h2
      generalize (c.l k).words * (c.l k).depth = m at *
      rw [List.getElem?_append_right (by omega), List.getElem?_replicate, if_pos (by omega)]
      rfl
    · have hm : offP c (k + 1) ≤ offP c n := by
        have : ∀ d, k + 1 + d ≤ c.n → offP c (k + 1) ≤ offP c (k + 1 + d) := by
          intro d
          induction d with
          | zero => intro _; exact Int.le_refl _
          | succ d ihd =>
            intro hd
            have := ihd (by omega)
            have := prod_bounds (h.l (k + 1 + d) (by omega))
            have e9 : offP c (k + 1 + (d + 1)) = offP c (k + 1 + d) + 2 + (c.l (k + 1 + d)).words * (c.l (k + 1 + d)).depth := rfl
            rw [e9]
            omega
        have h9 := this (n - (k + 1)) (by omega)
        rwa [show k + 1 + (n - (k + 1)) = n by omega] at h9
      rw [List.getElem?_append_left (by omega)]
      have := ih (by omega) k (by omega) q h1 h2
      unfold nth at this
      rw [List.getD_eq_getElem?_getD] at this
      exact this
theorem whL_reg {c : Cf} (h : OkC c) : ∀ n, n ≤ c.n → nth (whL c n) 0 = -1 := by
  intro n hn
  induction n with
  | zero => rfl
  | succ n ih =>
    have hl := whL_len h n (by omega)
    have := offP_bounds h n (by omega)
    have hlog := h.log
    unfold nth at ih ⊢
    rw [List.getD_eq_getElem?_getD] at ih ⊢
    simp only [whL]
    rw [List.getElem?_append_left (by omega)]
    exact ih (by omega)
theorem whL_log {c : Cf} (h : OkC c) : ∀ n, n ≤ c.n → ∀ q : Nat, 1 ≤ q → (q : Int) < 1 + c.log → nth (whL c n) q = -2 := by
  intro n hn
  induction n with
  | zero =>
    intro q h1 h2
    unfold nth
    rw [List.getD_eq_getElem?_getD]
    obtain ⟨q, rfl⟩ : ∃ p, q = p + 1 := ⟨q - 1, by omega⟩
    simp only [whL, List.getElem?_cons_succ]
    rw [List.getElem?_replicate, if_pos (by omega)]
    rfl
  | succ n ih =>
    intro q h1 h2
    have hl := whL_len h n (by omega)
    have := offP_bounds h n (by omega)
    have h9 := ih (by omega) q h1 h2
    unfold nth at h9 ⊢
    rw [List.getD_eq_getElem?_getD] at h9 ⊢
    simp only [whL]
    rw [List.getElem?_append_left (by omega)]
    exact h9
theorem int_info : (Tryd.prog.info? 3).map (fun i => (i.zero, i.size, i.bytes)) = some (some (.int .i64 0), 1, 8) := by kernel_rfl
theorem rep_push (xs : List Int) (i : Nat) (x : Int) : xs.map (Value.int .i64) ++ (List.replicate i (Value.int .i64 x) ++ [Value.int .i64 x]) = (xs ++ List.replicate (i + 1) x).map (Value.int .i64) := by simp [List.replicate_succ']
def rpC (reg log long : Int) (sv wv : Value) : Array Value := #[.int .i64 reg, .int .i64 log, .int .i64 long, sv, wv]
set_option maxRecDepth 100000 in
set_option maxHeartbeats 4000000 in
theorem refLay_any (pb Bs m n : Nat) (reg log long whose : Int) (sv wv : Value) (xs : List Int) (w : World) (h : Blk w pb 39 (rpC reg log long sv wv)) (ho : w.ownsRow Bs 3 1 wv m (xs.map (Value.int .i64))) (hb : pb < Bs ∧ Bs ≤ w.heap.size) (hmn : m + n ≤ 100000) :
    Calls Tryd.prog 22 #[.pointer (some ⟨pb, 0, none⟩), .int .i64 whose, .int .i64 (n : Int)] w fun e w' => e = .returned (.int .i64 (m : Int)) ∧ ∃ wv', Blk w' pb 39 (rpC reg log long sv wv') ∧
      w'.ownsRow Bs 3 1 wv' (m + n) ((xs ++ List.replicate n whose).map (Value.int .i64)) ∧ Ex (fun b => b = pb ∨ wv.ownBlock = some b) w w' ∧ (wv'.ownBlock = wv.ownBlock ∨ ∃ b, wv'.ownBlock = some b ∧ w.heap.size ≤ b) := by
  have PB := Lib.hid h
  have OW := Lib.hid ho
  have HB := Lib.hid hb
  have HMN := Lib.hid hmn
  obtain ⟨A, cp, hwv⟩ := own_form ho
  obtain ⟨wv0, hwv0⟩ : ∃ z, wv = z := ⟨_, rfl⟩
  have c0 := h.cell 0
  have c4 := h.cell 4
  simp only [rpC, List.getElem?_toArray, List.getElem?_cons_succ, List.getElem?_cons_zero] at c0 c4
  rw [hwv] at c4
  have HWV := Lib.hid hwv
  obtain ⟨i0_, hi0, hz0, hz1, hz2⟩ := info_parts int_info
  clear h ho hb hmn hwv hwv0
  go_enter Tryd.func22, Tryd.ntmps22
  go_wp2_with fail
  clear c0 c4
  go_loopw [8] (fun s8 wr => ∃ (i : Nat) (v : Value), i ≤ n ∧ s8 = .int .i64 i ∧ Blk wr pb 39 (rpC reg log long sv v) ∧ wr.ownsRow Bs 3 1 v (m + i) ((xs ++ List.replicate i whose).map (Value.int .i64)) ∧ Ex (fun b => b = pb ∨ wv.ownBlock = some b) w wr ∧ (v.ownBlock = wv.ownBlock ∨ ∃ b, v.ownBlock = some b ∧ w.heap.size ≤ b)) (fun s8 _ => n + 1 - (intOf s8).toNat)
  case atStart => exact ⟨0, wv, by omega, rfl, PB.out, by rw [List.replicate_zero, List.append_nil, Nat.add_zero]; exact OW.out, Ex.refl _ _, .inl rfl⟩
  case round =>
    obtain ⟨i, v, hi, rfl, hpb, how, hex, hat⟩ := hrel
    obtain ⟨A1, c1, hv1⟩ := own_form how
    have PB1 := Lib.hid hpb
    have OW1 := Lib.hid how
    have EX1 := Lib.hid hex
    have AT1 := Lib.hid hat
    clear hpb how hex hat
    by_cases hlt : i < n
    · have kd : decide ((i : Int) < (n : Int)) = true := decide_eq_true (by omega)
      have kdn : decide (i < n) = true := decide_eq_true hlt
      have kdm : i < n := hlt
      have ki0 : (0 : Int) ≤ (i : Int) := by omega
      have ki5 : (i : Int) ≤ 100000 := by have := HMN.out; omega
      have HI := Lib.hid hlt
      subst hv1
      have d0 := PB1.out.cell 0
      have d4 := PB1.out.cell 4
      simp only [rpC, List.getElem?_toArray, List.getElem?_cons_succ, List.getElem?_cons_zero] at d0 d4
      clear hlt hi
      go_wp2_with (at_builtin; refine wpList_append_own_at _ rfl _ _ 37 rfl Bs 3 i0_ (.int .i64 0) 1 8 Tryd.underlying37 hi0 hz0 hz1 hz2 rfl (by decide) _ _ _ rfl (OW1.out.alloc _) ⟨wr.heap.size, 0, none⟩ 1 1 [.int .i64 whose] rfl rfl ?c1 ?c2 ?c3 ?c4 ?c5 ?_)
      case c1 =>
        have hbn := Blk.new wr 3 #[.int .i64 whose]
        intro j u hj
        match j, hj with
        | 0, hj => simp at hj; subst hj; exact hbn.cell 0
      case c2 =>
        intro u hu
        simp only [List.mem_cons, List.not_mem_nil, or_false] at hu
        subst hu; rfl
      case c3 => have := HMN.out; have := HI.out; unfold maxLen; omega
      case c4 => have := HMN.out; have := HI.out; omega
      case c5 => have := HB.out; have := EX1.out.size; simp; omega
      intro v' w8 hown' hgrow _ hat
      have hgr : Ex (fun b => (Value.slice A1 (m + i) c1).ownBlock = some b) wr w8 := ((Ex.refl _ wr).alloc (.cells #[.int .i64 whose] 3)).trans (Ex.of_grown hgrow)
      have hlow : ∀ b, (Value.slice A1 (m + i) c1).ownBlock = some b → Bs ≤ b := fun b hb => (OW1.out.lt b hb).1
      have hold : ∀ b, (Value.slice A1 (m + i) c1).ownBlock = some b → wv.ownBlock = some b ∨ w.heap.size ≤ b := fun b hb => by
        rcases AT1.out with h9 | ⟨b2, h9, h8⟩
        · exact .inl (h9 ▸ hb)
        · rw [hb] at h9
          injection h9 with h9
          exact .inr (by omega)
      rw [rep_push] at hown'
      obtain ⟨va, vc, hvv⟩ := own_form hown'
      subst hvv
      have PB8 := Lib.hid (PB1.out.ex hgr (fun hb => by have := hlow _ hb; have := HB.out; omega))
      have OW8 := Lib.hid hown'
      have EX8 := Lib.hid (show Ex (fun b => b = pb ∨ wv.ownBlock = some b) w w8 from ⟨hgr.os.trans EX1.out.os, hgr.tape.trans EX1.out.tape, hgr.output.trans EX1.out.output, Nat.le_trans EX1.out.size hgr.size, fun k hk hn => (hgr.block k (Nat.lt_of_lt_of_le hk EX1.out.size) (fun ht => by
        rcases hold k ht with h9 | h9
        · exact hn (.inr h9)
        · omega)).trans (EX1.out.block k hk hn)⟩)
      have AT8 := Lib.hid (show (Value.slice va (m + i + 1) vc).ownBlock = wv.ownBlock ∨ ∃ b, (Value.slice va (m + i + 1) vc).ownBlock = some b ∧ w.heap.size ≤ b by
        rcases hat with h9 | h9
        · rcases AT1.out with h7 | ⟨b2, h7, h8⟩
          · exact .inl (h9.trans h7)
          · exact .inr ⟨b2, h9.trans h7, h8⟩
        · have h7 : (Value.slice va (m + i + 1) vc).ownBlock = some (wr.heap.size + 1) := by simpa using h9
          exact .inr ⟨_, h7, by have := EX1.out.size; omega⟩)
      have e0 := PB8.out.cell 0
      have e4 := PB8.out.cell 4
      have f4 := PB8.out.frozen 4
      simp only [rpC, List.getElem?_toArray, List.getElem?_cons_succ, List.getElem?_cons_zero] at e0 e4
      clear hgr hlow hold hown' hgrow hat PB1 OW1 EX1 AT1 d0 d4
      have hx9 : Ex (fun b => b = pb) w8 (w8.setCell ⟨pb, 4, none⟩ (.slice va (m + i + 1) vc)) := (Ex.refl (fun b => b = pb) w8).setCell (q := ⟨pb, 4, none⟩) (.inl rfl) _
      have PB9 := Lib.hid (show Blk (w8.setCell ⟨pb, 4, none⟩ (.slice va (m + i + 1) vc)) pb 39 (rpC reg log long sv (.slice va (m + i + 1) vc)) from PB8.out.set_ 4 _)
      have OW9 := Lib.hid (ownsRow_ex OW8.out hx9 (fun b hb ht => by have h1 := (OW8.out.lt b hb).1; have := HB.out; omega))
      have EX9 := Lib.hid (EX8.out.trans (hx9.mono (fun b hb => .inl hb)))
      clear hx9 PB8 OW8 EX8
      go_wp2_with fail
      exact ⟨⟨i + 1, _, HI.out, by go_num, PB9.out, OW9.out, EX9.out, AT8.out⟩, by have := HI.out; simp [intOf]; omega⟩
    · have he : i = n := by omega
      have kd : decide ((i : Int) < (n : Int)) = false := decide_eq_false (by omega)
      have kdn : decide (i < n) = false := decide_eq_false hlt
      have kdm : ¬ i < n := hlt
      have HE := Lib.hid he
      clear hlt he hi hv1
      go_wp2_with fail
      go_ret
      exact ⟨rfl, v, PB1.out, by have := OW1.out; rw [HE.out] at this; exact this, EX1.out, AT1.out⟩
end Go.Proofs.YtgdfhgoenemanaaDoor.Plan
