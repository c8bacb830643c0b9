/-
  The document's Gaps; two lists of states compared (law 16's same). Conditions stand at each. By an AI agent.
-/
import Derived.Test.YthhellgaafbokaaLgR
import Derived.Test.YthhellgaafbokaaLgC
namespace Go.Proofs.Ythhellgaafbokaa.Lg
set_option linter.unusedVariables false
set_option linter.unusedSimpArgs false
open Go Go.RowKit Go.Proofs.Ythhellgaafbokaa.Base Go.Proofs.Ythhellgaafbokaa.Reg
def accF (l : Nat → St) (i : Nat) : Int := (l (i - 1)).epoch - (l 0).epoch - ((i - 1 : Nat) : Int)
theorem accF_turn {n : Nat} {l : Nat → St} (h : SoundF n l) (hok : ∀ i, i < n → (l i).Ok) (hn : n ≤ maxLen) {i j : Nat} (hj : i = j + 1) (hi : i < n) :
    IntKind.u64.wrap (accF l i + IntKind.u64.wrap (IntKind.u64.wrap ((l i).epoch - (l j).epoch) - 1)) = accF l (i + 1) := by
  have h1 := (h i hi).2 (by omega)
  have g := h.gap (i := 0) (j := j) (by omega) (by omega)
  have g1 := h.gap (i := 0) (j := i) (by omega) hi
  rw [show i - 1 = j by omega] at h1
  have a := (hok i hi).epoch
  have b := (hok j (by omega)).epoch
  have c := (hok 0 (by omega)).epoch
  unfold accF
  rw [show i + 1 - 1 = i by omega, show i - 1 = j by omega]
  have hn' : n ≤ 9223372036854775807 := hn
  subst hj
  push_cast at *
  rw [Bank.u64_wrap_in (x := (l (j + 1)).epoch - (l j).epoch) (by omega), Bank.u64_wrap_in (x := (l (j + 1)).epoch - (l j).epoch - 1) (by omega), Bank.u64_wrap_in (by omega)]
  omega
theorem accF_end {n : Nat} {l : Nat → St} (h : SoundF n l) {i : Nat} (h1 : 1 ≤ i) (h2 : i ≤ n ∨ i = 1) (h3 : ¬ i < n) : accF l i = gapsF n l := by
  unfold accF
  by_cases h0 : n = 0
  · subst h0
    rw [gapsF_nil, show i = 1 by omega]
    simp
  · rw [(gapsF_ok (by omega) h).1, show i = n by omega]
set_option maxRecDepth 100000 in
set_option maxHeartbeats 4000000 in
theorem RGaps_any (v : Value) (n : Nat) (l : Nat → St) (w : World) (h : Sts w v n l) (h100 : n ≤ 100) : Calls Try.prog 13 #[v] w fun e w' => e = .returned (.int .u64 (gapsF n l)) ∧ Below w.heap.size w w' := by
  have HS := Lib.hid (fun W (hb : Below w.heap.size w W) => RSound_any v n l W (h.below hb))
  have H := Lib.hid h
  obtain ⟨A, c, rfl, hn, hg⟩ := h.form
  have HG := Lib.hid hg
  have HN := Lib.hid hn
  have H100 := Lib.hid h100
  clear h hn hg h100
  by_cases hs : SoundF n l
  · rw [decide_eq_true hs] at HS
    have SF := Lib.hid hs
    clear hs
    go_enter Try.func13, Try.ntmps13
    go_wp2_with fail
    go_loopw [3, 4] (fun s3 s4 wr => ∃ i : Nat, 1 ≤ i ∧ (i ≤ n ∨ i = 1) ∧ s4 = .int .i64 i ∧ s3 = .int .u64 (accF l i) ∧ Below w.heap.size w wr) (fun s3 s4 _ => n - (intOf s4).toNat)
    case atStart => exact ⟨1, by omega, .inr rfl, rfl, by simp [accF], Below.refl _ _⟩
    case round =>
      obtain ⟨i, hi1, hi, rfl, rfl, hl⟩ := hrel
      have L0 := Lib.hid hl
      clear hl
      by_cases hlt : i < n
      · have kd : decide ((i : Int) < (n : Int)) = true := decide_eq_true (by omega)
        obtain ⟨j, hj⟩ : ∃ j, i = j + 1 := ⟨i - 1, by omega⟩
        have hw : wrap64 ((i : Int) - 1) = (j : Int) := by have := HN.out; unfold maxLen at this; unfold wrap64; omega
        have ki0 : (0 : Int) ≤ (i : Int) := by omega
        have ki1 : (i : Int) < (n : Int) := by omega
        have kj0 : (0 : Int) ≤ (j : Int) := by omega
        have kj1 : (j : Int) < (n : Int) := by omega
        obtain ⟨b, o, rfl, hb, hc⟩ := HG.out (by omega)
        have HB := Lib.hid hb
        have C1 := Lib.hid (hc i hlt).2.2.2.2
        have C2 := Lib.hid (hc j (by omega)).2.2.2.2
        have HT := Lib.hid (accF_turn SF.out H.out.ok HN.out hj hlt)
        have HN2 := Lib.hid (turn_num i n hlt HN.out)
        have HI := Lib.hid hlt
        have HI1 := Lib.hid hi1
        clear hb hc hj hlt hi hi1
        go_wp2_with fail
        refine (HS.out wr L0.out).mono ?_; rintro e w1 ⟨rfl, hb1⟩
        have L1 := Lib.hid (bl L0.out hb1)
        clear hb1
        have d1 := (L1.out.cell (p := ⟨b, o + i * 5 + 4, none⟩) HB.out).trans C1.out
        have d2 := (L1.out.cell (p := ⟨b, o + j * 5 + 4, none⟩) HB.out).trans C2.out
        go_wp2_with fail
        go_quiet (fail)
        go_wp2_with fail
        go_roundw
        case rel => exact ⟨i + 1, by omega, .inl HI.out, HN2.out.1, by rw [← HT.out], below_drewN L1.out _⟩
        case measure => exact HN2.out.2
      · have kd : decide ((i : Int) < (n : Int)) = false := decide_eq_false (by omega)
        have HE := Lib.hid (accF_end SF.out hi1 hi hlt)
        have kd2 : decide (i < n) = false := decide_eq_false hlt
        clear hi1 hi
        go_wp2_with fail
        go_ret
        exact ⟨by rw [← HE.out]; rfl, L0.out⟩
  · rw [decide_eq_false hs] at HS
    have HE := Lib.hid (gapsF_bad hs)
    clear hs
    go_enter Try.func13, Try.ntmps13
    go_wp2_with fail
    go_loopw [3, 4] (fun s3 s4 wr => s4 = .int .i64 1 ∧ s3 = .int .u64 0 ∧ Below w.heap.size w wr) (fun s3 s4 _ => 0)
    case atStart => exact ⟨rfl, rfl, Below.refl _ _⟩
    case round =>
      obtain ⟨rfl, rfl, hl⟩ := hrel
      have L0 := Lib.hid hl
      clear hl
      by_cases hlt : 1 < n
      · have kd : decide ((1 : Int) < (n : Int)) = true := decide_eq_true (by omega)
        clear hlt
        go_wp2_with fail
        refine (HS.out wr L0.out).mono ?_; rintro e w1 ⟨rfl, hb1⟩
        have L1 := Lib.hid (bl L0.out hb1)
        clear hb1
        go_wp2_with fail
        go_ret
        exact ⟨by rw [HE.out]; rfl, L1.out⟩
      · have kd : decide ((1 : Int) < (n : Int)) = false := decide_eq_false (by omega)
        clear hlt
        go_wp2_with fail
        go_ret
        exact ⟨by rw [HE.out]; rfl, L0.out⟩

deriving instance DecidableEq for Reg.St
/-- two lists are one -/
def SameF (n m : Nat) (a b : Nat → St) : Prop := n = m ∧ ∀ i, i < n → a i = b i
instance (n m : Nat) (a b : Nat → St) : Decidable (SameF n m a b) := inferInstanceAs (Decidable (_ ∧ _))
set_option maxRecDepth 100000 in
theorem run_neq_st (s p : St) : ∀ w, (Go.binOp .neq 28 s.val p.val).run Try.prog w = .ok (.bool (!((s.mode == p.mode) && ((s.source == p.source) && ((s.hold == p.hold) && ((s.flags == p.flags) && (s.epoch == p.epoch))))))) w := by
  intro w
  unfold St.val
  cases h0 : (s.mode == p.mode) <;> cases h1 : (s.source == p.source) <;> cases h2 : (s.hold == p.hold) <;> cases h3 : (s.flags == p.flags) <;> cases h4 : (s.epoch == p.epoch) <;> simp [go_sem, h0, h1, h2, h3, h4]
theorem st_neq (s p : St) : (!((s.mode == p.mode) && ((s.source == p.source) && ((s.hold == p.hold) && ((s.flags == p.flags) && (s.epoch == p.epoch)))))) = decide (s ≠ p) := by
  obtain ⟨a, b, c, d, e⟩ := s
  obtain ⟨a2, b2, c2, d2, e2⟩ := p
  by_cases h : a = a2 ∧ b = b2 ∧ c = c2 ∧ d = d2 ∧ e = e2
  · obtain ⟨rfl, rfl, rfl, rfl, rfl⟩ := h
    simp
  · have h2 : ¬ (St.mk a b c d e = St.mk a2 b2 c2 d2 e2) := by simpa using h
    rw [decide_eq_true h2]
    simp only [Bool.not_eq_true', Bool.and_eq_false_iff, beq_eq_false_iff_ne, ne_eq]
    simp only [not_and] at h
    by_cases q1 : a = a2
    · by_cases q2 : b = b2
      · by_cases q3 : c = c2
        · by_cases q4 : d = d2
          · exact .inr (.inr (.inr (.inr (h q1 q2 q3 q4))))
          · exact .inr (.inr (.inr (.inl q4)))
        · exact .inr (.inr (.inl q3))
      · exact .inr (.inl q2)
    · exact .inl q1
set_option maxRecDepth 100000 in
set_option maxHeartbeats 4000000 in
theorem same_any (v u : Value) (n m : Nat) (a b : Nat → St) (w : World) (h : Sts w v n a) (k : Sts w u m b) : Calls Try.prog 29 #[v, u] w fun e w' => e = .returned (.bool (decide (SameF n m a b))) ∧ Below w.heap.size w w' := by
  obtain ⟨A, c, rfl, hn, hg⟩ := h.form
  obtain ⟨B, d, rfl, hm, hk⟩ := k.form
  have HN := Lib.hid hn
  have HG := Lib.hid hg
  have HK := Lib.hid hk
  clear h k hg hk hm hn
  by_cases hnm : n = m
  · subst hnm
    have kn : ((n : Int) != (n : Int)) = false := by simp
    go_enter Try.func29, Try.ntmps29
    go_wp2_with fail
    clear kn
    go_loopw [5] (fun s5 wr => ∃ i : Nat, i ≤ n ∧ s5 = .int .i64 i ∧ (∀ k, k < i → a k = b k) ∧ Below w.heap.size w wr) (fun s5 _ => n - (intOf s5).toNat)
    case atStart => exact ⟨0, by omega, rfl, fun _ h => absurd h (by omega), Below.refl _ _⟩
    case round =>
      obtain ⟨i, hi, rfl, hs, hl⟩ := hrel
      have L0 := Lib.hid hl
      have HS := Lib.hid hs
      clear hl hs
      by_cases hlt : i < n
      · have kd : decide ((i : Int) < (n : Int)) = true := decide_eq_true (by omega)
        have ki0 : (0 : Int) ≤ (i : Int) := by omega
        have ki1 : (i : Int) < (n : Int) := by omega
        have HN2 := Lib.hid (turn_num i n hlt HN.out)
        have HI := Lib.hid hlt
        obtain ⟨ab, ao, rfl, hab, hac⟩ := HG.out (by omega)
        obtain ⟨bb, bo, rfl, hbb, hbc⟩ := HK.out (by omega)
        obtain ⟨x0, x1, x2, x3, x4⟩ := hac i hlt
        obtain ⟨y0, y1, y2, y3, y4⟩ := hbc i hlt
        have c0 := (L0.out.cell (p := ⟨ab, ao + i * 5, none⟩) hab).trans x0
        have c1 := (L0.out.cell (p := ⟨ab, ao + i * 5 + 1, none⟩) hab).trans x1
        have c2 := (L0.out.cell (p := ⟨ab, ao + i * 5 + 2, none⟩) hab).trans x2
        have c3 := (L0.out.cell (p := ⟨ab, ao + i * 5 + 3, none⟩) hab).trans x3
        have c4 := (L0.out.cell (p := ⟨ab, ao + i * 5 + 4, none⟩) hab).trans x4
        have d0 := (L0.out.cell (p := ⟨bb, bo + i * 5, none⟩) hbb).trans y0
        have d1 := (L0.out.cell (p := ⟨bb, bo + i * 5 + 1, none⟩) hbb).trans y1
        have d2 := (L0.out.cell (p := ⟨bb, bo + i * 5 + 2, none⟩) hbb).trans y2
        have d3 := (L0.out.cell (p := ⟨bb, bo + i * 5 + 3, none⟩) hbb).trans y3
        have d4 := (L0.out.cell (p := ⟨bb, bo + i * 5 + 4, none⟩) hbb).trans y4
        clear x0 x1 x2 x3 x4 y0 y1 y2 y3 y4 hab hbb hac hbc hi hlt
        obtain ⟨s, hs⟩ : ∃ s, a i = s := ⟨_, rfl⟩
        obtain ⟨p, hp⟩ : ∃ p, b i = p := ⟨_, rfl⟩
        have HA := Lib.hid hs
        have HP := Lib.hid hp
        simp only [hs] at c0 c1 c2 c3 c4
        simp only [hp] at d0 d1 d2 d3 d4
        clear hs hp
        have eqs := run_neq_st s p
        rw [st_neq] at eqs
        unfold St.val at eqs
        by_cases hd : s = p
        · rw [decide_eq_false (show ¬ (s ≠ p) from fun h => h hd)] at eqs
          have HD := Lib.hid hd
          clear hd
          go_wp2_with fail
          go_quiet (fail)
          go_wp2_with fail
          go_roundw
          case rel => exact ⟨i + 1, HI.out, HN2.out.1, fun k hk => by
            by_cases e : k = i
            · subst e; rw [HA.out, HP.out]; exact HD.out
            · exact HS.out k (by omega), below_drewN L0.out _⟩
          case measure => exact HN2.out.2
        · rw [decide_eq_true (show s ≠ p from hd)] at eqs
          have HD := Lib.hid hd
          clear hd
          go_wp2_with fail
          go_quiet (fail)
          go_wp2_with fail
          go_ret
          exact ⟨by rw [decide_eq_false (show ¬ SameF n n a b from fun h => HD.out (by rw [← HA.out, ← HP.out]; exact h.2 i HI.out))]; rfl, below_drewN L0.out _⟩
      · obtain rfl : i = n := by omega
        have kd : decide ((i : Int) < (i : Int)) = false := decide_eq_false (by omega)
        go_wp2_with fail
        go_ret
        exact ⟨by rw [decide_eq_true (show SameF i i a b from ⟨rfl, HS.out⟩)]; rfl, L0.out⟩
  · have kn : ((n : Int) != (m : Int)) = true := bne_iff_ne.2 (by omega)
    have HD := Lib.hid hnm
    clear hnm
    go_enter Try.func29, Try.ntmps29
    go_wp2_with fail
    go_ret
    exact ⟨by rw [decide_eq_false (show ¬ SameF n m a b from fun h => HD.out h.1)]; rfl, Below.refl _ _⟩
/-- a row of one's own, as a slice of states -/
theorem sts_of_own {w : World} {base : Nat} {v : Value} {l : List St} (h : w.ownsRow base 28 5 v l.length (flatS l)) (hl : l.length ≤ maxLen) (hok : ∀ s ∈ l, s.Ok) : Sts w v l.length (fun i => l.getD i St.zero) := by
  have hget : ∀ i : Nat, i < l.length → l[i]? = some (l.getD i St.zero) := fun i hi => by simp [List.getD_eq_getElem?_getD, List.getElem?_eq_getElem hi]
  refine ⟨?_, fun i hi => hok _ (by have := List.getElem_mem hi; rw [List.getD_eq_getElem?_getD, List.getElem?_eq_getElem hi]; exact this)⟩
  rcases h.2 with ⟨rfl, h0⟩ | ⟨g, cap, cur, rfl, hb, hg, hn, hcap, hcur, ht⟩
  · exact ⟨none, 0, by rw [h0], hl, fun hn => absurd hn (by omega)⟩
  · refine ⟨some ⟨g, 0, none⟩, cap, rfl, hl, fun _ => ⟨g, 0, rfl, (Array.getElem?_eq_some_iff.1 hg).1, fun i hi => ?_⟩⟩
    have hc : ∀ j u, (flatS l)[j]? = some u → w.cell? ⟨g, 0 + j, none⟩ = some u := by
      intro j u hu
      have hj := (List.getElem?_eq_some_iff.1 hu).1
      rw [h.1] at hj
      have h1 : (cur.toList.take (l.length * 5))[j]? = (flatS l)[j]? := by rw [ht]
      rw [List.getElem?_take_of_lt hj] at h1
      simp only [World.cell?, hg, Nat.zero_add]
      simp only [Option.isSome_none, Bool.false_eq_true, if_false]
      rw [← Array.getElem?_toList, h1, hu]
    have hf := flatS_get l i _ (hget i hi)
    have k0 := hc (i * 5 + 0) _ ((hf 0 (by omega)).trans rfl)
    have k1 := hc (i * 5 + 1) _ ((hf 1 (by omega)).trans rfl)
    have k2 := hc (i * 5 + 2) _ ((hf 2 (by omega)).trans rfl)
    have k3 := hc (i * 5 + 3) _ ((hf 3 (by omega)).trans rfl)
    have k4 := hc (i * 5 + 4) _ ((hf 4 (by omega)).trans rfl)
    exact ⟨by simpa using k0, by rw [Nat.add_assoc]; exact k1, by rw [Nat.add_assoc]; exact k2, by rw [Nat.add_assoc]; exact k3, by rw [Nat.add_assoc]; exact k4⟩
/-- a literal of states -/
theorem sts_of_blk {w : World} {g : Nat} {c : Nat} {l : List St} (h : Blk w g 28 (flatS l).toArray) (hc : c = l.length) (hl : l.length ≤ maxLen) (hok : ∀ s ∈ l, s.Ok) : Sts w (.slice (some ⟨g, 0, none⟩) l.length c) l.length (fun i => l.getD i St.zero) := by
  refine sts_of_own (base := 0) ⟨flatS_len l, .inr ⟨g, c, (flatS l).toArray, rfl, Nat.zero_le _, h, by omega, by omega, by simp [flatS_len, hc], ?_⟩⟩ hl hok
  rw [List.take_of_length_le (by simp [flatS_len])]
end Go.Proofs.Ythhellgaafbokaa.Lg
