/-
  The law's acts in memory, and which may be played. Conditions stand at each. By an AI agent.
-/
import Derived.Test.YthfkgbgbhjnpdaaLazyP
namespace Go.Proofs.Ythfkgbgbhjnpdaa.Queue
set_option linter.unusedVariables false
set_option linter.unusedSimpArgs false
open Go Go.RowKit Go.Proofs.Ythfkgbgbhjnpdaa.Base Go.Deep Go.ChangeShapes

structure Act where
  kind : Int
  by_ : Int
instance : Inhabited Act := ⟨⟨0, 0⟩⟩
structure Act.Ok (a : Act) : Prop where
  kind : -9223372036854775808 ≤ a.kind ∧ a.kind ≤ 9223372036854775807
  by_ : -9223372036854775808 ≤ a.by_ ∧ a.by_ ≤ 9223372036854775807
structure Acts (w : World) (v : Value) (n : Nat) (l : Nat → Act) : Prop where
  form : ∃ A c, v = .slice A n c ∧ n ≤ maxLen ∧ (0 < n → ∃ b o, A = some ⟨b, o, none⟩ ∧ b < w.heap.size ∧ ∀ i : Nat, i < n →
    w.cell? ⟨b, o + i * 2, none⟩ = some (.int .i64 (l i).kind) ∧ w.cell? ⟨b, o + i * 2 + 1, none⟩ = some (.int .i64 (l i).by_))
  ok : ∀ i : Nat, i < n → (l i).Ok

theorem acts_of_trod {H : Type} {enc : TypeId × Value → H} {W : World} {r : Reach} {b : Nat} {v : Value} {d : DataW H} {p : List MemPlace}
    (hv : Value.okWide Try.prog W r b 23 v) (h : DataW.Trod enc Try.prog W 0 (fun _ => true) true 23 v d p) : ∃ x : Nat × (Nat → Act), Acts W v x.1 x.2 := by
  obtain ⟨n, f, hr, hf⟩ := recs_of_trod Try.underlying23 Try.underlying36 (by kernel_rfl) (by kernel_rfl) (by decide) hv h
  have hall : ∀ i, i < n → ∃ a : Act, f i 0 = .int .i64 a.kind ∧ f i 1 = .int .i64 a.by_ ∧ a.Ok := by
    intro i hi
    obtain ⟨m0, y0, h0⟩ := hf i hi 0 _ rfl
    obtain ⟨m1, y1, h1⟩ := hf i hi 1 _ rfl
    obtain ⟨n0, e0, _, g0⟩ := DataW.trod_int Try.underlying3 h0
    obtain ⟨n1, e1, _, g1⟩ := DataW.trod_int Try.underlying3 h1
    exact ⟨⟨n0, n1⟩, by simpa using e0, by simpa using e1, i64_bounds g0, i64_bounds g1⟩
  obtain ⟨l, hl⟩ := choose_lt hall
  obtain ⟨A, c, rfl, hlen, hx⟩ := hr.form
  refine ⟨(n, l), ⟨A, c, rfl, hlen, fun hn => ?_⟩, fun i hi => (hl i hi).2.2⟩
  obtain ⟨b, o, rfl, hb, hc⟩ := hx hn
  refine ⟨b, o, rfl, hb, fun i hi => ?_⟩
  obtain ⟨l0, l1, _⟩ := hl i hi
  have s0 := hc i 0 hi (by decide)
  have s1 := hc i 1 hi (by decide)
  rw [l0] at s0
  rw [l1] at s1
  exact ⟨s0, s1⟩

/-- may acts be played? -/
def Whole (g : Int) (n : Nat) (l : Nat → Act) : Prop := g ≤ 9223372036854767806 ∧ n ≤ 200 ∧ ∀ i, i < n → 0 ≤ (l i).by_ ∧ (l i).by_ ≤ 40
def WholeRes (g : Int) (n : Nat) (l : Nat → Act) (e : Ending) : Prop := ∃ b : Bool, e = .returned (.bool b) ∧ (b = true ↔ Whole g n l)
theorem WholeRes.yes {g : Int} {n : Nat} {l : Nat → Act} (h : Whole g n l) : WholeRes g n l (.returned (.bool true)) := ⟨true, rfl, by simp; exact h⟩
theorem WholeRes.no {g : Int} {n : Nat} {l : Nat → Act} (h : ¬ Whole g n l) : WholeRes g n l (.returned (.bool false)) := ⟨false, rfl, by simp; exact h⟩

set_option maxRecDepth 100000 in
set_option maxHeartbeats 4000000 in
theorem whole_any (g : Int) (hg : 0 ≤ g ∧ g ≤ 18446744073709551615) (v : Value) (n : Nat) (l : Nat → Act) (w : World) (hx : Acts w v n l) :
    Calls Try.prog 9 #[.int .u64 g, v] w fun e w' => WholeRes g n l e ∧ w = w' := by
  obtain ⟨A, c, rfl, hl, hf⟩ := hx.form
  have HF := Lib.hid hf
  have HOK := Lib.hid hx.ok
  unfold maxLen at hl
  clear hf hx
  by_cases h1 : g ≤ 9223372036854767806
  · have k1 : decide (9223372036854767806 < g) = false := decide_eq_false (by omega)
    by_cases h2 : n ≤ 200
    · have k2 : decide (200 < (n : Int)) = false := decide_eq_false (by omega)
      have k3 : decide (200 < n) = false := decide_eq_false (by omega)
      have HW := Lib.hid (show ∀ h : (∀ i, i < n → 0 ≤ (l i).by_ ∧ (l i).by_ ≤ 40), Whole g n l from fun h => ⟨h1, h2, h⟩)
      have HNW := Lib.hid (show ∀ k, k < n → ¬ (0 ≤ (l k).by_ ∧ (l k).by_ ≤ 40) → ¬ Whole g n l from fun k hk hn h => hn (h.2.2 k hk))
      go_enter Try.func9, Try.ntmps9
      go_wp2_with fail
      go_loopw [5] (fun i wr => ∃ k : Nat, k ≤ n ∧ i = .int .i64 k ∧ (∀ i, i < k → 0 ≤ (l i).by_ ∧ (l i).by_ ≤ 40) ∧ wr = w) (fun i _ => n - (intOf i).toNat)
      case atStart => exact ⟨0, by omega, rfl, fun i hi => absurd hi (by omega), by first | rfl | trivial⟩
      case round =>
        obtain ⟨k, hk, rfl, hall, rfl⟩ := hrel
        have HALL := Lib.hid hall
        clear hall
        by_cases hlt : k < n
        · obtain ⟨b, o, rfl, hb, hc⟩ := HF.out (by omega)
          have hkk := (HOK.out k hlt).by_
          have c1 := (hc k hlt).2
          clear hc
          have hi0 : (0 : Int) ≤ (k : Int) := by omega
          have hi1 : (k : Int) < (n : Int) := by omega
          have hcase : (decide ((l k).by_ < 0) = true ∧ ¬ (0 ≤ (l k).by_ ∧ (l k).by_ ≤ 40)) ∨ (decide ((l k).by_ < 0) = false ∧ decide (40 < (l k).by_) = true ∧ ¬ (0 ≤ (l k).by_ ∧ (l k).by_ ≤ 40)) ∨
              (decide ((l k).by_ < 0) = false ∧ decide (40 < (l k).by_) = false ∧ (0 ≤ (l k).by_ ∧ (l k).by_ ≤ 40)) := by
            by_cases q1 : (l k).by_ < 0
            · exact .inl ⟨decide_eq_true q1, by omega⟩
            · by_cases q2 : 40 < (l k).by_
              · exact .inr (.inl ⟨decide_eq_false q1, decide_eq_true q2, by omega⟩)
              · exact .inr (.inr ⟨decide_eq_false q1, decide_eq_false q2, by omega⟩)
          rcases hcase with ⟨q1, qn⟩ | ⟨q1, q2, qn⟩ | ⟨q1, q2, qn⟩
          · have QN := Lib.hid qn
            clear qn
            go_wp2_with fail
            go_ret
            exact ⟨.no (HNW.out k hlt QN.out), rfl⟩
          · have QN := Lib.hid qn
            clear qn
            go_wp2_with fail
            go_ret
            exact ⟨.no (HNW.out k hlt QN.out), rfl⟩
          · have QN := Lib.hid qn
            clear qn
            go_wp2_with fail
            go_roundw
            case rel => exact ⟨k + 1, by omega, by go_num, fun i hi => by
              by_cases e : i = k
              · rw [e]; exact QN.out
              · exact HALL.out i (by omega), by first | rfl | trivial⟩
            case measure => simp [intOf]; omega
        · obtain rfl : k = n := by omega
          go_wp2_with fail
          go_ret
          exact ⟨.yes (HW.out HALL.out), rfl⟩
    · have k2 : decide (200 < (n : Int)) = true := decide_eq_true (by omega)
      have k3 : decide (200 < n) = true := decide_eq_true (by omega)
      have HNW := Lib.hid (show ¬ Whole g n l from fun h => h2 h.2.1)
      go_enter Try.func9, Try.ntmps9
      go_wp2_with fail
      go_ret
      exact ⟨.no HNW.out, rfl⟩
  · have k1 : decide (9223372036854767806 < g) = true := decide_eq_true (by omega)
    have HNW := Lib.hid (show ¬ Whole g n l from fun h => h1 h.1)
    go_enter Try.func9, Try.ntmps9
    go_wp2_with fail
    go_ret
    exact ⟨.no HNW.out, rfl⟩

/-! ### what QueueSums keeps -/
structure SumSt (begin room : Int) (c : Cur) (G last : Int) : Prop where
  ok : c.Ok
  right : c.Right
  cap : c.cap = room
  sum : c.next = begin + 1 + c.got + c.lost
  le : c.next ≤ G + 1
  lst : last < c.next
  lst0 : 0 ≤ last
  begin0 : 0 ≤ begin
  top : G < 9223372036854775807
section
variable {begin room : Int} {c : Cur} {G last : Int}
theorem SumSt.is (h : SumSt begin room c G last) : Is G := by have := h.top; unfold Is; omega
theorem SumSt.g0 (h : SumSt begin room c G last) : 0 ≤ G := by have := h.le; have := h.sum; have := h.ok.got.1; have := h.ok.lost.1; have := h.begin0; omega
theorem SumSt.seen (h : SumSt begin room c G last) : SumSt begin room (seen c G) G last ∧ waits (seen c G) G = G + 1 - (seen c G).next ∧ (seen c G).got = c.got ∧ ((seen c G).lost ≠ c.lost → waits (seen c G) G = room) := by
  have hok := seen_ok h.right h.ok h.g0 h.is
  have hrt := seen_right h.right h.is
  have hg0 := h.g0
  obtain ⟨ok, ⟨⟨r1, r2⟩, r3⟩, cp, sm, le, lt, l0, b0, tp⟩ := h
  obtain ⟨⟨a0, a1⟩, _, ⟨g0, g1⟩, ⟨e0, e1⟩⟩ := ok
  by_cases h1 : G < c.next
  · have e : Queue.seen c G = c := by unfold Queue.seen; rw [if_pos h1]
    rw [e] at hok hrt ⊢
    exact ⟨⟨hok, hrt, cp, sm, le, lt, l0, b0, tp⟩, by unfold waits; rw [if_pos h1]; omega, rfl, fun h => absurd rfl h⟩
  · by_cases h2 : G - c.next + 1 > c.cap
    · have e : Queue.seen c G = ⟨G - c.cap + 1, c.cap, c.got, c.lost + (G - c.next + 1 - c.cap)⟩ := by
        unfold Queue.seen
        rw [if_neg h1, if_pos h2]
        congr 1
        simp only [IntKind.wrap_u64]
        omega
      rw [e] at hok hrt ⊢
      refine ⟨⟨hok, hrt, cp, ?_, ?_, ?_, l0, b0, tp⟩, ?_, rfl, fun _ => ?_⟩
      · simp only; omega
      · simp only; omega
      · simp only; omega
      · unfold waits; simp only; rw [if_neg (by omega)]; omega
      · unfold waits; simp only; rw [if_neg (by omega)]; omega
    · have e : Queue.seen c G = c := by unfold Queue.seen; rw [if_neg h1, if_neg h2]
      rw [e] at hok hrt ⊢
      exact ⟨⟨hok, hrt, cp, sm, le, lt, l0, b0, tp⟩, by unfold waits; rw [if_neg h1]; omega, rfl, fun h => absurd rfl h⟩
theorem SumSt.more (h : SumSt begin room c G last) {d : Int} (hd : 0 ≤ d) (ht : G + d < 9223372036854775807) : SumSt begin room c (G + d) last :=
  ⟨h.ok, h.right, h.cap, h.sum, by have := h.le; omega, h.lst, h.lst0, h.begin0, ht⟩
/-- behind a take: the queue's first one went -/
theorem SumSt.take (h : SumSt begin room c G last) (hn : ¬ G < (Queue.seen c G).next) : SumSt begin room (takeC c G) G (Queue.seen c G).next ∧ takeX c G = (Queue.seen c G).next ∧ takeE c G = 0 ∧ waits (takeC c G) G = waits (Queue.seen c G) G - 1 ∧ Queue.seen (takeC c G) G = takeC c G := by
  have e0 := mayE_yes h.right h.is
  have t1 : takeE c G = 0 := by unfold takeE; rw [if_pos e0, if_neg hn]
  have t2 : takeX c G = (Queue.seen c G).next := by unfold takeX; rw [if_pos t1]
  have t3 : takeC c G = ⟨(Queue.seen c G).next + 1, (Queue.seen c G).cap, IntKind.u64.wrap ((Queue.seen c G).got + 1), (Queue.seen c G).lost⟩ := by unfold takeC; rw [if_pos t1]
  have hwt := seen_waits (g := G) h.right h.ok h.g0
  obtain ⟨hS, hwv, hgt, _⟩ := h.seen
  have hcap := h.cap
  generalize Queue.seen c G = D at *
  obtain ⟨ok, ⟨⟨r1, r2⟩, r3⟩, cp, sm, le, lt, l0, b0, tp⟩ := hS
  obtain ⟨⟨a0, a1⟩, okc, ⟨g0, g1⟩, ⟨q0, q1⟩⟩ := ok
  have ew : IntKind.u64.wrap (D.got + 1) = D.got + 1 := by simp only [IntKind.wrap_u64]; omega
  rw [ew] at t3
  rw [t3]
  have hst : SumSt begin room ⟨D.next + 1, D.cap, D.got + 1, D.lost⟩ G D.next :=
    ⟨⟨by simp only; omega, okc, by simp only; omega, ⟨q0, q1⟩⟩, ⟨⟨r1, r2⟩, by simp only; omega⟩, cp, by simp only; omega, by simp only; omega, by simp only; omega, a0, b0, tp⟩
  refine ⟨hst, t2, t1, ?_, ?_⟩
  · unfold waits at *
    simp only at *
    rw [if_neg hn] at hwt ⊢
    split <;> omega
  · unfold Queue.seen
    simp only
    unfold waits at hwt
    rw [if_neg hn] at hwt
    split
    · rfl
    · rw [if_neg (by omega)]
end

theorem tail_facts {begin room : Int} {c : Cur} {G last : Int} (h : SumSt begin room c G last) : ∃ (D : Cur) (nn : Int), D = Queue.seen c G ∧ nn = G + 1 - D.next ∧ SumSt begin room D G last ∧ D.got = c.got ∧ (D.lost ≠ c.lost → nn = room) ∧ 0 ≤ nn ∧ nn ≤ room ∧
    (∀ w, Calls Try.prog 15 #[c.val, .int .u64 G] w fun e w' => e = .returned (.tuple #[D.val, .int .i64 0]) ∧ Below w.heap.size w w') ∧
    (∀ w, Calls Try.prog 16 #[c.val, .int .u64 G] w fun e w' => e = .returned (.int .i64 nn) ∧ Below w.heap.size w w') ∧
    (∀ w, Calls Try.prog 16 #[D.val, .int .u64 G] w fun e w' => e = .returned (.int .i64 nn) ∧ Below w.heap.size w w') := by
  obtain ⟨hS, hw, hg, hl⟩ := h.seen
  have hi := h.is
  have e0 := mayE_yes h.right hi
  have hb : 0 ≤ G ∧ G ≤ 18446744073709551615 := by have := h.g0; have := h.top; omega
  have hwt := seen_waits (g := G) h.right h.ok h.g0
  refine ⟨_, _, rfl, rfl, hS, hg, fun hne => by rw [← hw]; exact hl hne, by rw [← hw]; exact hwt.1, by rw [← hw, ← h.cap]; exact hwt.2, fun w => ?_, fun w => ?_, fun w => ?_⟩
  · have := See_any c G h.ok hb w
    rwa [seeC_yes h.right hi, e0] at this
  · have := Count_any c G h.ok hb w
    rwa [show countC c G = G + 1 - (Queue.seen c G).next by unfold countC; rw [if_pos e0]; exact hw] at this
  · have := Count_any (Queue.seen c G) G hS.ok hb w
    rwa [count_seen h.right h.g0 (Int.le_refl _) hi, show countC c G = G + 1 - (Queue.seen c G).next by unfold countC; rw [if_pos e0]; exact hw] at this
theorem take_facts {begin room : Int} {c : Cur} {G last : Int} (h : SumSt begin room c G last) {D : Cur} {nn : Int} (hD : D = Queue.seen c G) (hn : nn = G + 1 - D.next) (h0 : 0 < nn) : ∃ T : Cur, SumSt begin room T G D.next ∧
    (∀ w, Calls Try.prog 13 #[c.val, .int .u64 G] w fun e w' => e = .returned (.tuple #[.int .u64 D.next, T.val, .int .i64 0]) ∧ Below w.heap.size w w') ∧
    (∀ w, Calls Try.prog 16 #[T.val, .int .u64 G] w fun e w' => e = .returned (.int .i64 (nn - 1)) ∧ Below w.heap.size w w') := by
  subst hD
  have hb : 0 ≤ G ∧ G ≤ 18446744073709551615 := by have := h.g0; have := h.top; omega
  have hlt : ¬ G < (Queue.seen c G).next := by omega
  obtain ⟨hS, hw, _, _⟩ := h.seen
  obtain ⟨hT, t2, t1, hw2, hs2⟩ := h.take hlt
  refine ⟨_, hT, fun w => ?_, fun w => ?_⟩
  · have := Take_any c G h.ok hb w
    rwa [t2, t1] at this
  · have := Count_any (takeC c G) G hT.ok hb w
    rwa [show countC (takeC c G) G = nn - 1 by unfold countC; rw [if_pos (mayE_yes hT.right hT.is), hs2, hw2, hw, hn]] at this
theorem none_facts {begin room : Int} {c : Cur} {G last : Int} (h : SumSt begin room c G last) {D : Cur} (hD : D = Queue.seen c G) (hn : 0 = G + 1 - D.next) (w : World) :
    Calls Try.prog 13 #[c.val, .int .u64 G] w fun e w' => e = .returned (.tuple #[.int .u64 0, .agg #[.int .u64 0, .int .i64 0, .int .u64 0, .int .u64 0], .int .i64 14]) ∧ Below w.heap.size w w' := by
  subst hD
  have hb : 0 ≤ G ∧ G ≤ 18446744073709551615 := by have := h.g0; have := h.top; omega
  have e0 := mayE_yes h.right h.is
  have t1 : takeE c G = 14 := by unfold takeE; rw [if_pos e0, if_pos (by omega)]
  have t2 : takeX c G = 0 := by unfold takeX; rw [t1]; rfl
  have t3 : takeC c G = Cur.zero := by unfold takeC; rw [t1]; rfl
  have := Take_any c G h.ok hb w
  rwa [t1, t2, t3] at this
end Go.Proofs.Ythfkgbgbhjnpdaa.Queue
