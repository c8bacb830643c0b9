/-
  BankLock: the law's walk. No condition. By an AI agent.
-/
import Derived.Test.YtabhkplcigdafaaMayW
namespace Go.Proofs.Ytabhkplcigdafaa.Bank
set_option linter.unusedVariables false
set_option linter.unusedSimpArgs false
open Go Go.RowKit Go.Proofs.Ytabhkplcigdafaa.Base Go.Deep Go.ChangeShapes

structure Hand where
  task : Int
  free : Bool
instance : Inhabited Hand := ⟨⟨0, false⟩⟩
structure Hands (w : World) (v : Value) (n : Nat) (l : Nat → Hand) : Prop where
  form : ∃ A c, v = .slice A n c ∧ n ≤ maxLen ∧ (0 < n → ∃ b o, A = some ⟨b, o, none⟩ ∧ b < w.heap.size ∧ ∀ i : Nat, i < n →
    w.cell? ⟨b, o + i * 2, none⟩ = some (.int .u64 (l i).task) ∧ w.cell? ⟨b, o + i * 2 + 1, none⟩ = some (.bool (l i).free))
  ok : ∀ i : Nat, i < n → 0 ≤ (l i).task ∧ (l i).task ≤ 18446744073709551615
theorem hands_of_trod {H : Type} {enc : TypeId × Value → H} {W : World} {r : Reach} {b : Nat} {v : Value} {d : DataW H} {p : List MemPlace}
    (hv : Value.okWide Try.prog W r b 22 v) (h : DataW.Trod enc Try.prog W 0 (fun _ => true) true 22 v d p) : ∃ x : Nat × (Nat → Hand), Hands W v x.1 x.2 := by
  obtain ⟨n, f, hr, hf⟩ := recs_of_trod Try.underlying22 Try.underlying30 (by kernel_rfl) (by kernel_rfl) (by decide) hv h
  have hall : ∀ i, i < n → ∃ a : Hand, f i 0 = .int .u64 a.task ∧ f i 1 = .bool a.free ∧ 0 ≤ a.task ∧ a.task ≤ 18446744073709551615 := by
    intro i hi
    obtain ⟨m0, y0, h0⟩ := hf i hi 0 _ rfl
    obtain ⟨m1, y1, h1⟩ := hf i hi 1 _ rfl
    obtain ⟨n0, e0, _, g0⟩ := DataW.trod_int Try.underlying28 h0
    obtain ⟨n1, e1, _⟩ := DataW.trod_bool Try.underlying4 h1
    exact ⟨⟨n0, n1⟩, by simpa using e0, by simpa using e1, u64_bounds g0⟩
  obtain ⟨l, hl⟩ := choose_lt hall
  obtain ⟨A, c, rfl, hlen, hx⟩ := hr.form
  refine ⟨(n, l), ⟨A, c, rfl, hlen, fun hn => ?_⟩, fun i hi => (hl i hi).2.2⟩
  obtain ⟨b, o, rfl, hb, hc⟩ := hx hn
  refine ⟨b, o, rfl, hb, fun i hi => ?_⟩
  obtain ⟨l0, l1, _⟩ := hl i hi
  have s0 := hc i 0 hi (by decide)
  have s1 := hc i 1 hi (by decide)
  rw [l0] at s0
  rw [l1] at s1
  exact ⟨s0, s1⟩

theorem one_word (x : Int) : wordF [x] 0 = x ∧ errF [x] 0 = 0 := by
  have : inW [x] 0 := by unfold inW; simp
  exact ⟨by rw [wordF_in this]; rfl, errF_in this⟩
theorem one_cas (x o : Int) : casB [x] 0 o = (x == o) := by
  have : inW [x] 0 := by unfold inW; simp
  rw [casB_in this]; rfl
theorem one_set (x y : Int) : setF [x] 0 y = [y] := by
  have : inW [x] 0 := by unfold inW; simp
  rw [setF_in this]; rfl

set_option maxRecDepth 100000 in
set_option maxHeartbeats 2000000 in
theorem BankLock_walk (v : Value) (x : Nat × (Nat → Hand)) (w : World) (hx : Hands w v x.1 x.2) :
    Calls Try.prog 3 #[v] w fun e w' => e = .returned (.bool true) ∧ Below w.heap.size w w' := by
  obtain ⟨n, l⟩ := x
  simp only at hx
  obtain ⟨A, c, rfl, hl, hf⟩ := hx.form
  have HOK := Lib.hid hx.ok
  have HF := Lib.hid hf
  unfold maxLen at hl
  clear hf hx
  by_cases hn : n ≤ 200
  · go_enter Try.func3, Try.ntmps3
    go_wp2_with fail
    refine (New_in 1 (by omega) (by omega) _).mono ?_; rintro e w1 ⟨rfl, hb1, hl1, _⟩
    have O1 := Lib.hid (Own.new hb1 hl1)
    clear hb1 hl1
    generalize w.heap.size + 1 = g at *
    obtain ⟨h, hh⟩ : ∃ h, h = w.heap.size := ⟨_, rfl⟩
    rw [← hh, show zeros 1 = [0] from rfl] at O1
    clear hh
    go_wp2_with fail
    go_loopw [5, 6] (fun hd i wr => ∃ k : Nat, k ≤ n ∧ i = .int .i64 k ∧ ∃ x t, hd = .int .u64 x ∧ Own w wr g h [x] t) (fun _ i _ => n - (intOf i).toNat)
    case atStart => exact ⟨0, by omega, rfl, _, _, rfl, O1.out⟩
    case round =>
      obtain ⟨k, hk, rfl, x, t, rfl, hown⟩ := hrel
      have O3 := Lib.hid hown
      clear hown
      by_cases hlt : k < n
      · obtain ⟨b, o, rfl, hb, hc⟩ := HF.out (by omega)
        obtain ⟨c0, c1⟩ := hc k hlt
        have c0' := (O3.out.below.cell (p := ⟨b, o + k * 2, none⟩) hb).trans c0
        have c1' := (O3.out.below.cell (p := ⟨b, o + k * 2 + 1, none⟩) hb).trans c1
        have HR := Lib.hid (HOK.out k hlt)
        clear hc c0 c1
        generalize (l k).task = u at *
        generalize (l k).free = fr at *
        cases h3 : (u == 0) with
        | true =>
          go_wp2_with fail
          go_roundw
          case rel => exact ⟨k + 1, by omega, by go_num, _, _, rfl, O3.out⟩
          case measure => simp [intOf]; omega
        | false =>
          cases fr with
          | true =>
            cases h4 : (x == u) with
            | true =>
              obtain rfl : x = u := by simpa using h4
              go_wp2_with fail
              refine (CAS_any g h [x] t 0 x 0 _ O3.out.bank (by omega)).mono ?_; rintro e w4 ⟨rfl, hb4, he4⟩
              rw [one_cas, (one_word x).2, h4]
              rw [one_cas, h4, one_set] at hb4
              simp only [if_true] at hb4
              have O4 := Lib.hid (O3.out.step hb4 he4)
              clear hb4 he4
              go_wp2_with fail
              refine (Peek_any g h _ _ 0 _ O4.out.bank).mono ?_; rintro e w5 ⟨rfl, hb5⟩
              rw [(one_word 0).1]
              have O5 := Lib.hid (O4.out.go hb5)
              clear hb5
              go_wp2_with fail
              go_roundw
              case rel => exact ⟨k + 1, by omega, by go_num, _, _, rfl, O5.out⟩
              case measure => simp [intOf]; omega
            | false =>
              go_wp2_with fail
              refine (CAS_any g h [x] t 0 u 0 _ O3.out.bank (by omega)).mono ?_; rintro e w4 ⟨rfl, hb4, he4⟩
              rw [one_cas, (one_word x).2, h4]
              rw [one_cas, h4] at hb4
              simp only [Bool.false_eq_true, if_false] at hb4
              have O4 := Lib.hid (O3.out.step hb4 he4)
              clear hb4 he4
              go_wp2_with fail
              refine (Peek_any g h _ _ 0 _ O4.out.bank).mono ?_; rintro e w5 ⟨rfl, hb5⟩
              rw [(one_word x).1]
              have O5 := Lib.hid (O4.out.go hb5)
              clear hb5
              have hxx : (x != x) = false := by simp
              go_wp2_with fail
              go_roundw
              case rel => exact ⟨k + 1, by omega, by go_num, _, _, rfl, O5.out⟩
              case measure => simp [intOf]; omega
          | false =>
            cases h4 : (x == 0) with
            | true =>
              go_wp2_with fail
              refine (CAS_any g h [x] t 0 0 u _ O3.out.bank HR.out).mono ?_; rintro e w4 ⟨rfl, hb4, he4⟩
              rw [one_cas, (one_word x).2, h4]
              rw [one_cas, h4, one_set] at hb4
              simp only [if_true] at hb4
              have O4 := Lib.hid (O3.out.step hb4 he4)
              clear hb4 he4
              go_wp2_with fail
              refine (Peek_any g h _ _ 0 _ O4.out.bank).mono ?_; rintro e w5 ⟨rfl, hb5⟩
              rw [(one_word u).1]
              have O5 := Lib.hid (O4.out.go hb5)
              clear hb5
              have hxx : (u != u) = false := by simp
              go_wp2_with fail
              go_roundw
              case rel => exact ⟨k + 1, by omega, by go_num, _, _, rfl, O5.out⟩
              case measure => simp [intOf]; omega
            | false =>
              go_wp2_with fail
              refine (CAS_any g h [x] t 0 0 u _ O3.out.bank HR.out).mono ?_; rintro e w4 ⟨rfl, hb4, he4⟩
              rw [one_cas, (one_word x).2, h4]
              rw [one_cas, h4] at hb4
              simp only [Bool.false_eq_true, if_false] at hb4
              have O4 := Lib.hid (O3.out.step hb4 he4)
              clear hb4 he4
              go_wp2_with fail
              refine (Peek_any g h _ _ 0 _ O4.out.bank).mono ?_; rintro e w5 ⟨rfl, hb5⟩
              rw [(one_word x).1]
              have O5 := Lib.hid (O4.out.go hb5)
              clear hb5
              have hxx : (x != x) = false := by simp
              go_wp2_with fail
              go_roundw
              case rel => exact ⟨k + 1, by omega, by go_num, _, _, rfl, O5.out⟩
              case measure => simp [intOf]; omega
      · go_wp2_with fail
        refine (awake_any _).mono ?_; rintro e w5 ⟨rfl, hb5⟩
        go_wp2_with fail
        go_ret
        exact ⟨rfl, bl O3.out.below hb5⟩
  · go_enter Try.func3, Try.ntmps3
    go_wp2_with fail
    refine (New_in 1 (by omega) (by omega) _).mono ?_; rintro e w1 ⟨rfl, hb1, hl1, _⟩
    have HL1 := Lib.hid hl1
    clear hb1 hl1
    go_wp2_with fail
    refine (awake_any _).mono ?_; rintro e w5 ⟨rfl, hb5⟩
    go_wp2_with fail
    go_ret
    exact ⟨rfl, bl HL1.out hb5⟩
end Go.Proofs.Ytabhkplcigdafaa.Bank
