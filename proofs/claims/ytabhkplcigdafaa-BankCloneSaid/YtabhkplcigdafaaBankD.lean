/-
  The bank's acts: a slice of Act that came in; what do does. Conditions stand at each. By an AI agent.
-/
import Derived.Test.YtabhkplcigdafaaMayW
namespace Go.Proofs.Ytabhkplcigdafaa.Bank
set_option linter.unusedVariables false
set_option linter.unusedSimpArgs false
open Go Go.RowKit Go.Proofs.Ytabhkplcigdafaa.Base Go.Deep Go.ChangeShapes

structure Act where
  kind : Int
  at_ : Int
  x : Int
  y : Int
instance : Inhabited Act := ⟨⟨0, 0, 0, 0⟩⟩
structure Act.Ok (a : Act) : Prop where
  kind : -9223372036854775808 ≤ a.kind ∧ a.kind ≤ 9223372036854775807
  at_ : -9223372036854775808 ≤ a.at_ ∧ a.at_ ≤ 9223372036854775807
  x : 0 ≤ a.x ∧ a.x ≤ 18446744073709551615
  y : 0 ≤ a.y ∧ a.y ≤ 18446744073709551615
/-- a slice of acts, by index -/
structure Acts (w : World) (v : Value) (n : Nat) (l : Nat → Act) : Prop where
  form : ∃ A c, v = .slice A n c ∧ n ≤ maxLen ∧ (0 < n → ∃ b o, A = some ⟨b, o, none⟩ ∧ b < w.heap.size ∧ ∀ i : Nat, i < n →
    w.cell? ⟨b, o + i * 4, none⟩ = some (.int .i64 (l i).kind) ∧ w.cell? ⟨b, o + i * 4 + 1, none⟩ = some (.int .i64 (l i).at_) ∧ w.cell? ⟨b, o + i * 4 + 2, none⟩ = some (.int .u64 (l i).x) ∧ w.cell? ⟨b, o + i * 4 + 3, none⟩ = some (.int .u64 (l i).y))
  ok : ∀ i : Nat, i < n → (l i).Ok

theorem acts_of_trod {H : Type} {enc : TypeId × Value → H} {W : World} {r : Reach} {b : Nat} {v : Value} {d : DataW H} {p : List MemPlace}
    (hv : Value.okWide Try.prog W r b 44 v) (h : DataW.Trod enc Try.prog W 0 (fun _ => true) true 44 v d p) : ∃ x : Nat × (Nat → Act), Acts W v x.1 x.2 := by
  obtain ⟨n, f, hr, hf⟩ := recs_of_trod Try.underlying44 Try.underlying47 (by kernel_rfl) (by kernel_rfl) (by decide) hv h
  have hall : ∀ i, i < n → ∃ a : Act, f i 0 = .int .i64 a.kind ∧ f i 1 = .int .i64 a.at_ ∧ f i 2 = .int .u64 a.x ∧ f i 3 = .int .u64 a.y ∧ a.Ok := by
    intro i hi
    obtain ⟨m0, y0, h0⟩ := hf i hi 0 _ rfl
    obtain ⟨m1, y1, h1⟩ := hf i hi 1 _ rfl
    obtain ⟨m2, y2, h2⟩ := hf i hi 2 _ rfl
    obtain ⟨m3, y3, h3⟩ := hf i hi 3 _ rfl
    obtain ⟨n0, e0, _, g0⟩ := DataW.trod_int Try.underlying3 h0
    obtain ⟨n1, e1, _, g1⟩ := DataW.trod_int Try.underlying3 h1
    obtain ⟨n2, e2, _, g2⟩ := DataW.trod_int Try.underlying28 h2
    obtain ⟨n3, e3, _, g3⟩ := DataW.trod_int Try.underlying28 h3
    exact ⟨⟨n0, n1, n2, n3⟩, by simpa using e0, by simpa using e1, by simpa using e2, by simpa using e3, i64_bounds g0, i64_bounds g1, u64_bounds g2, u64_bounds g3⟩
  obtain ⟨l, hl⟩ := choose_lt hall
  obtain ⟨A, c, rfl, hlen, hx⟩ := hr.form
  refine ⟨(n, l), ⟨A, c, rfl, hlen, fun hn => ?_⟩, fun i hi => (hl i hi).2.2.2.2⟩
  obtain ⟨b, o, rfl, hb, hc⟩ := hx hn
  refine ⟨b, o, rfl, hb, fun i hi => ?_⟩
  obtain ⟨l0, l1, l2, l3, _⟩ := hl i hi
  have s0 := hc i 0 hi (by decide)
  have s1 := hc i 1 hi (by decide)
  have s2 := hc i 2 hi (by decide)
  have s3 := hc i 3 hi (by decide)
  rw [l0] at s0
  rw [l1] at s1
  rw [l2] at s2
  rw [l3] at s3
  exact ⟨s0, s1, s2, s3⟩

/-- what do tells, and leaves -/
def doWord (ws : List Int) (a : Act) : Int :=
  if a.kind = 0 then wordF ws a.at_ else if a.kind = 1 then 0 else if a.kind = 2 then (if casB ws a.at_ a.y = true then 1 else 0) else wordF ws a.at_
def doWs (ws : List Int) (a : Act) : List Int :=
  if a.kind = 0 then ws else if a.kind = 1 then setF ws a.at_ a.x else if a.kind = 2 then (if casB ws a.at_ a.y = true then setF ws a.at_ a.x else ws) else setF ws a.at_ (IntKind.u64.wrap (wordF ws a.at_ + a.x))

set_option maxHeartbeats 1000000 in
theorem do_any (g h : Nat) (ws : List Int) (t : Int) (a : Act) (w : World) (hb : BankAt w g h ws t) (ha : a.Ok) :
    Calls Try.prog 20 #[.pointer (some ⟨g, 0, none⟩), .agg #[.int .i64 a.kind, .int .i64 a.at_, .int .u64 a.x, .int .u64 a.y]] w fun e w' => e = .returned (.tuple #[.int .u64 (doWord ws a), .int .i64 (errF ws a.at_)]) ∧ BankAt w' g h (doWs ws a) (tickF ws a.at_ t) ∧ Ex2 g h w w' := by
  obtain ⟨kind, at_, x, y⟩ := a
  obtain ⟨_, _, hx, hy⟩ := ha
  simp only at hx hy
  have HX := Lib.hid hx
  have HY := Lib.hid hy
  clear hx hy
  have hw1 : Below w.heap.size w (w.alloc (.cells #[.int .i64 kind, .int .i64 at_, .int .u64 x, .int .u64 y] 47)) := (Below.refl _ _).alloc (Nat.le_refl _) _
  have HB := Lib.hid (hb.below hw1)
  have HE := Lib.hid (Ex2.of_below (g := g) (h := h) hw1)
  clear hb hw1
  by_cases k0 : kind = 0
  · subst k0
    have HW := Lib.hid (show doWord ws ⟨0, at_, x, y⟩ = wordF ws at_ by simp [doWord])
    have HS := Lib.hid (show doWs ws ⟨0, at_, x, y⟩ = ws by simp [doWs])
    go_enter Try.func20, Try.ntmps20
    go_wp2_with fail
    refine (Load_any g h _ _ _ _ HB.out).mono ?_; rintro e w2 ⟨rfl, hb2, he2⟩
    have HE2 := Lib.hid (HE.out.trans he2)
    clear he2
    have HB2 := Lib.hid hb2
    clear hb2
    go_wp2_with fail
    go_ret2
    rw [HW.out, HS.out]
    exact ⟨rfl, HB2.out, HE2.out⟩
  · by_cases k1 : kind = 1
    · subst k1
      have HW := Lib.hid (show doWord ws ⟨1, at_, x, y⟩ = 0 by simp [doWord])
      have HS := Lib.hid (show doWs ws ⟨1, at_, x, y⟩ = setF ws at_ x by simp [doWs])
      go_enter Try.func20, Try.ntmps20
      go_wp2_with fail
      refine (Store_any g h _ _ _ _ _ HB.out HX.out).mono ?_; rintro e w2 ⟨rfl, hb2, he2⟩
      have HE2 := Lib.hid (HE.out.trans he2)
      clear he2
      have HB2 := Lib.hid hb2
      clear hb2
      go_wp2_with fail
      go_ret2
      rw [HW.out, HS.out]
      exact ⟨rfl, HB2.out, HE2.out⟩
    · by_cases k2 : kind = 2
      · subst k2
        have hcb : casB ws at_ y = true ∨ casB ws at_ y = false := by cases casB ws at_ y <;> simp
        rcases hcb with hcb | hcb
        · have HW := Lib.hid (show doWord ws ⟨2, at_, x, y⟩ = 1 by simp [doWord, hcb])
          have HS := Lib.hid (show doWs ws ⟨2, at_, x, y⟩ = setF ws at_ x by simp [doWs, hcb])
          have HC := Lib.hid hcb
          clear hcb
          go_enter Try.func20, Try.ntmps20
          go_wp2_with fail
          refine (CAS_any g h _ _ _ _ _ _ HB.out HX.out).mono ?_; rintro e w2 ⟨rfl, hb2, he2⟩
          have HE2 := Lib.hid (HE.out.trans he2)
          clear he2
          rw [HC.out] at hb2 ⊢
          simp only [if_true] at hb2
          have HB2 := Lib.hid hb2
          clear hb2
          go_wp2_with fail
          go_ret2
          rw [HW.out, HS.out]
          exact ⟨rfl, HB2.out, HE2.out⟩
        · have HW := Lib.hid (show doWord ws ⟨2, at_, x, y⟩ = 0 by simp [doWord, hcb])
          have HS := Lib.hid (show doWs ws ⟨2, at_, x, y⟩ = ws by simp [doWs, hcb])
          have HC := Lib.hid hcb
          clear hcb
          go_enter Try.func20, Try.ntmps20
          go_wp2_with fail
          refine (CAS_any g h _ _ _ _ _ _ HB.out HX.out).mono ?_; rintro e w2 ⟨rfl, hb2, he2⟩
          have HE2 := Lib.hid (HE.out.trans he2)
          clear he2
          rw [HC.out] at hb2 ⊢
          simp only [Bool.false_eq_true, if_false] at hb2
          have HB2 := Lib.hid hb2
          clear hb2
          go_wp2_with fail
          go_ret2
          rw [HW.out, HS.out]
          exact ⟨rfl, HB2.out, HE2.out⟩
      · have HW := Lib.hid (show doWord ws ⟨kind, at_, x, y⟩ = wordF ws at_ by simp [doWord, k0, k1, k2])
        have HS := Lib.hid (show doWs ws ⟨kind, at_, x, y⟩ = setF ws at_ (IntKind.u64.wrap (wordF ws at_ + x)) by simp [doWs, k0, k1, k2])
        have q0 : (kind == 0) = false := by simpa using k0
        have q1 : (kind == 1) = false := by simpa using k1
        have q2 : (kind == 2) = false := by simpa using k2
        clear k0 k1 k2
        go_enter Try.func20, Try.ntmps20
        go_wp2_with fail
        refine (Add_any g h _ _ _ _ _ HB.out).mono ?_; rintro e w2 ⟨rfl, hb2, he2⟩
        have HE2 := Lib.hid (HE.out.trans he2)
        clear he2
        have HB2 := Lib.hid hb2
        clear hb2
        go_wp2_with fail
        go_ret2
        rw [HW.out, HS.out]
        exact ⟨rfl, HB2.out, HE2.out⟩

theorem setF_len (ws : List Int) (a x : Int) : (setF ws a x).length = ws.length := by
  unfold setF; split <;> simp
theorem setF_other (ws : List Int) (a x : Int) (i : Nat) (h : a ≠ i) : nth (setF ws a x) i = nth ws i := by
  unfold setF
  split
  · rename_i hin
    obtain ⟨h0, _⟩ := hin
    exact nth_set_other (by omega)
  · rfl
theorem doWs_len (ws : List Int) (a : Act) : (doWs ws a).length = ws.length := by
  unfold doWs
  split
  · rfl
  · split
    · exact setF_len _ _ _
    · split
      · split
        · exact setF_len _ _ _
        · rfl
      · exact setF_len _ _ _
theorem doWs_other (ws : List Int) (a : Act) (i : Nat) (h : a.at_ ≠ i) : nth (doWs ws a) i = nth ws i := by
  unfold doWs
  split
  · rfl
  · split
    · exact setF_other _ _ _ _ h
    · split
      · split
        · exact setF_other _ _ _ _ h
        · rfl
      · exact setF_other _ _ _ _ h
end Go.Proofs.Ytabhkplcigdafaa.Bank
