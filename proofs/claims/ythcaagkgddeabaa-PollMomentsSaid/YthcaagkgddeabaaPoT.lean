/-
  Law 12: polls that live beside other things: their blocks bear a mark. Conditions stand at each. By an AI agent.
-/
import Derived.Test.YthcaagkgddeabaaPoR
import Derived.Test.YthcaagkgddeabaaPoEn
namespace Go.Proofs.Ythcaagkgddeabaa.Bank
set_option linter.unusedVariables false
set_option linter.unusedSimpArgs false
open Go Go.RowKit Go.Proofs.Ythcaagkgddeabaa.Base Go.Deep Go.ChangeShapes Go.WideShapes Go.Proofs.Ythcaagkgddeabaa.Queue
/-- what is new bears the mark t -/
def lamN (lam : Nat → Nat) (N t : Nat) : Nat → Nat := fun k => if k < N then lam k else t
theorem lamN_lt {lam : Nat → Nat} {N t k : Nat} (h : k < N) : lamN lam N t k = lam k := if_pos h
theorem lamN_ge {lam : Nat → Nat} {N t k : Nat} (h : N ≤ k) : lamN lam N t k = t := if_neg (by omega)
structure PLive (w : World) (lam : Nat → Nat) (tag o : Nat) (c : PC) (x : PX) : Prop where
  form : ∃ rs cs rt ct q vw, PAt w o rs cs rt ct q vw c x ∧ lam rs = tag ∧ lam rt = tag ∧ lam q = tag
  lo : lam o = tag
theorem PLive.ex {w w' : World} {lam : Nat → Nat} {tag o : Nat} {c : PC} {x : PX} {T : Nat → Prop} (h : PLive w lam tag o c x) (p : Ex T w w') (hT : ∀ k, T k → lam k ≠ tag) : PLive w' lam tag o c x := by
  obtain ⟨rs, cs, rt, ct, q, vw, ha, h1, h2, h3⟩ := h.form
  exact ⟨⟨rs, cs, rt, ct, q, vw, ha.ex p (fun t => hT _ t h.lo) (fun t => hT _ t h1) (fun t => hT _ t h2) (fun t => hT _ t h3), h1, h2, h3⟩, h.lo⟩
theorem PLive.bl {w w' : World} {lam : Nat → Nat} {tag o : Nat} {c : PC} {x : PX} (h : PLive w lam tag o c x) (p : Below w.heap.size w w') : PLive w' lam tag o c x := h.ex (T := fun _ => False) (Ex.of_below p) (fun _ h => h.elim)
theorem PLive.lt {w : World} {lam : Nat → Nat} {tag o : Nat} {c : PC} {x : PX} (h : PLive w lam tag o c x) : o < w.heap.size := by
  obtain ⟨_, _, _, _, _, _, ha, _⟩ := h.form
  exact ha.box.lt
theorem PLive.relam {w : World} {lam lam' : Nat → Nat} {tag o : Nat} {c : PC} {x : PX} (h : PLive w lam tag o c x) (e : ∀ k, k < w.heap.size → lam' k = lam k) : PLive w lam' tag o c x := by
  obtain ⟨rs, cs, rt, ct, q, vw, ha, h1, h2, h3⟩ := h.form
  exact ⟨⟨rs, cs, rt, ct, q, vw, ha, (e _ ha.subs.lt).trans h1, (e _ ha.tops.lt).trans h2, (e _ ha.qlt).trans h3⟩, (e _ ha.box.lt).trans h.lo⟩
theorem LStep_any (lam : Nat → Nat) (tag g h o : Nat) (ws : List Int) (t : Int) (c : PC) (x : PX) (w : World) (hb : BankAt w g h ws t) (ho : PLive w lam tag o c x) (hi : x.how = 0 → PInv c x) (hg : lam g ≠ tag) (hh : lam h ≠ tag) :
    Calls Try.prog 9 #[.pointer (some ⟨o, 0, none⟩), .pointer (some ⟨g, 0, none⟩)] w fun e w' => e = .returned (.int .i64 (pStepF c ws x).how) ∧ BankAt w' g h ws (pTickF c ws x t) ∧ PLive w' (lamN lam w.heap.size tag) tag o c (pStepF c ws x) ∧ Ex (fun k => k = g ∨ k = h ∨ lam k = tag) w w' := by
  obtain ⟨rs, cs, rt, ct, q, vw, ha, h1, h2, h3⟩ := ho.form
  have hlo := ho.lo
  have d : ∀ a b : Nat, lam a = tag → lam b ≠ tag → a ≠ b := fun a b ha hb e => hb (e ▸ ha)
  refine (PStep_any g h o rs cs rt ct q vw ws t c x w hb ha hi ⟨d _ _ hlo hg, d _ _ hlo hh, d _ _ h1 hg, d _ _ h1 hh, d _ _ h2 hg, d _ _ h2 hh, d _ _ h3 hg, d _ _ h3 hh⟩).mono ?_
  rintro e w' ⟨he, hk, ⟨q', vw', ha', hq⟩, hx⟩
  refine ⟨he, hk, ⟨⟨rs, cs, rt, ct, q', vw', ha', ?_, ?_, ?_⟩, ?_⟩, hx.mono ?_⟩
  · rw [lamN_lt ha.subs.lt]; exact h1
  · rw [lamN_lt ha.tops.lt]; exact h2
  · rcases hq with rfl | hq
    · rw [lamN_lt ha.qlt]; exact h3
    · exact lamN_ge hq
  · rw [lamN_lt ha.box.lt]; exact hlo
  · rintro k (rfl | rfl | rfl | rfl | rfl | rfl)
    · exact .inl rfl
    · exact .inr (.inl rfl)
    · exact .inr (.inr hlo)
    · exact .inr (.inr h1)
    · exact .inr (.inr h2)
    · exact .inr (.inr h3)
theorem LNil_any (lam : Nat → Nat) (tag o : Nat) (c : PC) (left pk gen place size steps begun : Int) (words gl : List Int) (cu : Nat → Cur) (j : Nat) (w : World) (ho : PLive w lam tag o c ⟨left, 1, (j : Int), pk, gen, place, size, 0, steps, begun, words, gl, cu⟩) (hj : j < c.T) :
    Calls Try.prog 9 #[.pointer (some ⟨o, 0, none⟩), .pointer none] w fun e w' => e = .returned (.int .i64 3) ∧ PLive w' lam tag o c ⟨left, 1, (j : Int), pk, gen, place, size, 3, steps, begun, words, gl, cu⟩ ∧ Ex (fun k => lam k = tag) w w' := by
  obtain ⟨rs, cs, rt, ct, q, vw, ha, h1, h2, h3⟩ := ho.form
  refine (PS_nobank o rs cs rt ct q vw c left pk gen place size steps begun words gl cu j w ha hj).mono ?_
  rintro e w' ⟨he, ha', hx⟩
  exact ⟨he, ⟨⟨rs, cs, rt, ct, q, vw, ha', h1, h2, h3⟩, ho.lo⟩, hx.mono (fun k hk => by have hk : k = o := hk; rw [hk]; exact ho.lo)⟩
theorem LDone_any (lam : Nat → Nat) (tag o : Nat) (c : PC) (x : PX) (v : Value) (w : World) (ho : PLive w lam tag o c x) (hh : x.how ≠ 0) :
    Calls Try.prog 9 #[.pointer (some ⟨o, 0, none⟩), v] w fun e w' => e = .returned (.int .i64 x.how) ∧ w = w' := by
  obtain ⟨rs, cs, rt, ct, q, vw, ha, _⟩ := ho.form
  exact PS_done o rs cs rt ct q vw c x v w ha hh
def x0F (n : Nat) (l : Nat → Queue.Sub) (s : Nat → Spot) (tries : Int) : PX := ⟨tries, 1, 0, -1, 0, 0, 0, 0, 0, 0, [], zeros (cOf n l s).T, fun i => (l i).cur⟩
theorem LNew_in (lam : Nat → Nat) (tag : Nat) (v1 v2 : Value) (n m : Nat) (l : Nat → Queue.Sub) (s : Nat → Spot) (tries : Int) (w : World) (hl : SubsC w v1 n l) (hs : Sps w v2 m s) (h64 : n * 48 ≤ 140737488351232) (hf : Fits n m l s) (ht : 1 ≤ tries ∧ tries ≤ 16) :
    Calls Try.prog 15 #[v1, v2, .int .i64 tries] w fun e w' => ∃ o, e = .returned (.tuple #[.pointer (some ⟨o, 0, none⟩), .int .i64 0]) ∧ PLive w' (lamN lam w.heap.size tag) tag o (cOf n l s) (x0F n l s tries) ∧ w.heap.size ≤ o ∧ Below w.heap.size w w' := by
  refine (PNew_in v1 v2 n m l s tries w hl hs h64 hf ht).mono ?_
  rintro e w' ⟨o, rs, cs, rt, ct, he, ha, ⟨h1, h2, h3⟩, hb⟩
  exact ⟨o, he, ⟨⟨rs, cs, rt, ct, o, _, ha, lamN_ge h2, lamN_ge h3, lamN_ge h1⟩, lamN_ge h1⟩, h1, hb⟩
theorem x0F_good {n m : Nat} {l : Nat → Queue.Sub} {s : Nat → Spot} {tries : Int} (h : Fits n m l s) (h64 : n ≤ 64) (hr : ∀ i, i < n → (l i).Ok) (ht : 1 ≤ tries ∧ tries ≤ 16) : PGood (cOf n l s) (fun i => (l i).cur) (x0F n l s tries) 0 where
  ok := cOf_ok h h64 hr
  cur := fun i hi => ⟨(h.2.2 i hi).2.2.1, (hr i hi).cur⟩
  gl := by
    intro v hv
    simp only [x0F, zeros, List.mem_replicate] at hv
    omega
  glen := by simp [x0F, zeros]
  left := ⟨by simp only [x0F]; omega, ht.2⟩
  st := ⟨Int.le_refl 0, Int.le_refl 0⟩
  nx := Int.le_refl 0
  how := .inl rfl
  not := fun _ => rfl
  way := fun _ => ⟨ht.1, .inl ⟨rfl, by have := (cOf_ok h h64 hr).t1; simp only [x0F]; omega⟩⟩
  fin := fun h => by cases h
section
variable (lam : Nat → Nat) (tag o : Nat) (c : PC) (x : PX) (w : World)
theorem LSteps_any (h : PLive w lam tag o c x) : Calls Try.prog 13 #[.pointer (some ⟨o, 0, none⟩)] w fun e w' => e = .returned (.int .i64 x.steps) ∧ w = w' := by
  obtain ⟨rs, cs, rt, ct, q, vw, ha, _⟩ := h.form
  exact PSteps_any o rs cs rt ct q vw c x w ha
theorem LAt_any (h : PLive w lam tag o c x) : Calls Try.prog 12 #[.pointer (some ⟨o, 0, none⟩)] w fun e w' => e = .returned (.int .i64 (if x.how = 1 then x.begun else 0)) ∧ w = w' := by
  obtain ⟨rs, cs, rt, ct, q, vw, ha, _⟩ := h.form
  exact PAt_any o rs cs rt ct q vw c x w ha
theorem LGot_not (h : PLive w lam tag o c x) (hh : x.how ≠ 1) : Calls Try.prog 8 #[.pointer (some ⟨o, 0, none⟩)] w fun e w' => e = .returned (.tuple #[.int .i64 (-1), .int .u64 0, .slice none 0 0]) ∧ w = w' := by
  obtain ⟨rs, cs, rt, ct, q, vw, ha, _⟩ := h.form
  exact PGot_not o rs cs rt ct q vw c x w ha hh
theorem LSubs_not (h : PLive w lam tag o c x) (hh : x.how ≠ 1) : Calls Try.prog 10 #[.pointer (some ⟨o, 0, none⟩)] w fun e w' => e = .returned (.slice none 0 0) ∧ w = w' := by
  obtain ⟨rs, cs, rt, ct, q, vw, ha, _⟩ := h.form
  exact PSubs_not o rs cs rt ct q vw c x w ha hh
theorem LGens_not (h : PLive w lam tag o c x) (hh : x.how ≠ 1) : Calls Try.prog 11 #[.pointer (some ⟨o, 0, none⟩)] w fun e w' => e = .returned (.slice none 0 0) ∧ w = w' := by
  obtain ⟨rs, cs, rt, ct, q, vw, ha, _⟩ := h.form
  exact PGens_not o rs cs rt ct q vw c x w ha hh
theorem LGens_any (h : PLive w lam tag o c x) (hh : x.how = 1) (hc : c.Ok) : Calls Try.prog 11 #[.pointer (some ⟨o, 0, none⟩)] w fun e w' => ∃ r, e = .returned (.slice (some ⟨r, 0, none⟩) c.n c.n) ∧ w.heap.size ≤ r ∧ URow w' r (gensL c x.gl) ∧ Below w.heap.size w w' := by
  obtain ⟨rs, cs, rt, ct, q, vw, ha, _⟩ := h.form
  exact PGens_any o rs cs rt ct q vw c x w ha hh hc
theorem LSubs_any (h : PLive w lam tag o c x) (hh : x.how = 1) (hc : c.Ok) (hok : ∀ i, i < c.n → (x.cu i).Ok) : Calls Try.prog 10 #[.pointer (some ⟨o, 0, none⟩)] w fun e w' => ∃ r cc, e = .returned (.slice (some ⟨r, 0, none⟩) c.n cc) ∧ c.n ≤ cc ∧ w.heap.size ≤ r ∧ SubsIn w' r c.n (c.sub x.cu) ∧ Below w.heap.size w w' := by
  obtain ⟨rs, cs, rt, ct, q, vw, ha, _⟩ := h.form
  exact PSubs_any o rs cs rt ct q vw c x w ha hh hc hok
theorem LGot_any (h : PLive w lam tag o c x) (hh : x.how = 1) (hl : x.words.length ≤ 64) : Calls Try.prog 8 #[.pointer (some ⟨o, 0, none⟩)] w fun e w' => ∃ v', e = .returned (.tuple #[.int .i64 x.pick, .int .u64 x.gen, v']) ∧ w'.ownsRow w.heap.size 32 1 v' x.words.length (x.words.map (Value.int .u64)) ∧ Below w.heap.size w w' := by
  obtain ⟨rs, cs, rt, ct, q, vw, ha, _⟩ := h.form
  exact PGot_any o rs cs rt ct q vw c x w ha hh hl
end
theorem PGood.len {c : PC} {cu0 : Nat → Cur} {x : PX} {M : Int} (h : PGood c cu0 x M) (hh : x.how = 1) : x.words.length ≤ 64 := by
  obtain ⟨_, h2, h3⟩ := h.fin hh
  have h4 := (h2.size h.ok).2.1
  simp only at h4
  omega
theorem SubsIn.subsC {w : World} {r n c : Nat} {l : Nat → Queue.Sub} (h : SubsIn w r n l) (hn : n ≤ maxLen) (hc : n ≤ c) (ho : ∀ i : Nat, i < n → (l i).Ok) : SubsC w (.slice (some ⟨r, 0, none⟩) n c) n l := ⟨h.subs hn ho, _, _, rfl, hc⟩
end Go.Proofs.Ythcaagkgddeabaa.Bank
