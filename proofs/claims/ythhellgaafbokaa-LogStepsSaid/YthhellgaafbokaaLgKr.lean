/-
  Law 16: a row of states of one's own that grows by one. Conditions stand at each. By an AI agent.
-/
import Derived.Test.YthhellgaafbokaaLgKp
import Derived.Test.YthhellgaafbokaaRegH
namespace Go.Proofs.Ythhellgaafbokaa.Lg
set_option linter.unusedVariables false
set_option linter.unusedSimpArgs false
open Go Go.RowKit Go.Proofs.Ythhellgaafbokaa.Base Go.Proofs.Ythhellgaafbokaa.Reg
structure StRow (w : World) (r : Nat) (v : Value) (l : List St) : Prop where
  row : w.ownsRow 0 28 5 v l.length (flatS l)
  own : ∀ k, v.ownBlock = some k → k = r
  lt : r < w.heap.size
theorem StRow.ex {T : Nat → Prop} {w w' : World} {r : Nat} {v : Value} {l : List St} (h : StRow w r v l) (p : Ex T w w') (hr : ¬ T r) : StRow w' r v l :=
  ⟨ownsRow_ex h.row p (fun k hk ht => hr (h.own k hk ▸ ht)), h.own, Nat.lt_of_lt_of_le h.lt p.size⟩
theorem StRow.one (w : World) (s : St) : StRow (w.alloc (.cells #[.int .i64 s.mode, .int .i64 s.source, .bool s.hold, .int .i64 s.flags, .int .u64 s.epoch] 28)) w.heap.size (.slice (some ⟨w.heap.size, 0, none⟩) 1 1) [s] :=
  ⟨⟨rfl, .inr ⟨w.heap.size, 1, _, rfl, Nat.zero_le _, heap_alloc_new w _, Nat.le_refl _, by decide, rfl, rfl⟩⟩, fun k hk => by simp [Value.ownBlock] at hk; exact hk.symm, by simp⟩
theorem StRow.nil (w : World) : StRow (w.alloc (.cells #[] 28)) w.heap.size (.slice (some ⟨w.heap.size, 0, none⟩) 0 0) [] :=
  ⟨World.ownsRow_made w #[] 0 (Nat.zero_le _) (Nat.zero_le _) rfl, fun k hk => by simp [Value.ownBlock] at hk; exact hk.symm, by simp⟩
theorem StRow.rowN {w : World} {r n c : Nat} {A : Option Addr} {l : List St} (h : StRow w r (.slice A n c) l) (hn : l.length = n) : w.ownsRow 0 28 5 (.slice A n c) n (flatS l) := by
  subst hn; exact h.row
theorem StRow.cells {w : World} {r : Nat} {A : Option Addr} {c n : Nat} {l : List St} (h : StRow w r (.slice A n c) l) (hl : 0 < l.length) : A = some ⟨r, 0, none⟩ ∧ ∀ i s, l[i]? = some s →
    w.cell? ⟨r, i * 5, none⟩ = some (.int .i64 s.mode) ∧ w.cell? ⟨r, i * 5 + 1, none⟩ = some (.int .i64 s.source) ∧ w.cell? ⟨r, i * 5 + 2, none⟩ = some (.bool s.hold) ∧ w.cell? ⟨r, i * 5 + 3, none⟩ = some (.int .i64 s.flags) ∧ w.cell? ⟨r, i * 5 + 4, none⟩ = some (.int .u64 s.epoch) := by
  rcases h.row.2 with ⟨h1, h0⟩ | ⟨g, cap, cur, hv, hb, hg, hn, hcap, hcur, ht⟩
  · omega
  · simp only [Value.slice.injEq] at hv
    obtain ⟨rfl, rfl, rfl⟩ := hv
    have e := h.own g rfl
    subst e
    refine ⟨rfl, fun i s hi => ?_⟩
    have hil := (List.getElem?_eq_some_iff.1 hi).1
    have hc : ∀ j u, j < 5 → (encS s)[j]? = some u → w.cell? ⟨g, i * 5 + j, none⟩ = some u := by
      intro j u hj hu
      have hf := flatS_get l i s hi j hj
      rw [hu, ← ht, List.getElem?_take_of_lt (by omega)] at hf
      simp only [World.cell?, hg]
      simp only [Option.isSome_none, Bool.false_eq_true, if_false]
      rw [← Array.getElem?_toList, hf]
    exact ⟨by have := hc 0 _ (by omega) rfl; simpa using this, hc 1 _ (by omega) rfl, hc 2 _ (by omega) rfl, hc 3 _ (by omega) rfl, hc 4 _ (by omega) rfl⟩
theorem strow_push {w4 w5 : World} {r n c : Nat} {A : Option Addr} {xs : List St} {x : St} {v' : Value} {o : Obj} (R : StRow w4 r (.slice A n c) xs) (hn : n = xs.length)
    (hown : w5.ownsRow 0 28 5 v' (n + 1) (flatS xs ++ encS x)) (hgrow : (w4.alloc o).grownBy w5 (Value.slice A n c).ownBlock)
    (hat : v'.ownBlock = (Value.slice A n c).ownBlock ∨ v'.ownBlock = some (w4.heap.size + 1)) : ∃ A' c' r', v' = .slice A' (n + 1) c' ∧ StRow w5 r' (.slice A' (n + 1) c') (xs ++ [x]) ∧ (r' = r ∨ w4.heap.size ≤ r') ∧ Ex (fun k => k = r) w4 w5 := by
  have hex : Ex (fun k => k = r) w4 w5 := ((Ex.refl (fun k => k = r) w4).alloc o).trans (Ex.of_grown hgrow (fun k hk => R.own k hk))
  subst hn
  rcases hown.2 with ⟨_, h0⟩ | ⟨g, cap, cur, rfl, hb, hg, hle, hcap, hcur, ht⟩
  · omega
  · refine ⟨_, _, g, rfl, ⟨?_, fun k hk => by simp [Value.ownBlock] at hk; exact hk.symm, (Array.getElem?_eq_some_iff.1 hg).1⟩, ?_, hex⟩
    · rw [flatS_append, flatS_one, List.length_append]
      exact hown
    · rcases hat with h | h
      · exact .inl (R.own g (h ▸ rfl))
      · simp [Value.ownBlock] at h
        exact .inr (by omega)
theorem StRow.sts {w : World} {r n c : Nat} {A : Option Addr} {l : List St} (h : StRow w r (.slice A n c) l) (hn : l.length = n) (hl : n ≤ maxLen) (hok : ∀ s ∈ l, s.Ok) : Sts w (.slice A n c) n (fun i => l.getD i St.zero) := by
  subst hn
  exact sts_of_own h.row hl hok
theorem StRow.room {w : World} {r n c : Nat} {A : Option Addr} {l : List St} (h : StRow w r (.slice A n c) l) : n ≤ c ∧ c ≤ maxLen := by
  rcases h.row.2 with ⟨h1, h0⟩ | ⟨g, cap, cur, hv, hb, hg, hn, hcap, hcur, ht⟩
  · simp only [Value.slice.injEq] at h1
    obtain ⟨_, rfl, rfl⟩ := h1
    exact ⟨by omega, by unfold maxLen; omega⟩
  · simp only [Value.slice.injEq] at hv
    obtain ⟨_, rfl, rfl⟩ := hv
    exact ⟨hn, hcap⟩
theorem and63 (x : Int) : 0 ≤ bits .and .i64 x 63 ∧ bits .and .i64 x 63 ≤ 63 := by
  have h : (BitVec.ofInt 64 x &&& BitVec.ofInt 64 63).toNat ≤ 63 := by
    rw [BitVec.toNat_and]
    exact Nat.le_trans Nat.and_le_right (by decide)
  have e : bits .and .i64 x 63 = IntKind.i64.wrap ((BitVec.ofInt 64 x &&& BitVec.ofInt 64 63).toNat : Nat) := rfl
  have k : ∀ m : Nat, m ≤ 63 → IntKind.i64.wrap (m : Int) = (m : Int) := fun m hm => by simp [IntKind.wrap, IntKind.bits, IntKind.signed]; omega
  rw [e, k _ h]
  omega
theorem i64_tick {t : Nat} (h : t ≤ 100000) : IntKind.i64.wrap ((t : Int) + 1) = ((t + 1 : Nat) : Int) := by simp [IntKind.wrap, IntKind.bits, IntKind.signed]; omega
theorem set5_blk {w : World} {b : Nat} {t : TypeId} {a0 a1 a2 a3 a4 x0 x1 x2 x3 x4 : Value} (h : Blk w b t #[a0, a1, a2, a3, a4]) :
    Blk (((((w.setCell ⟨b, 0, none⟩ x0).setCell ⟨b, 1, none⟩ x1).setCell ⟨b, 2, none⟩ x2).setCell ⟨b, 3, none⟩ x3).setCell ⟨b, 4, none⟩ x4) b t #[x0, x1, x2, x3, x4] :=
  ((((h.set_ 0 x0).set_ 1 x1).set_ 2 x2).set_ 3 x3).set_ 4 x4
structure KpI (w wr : World) (pb g rr i N : Nat) (al : List St) (v : Value) : Prop where
  plan : Blk wr pb 33 #[.int .i64 0, .int .i64 2, .int .i64 N, .slice none 0 0, .int .i64 0]
  lo : Lo pb w wr
  bank : ∃ ws, Bank.BankAt wr g rr ws i ∧ LieB al N i ws
  row : ∃ r, StRow wr r v al ∧ g < r
  all : AllS al
  len : al.length = i + 1
/-- what is told is the end of all -/
theorem keep_same {al : List St} (m : Nat) : SameF (al.drop m).length (al.length - m) (fun i => (al.drop m).getD i St.zero) (fun i => al.getD (m + i) St.zero) := by
  refine ⟨List.length_drop, fun i hi => ?_⟩
  simp only [List.getD_eq_getElem?_getD, List.getElem?_drop]
theorem keep_gaps {al : List St} (h : AllS al) (m : Nat) (hm : m < al.length) : gapsF (al.drop m).length (fun i => (al.drop m).getD i St.zero) = 0 := by
  have e : (fun i => (al.drop m).getD i St.zero) = (fun i => al.getD (m + i) St.zero) := by
    funext i
    simp only [List.getD_eq_getElem?_getD, List.getElem?_drop]
  rw [e, List.length_drop]
  exact h.gaps m hm
theorem keep_gaps0 {al : List St} (h : AllS al) (hm : 0 < al.length) : gapsF al.length (fun i => al.getD i St.zero) = 0 := by
  have := h.gaps 0 hm
  simpa using this
/-- from a place on -/
theorem sts_tail {w : World} {r n c : Nat} {f : Nat → St} (h : Sts w (.slice (some ⟨r, 0, none⟩) n c) n f) {m : Nat} (hm : m < n) (c2 : Nat) : Sts w (.slice (some ⟨r, m * 5, none⟩) (n - m) c2) (n - m) (fun i => f (m + i)) := by
  obtain ⟨A', c', e, hl, hg⟩ := h.form
  simp only [Value.slice.injEq] at e
  obtain ⟨rfl, _, rfl⟩ := e
  refine ⟨⟨_, c2, rfl, by omega, fun h0 => ?_⟩, fun i hi => h.ok (m + i) (by omega)⟩
  obtain ⟨b', o', e, hb, hc⟩ := hg (by omega)
  simp only [Option.some.injEq, Addr.mk.injEq, and_true] at e
  obtain ⟨rfl, rfl⟩ := e
  refine ⟨r, m * 5, rfl, hb, fun i hi => ?_⟩
  have := hc (m + i) (by omega)
  rw [show 0 + (m + i) * 5 = m * 5 + i * 5 by omega] at this
  exact this
end Go.Proofs.Ythhellgaafbokaa.Lg
