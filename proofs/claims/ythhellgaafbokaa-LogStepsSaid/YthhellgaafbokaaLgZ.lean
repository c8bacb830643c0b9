/-
  Law 16: a row of words that grows by one; a reading's state beside it. Conditions stand at each. By an AI agent.
-/
import Derived.Test.YthhellgaafbokaaLgX
namespace Go.Proofs.Ythhellgaafbokaa.Bank
open Go Go.RowKit Go.Proofs.Ythhellgaafbokaa.Base
theorem setF_len (ws : List Int) (a x : Int) : (setF ws a x).length = ws.length := by
  unfold setF
  split
  · exact List.length_set
  · rfl
end Go.Proofs.Ythhellgaafbokaa.Bank
namespace Go.Proofs.Ythhellgaafbokaa.Lg
set_option linter.unusedVariables false
set_option linter.unusedSimpArgs false
open Go Go.RowKit Go.Proofs.Ythhellgaafbokaa.Base Go.Proofs.Ythhellgaafbokaa.Reg
open Go.Proofs.Ythhellgaafbokaa.Bank (BankAt inW wordF setF tickF errF wordF_in wordF_out setF_in setF_out wordF_range)
theorem row_push {w4 w5 : World} {r n c : Nat} {A : Option Addr} {xs : List Int} {x : Int} {v' : Value} {o : Obj} (R : RowAt w4 r (.slice A n c) xs) (hn : n = xs.length)
    (hown : w5.ownsRow 0 25 1 v' (n + 1) (xs.map (Value.int .u64) ++ [.int .u64 x])) (hgrow : (w4.alloc o).grownBy w5 (Value.slice A n c).ownBlock)
    (hat : v'.ownBlock = (Value.slice A n c).ownBlock ∨ v'.ownBlock = some (w4.heap.size + 1)) : ∃ A' c' r', v' = .slice A' (n + 1) c' ∧ RowAt w5 r' (.slice A' (n + 1) c') (xs ++ [x]) ∧ (r' = r ∨ w4.heap.size ≤ r') ∧ Ex (fun k => k = r) w4 w5 := by
  have hex : Ex (fun k => k = r) w4 w5 := ((Ex.refl (fun k => k = r) w4).alloc o).trans (Ex.of_grown hgrow (fun k hk => R.own k hk))
  subst hn
  rcases hown.2 with ⟨_, h0⟩ | ⟨g, cap, cur, rfl, hb, hg, hle, hcap, hcur, ht⟩
  · omega
  · refine ⟨_, _, g, rfl, ⟨?_, fun k hk => by simp [Value.ownBlock] at hk; exact hk.symm, (Array.getElem?_eq_some_iff.1 hg).1⟩, ?_, hex⟩
    · rw [List.map_append, List.length_append]
      exact hown
    · rcases hat with h | h
      · exact .inl (R.own g (h ▸ rfl))
      · simp [Value.ownBlock] at h
        exact .inr (by omega)
theorem word64_info : (Try.prog.info? 25).map (fun i => (i.zero, i.size, i.bytes)) = some (some (.int .u64 0), 1, 8) := by kernel_rfl
theorem ix_range (a m : Int) (hm : 0 < m ∧ m ≤ 1000) : 0 ≤ (wrap64 (a.tmod m + m)).tmod m ∧ (wrap64 (a.tmod m + m)).tmod m < m := by
  have h1 : -m < a.tmod m ∧ a.tmod m < m := by
    constructor
    · have := Int.lt_tmod_of_pos a hm.1; omega
    · exact Int.tmod_lt_of_pos a hm.1
  have h2 : wrap64 (a.tmod m + m) = a.tmod m + m := wrap64_in _ (by omega)
  rw [h2]
  exact ⟨Int.tmod_nonneg _ (by omega), Int.tmod_lt_of_pos _ hm.1⟩
/-- between two turns -/
structure SnI (w wr : World) (pb g rr oq : Nat) (at_ long : Int) (N : Nat) (rd : List Int) (v : Value) : Prop where
  plan : Blk wr pb 33 #[.int .i64 0, .int .i64 at_, .int .i64 long, .slice none 0 0, .int .i64 0]
  lo : Lo pb w wr
  bank : ∃ ws t, BankAt wr g rr ws t ∧ ws.length = N
  rest : ∃ qq rq, RdAt wr oq qq at_ long rd (rdDone rd long) ∧ RowAt wr rq v rd ∧ oq ≤ qq ∧ oq < rq ∧ rq ≠ qq
  len : (rd.length : Int) ≤ long
  fit : ∀ x ∈ rd, 0 ≤ x ∧ x ≤ 18446744073709551615
end Go.Proofs.Ythhellgaafbokaa.Lg
