/-
  Law 16: what stands between two turns of LogSteps. Conditions stand at each. By an AI agent.
-/
import Derived.Test.YthhellgaafbokaaLgTold
import Derived.Test.YthhellgaafbokaaGoto
namespace Go.Proofs.Ythhellgaafbokaa.Lg
set_option linter.unusedVariables false
set_option linter.unusedSimpArgs false
open Go Go.RowKit Go.Proofs.Ythhellgaafbokaa.Base Go.Proofs.Ythhellgaafbokaa.Reg
open Go.Proofs.Ythhellgaafbokaa.Bank (BankAt inW wordF setF tickF errF wordF_in wordF_out setF_in setF_out wordF_range zeros zeros_len)
structure LsI (w wr : World) (pb kb g rr oq wb : Nat) (at_ long hw : Int) (d : Nat) (rd : List Int) (v : Value) : Prop where
  plan : Blk wr pb 33 #[.int .i64 0, .int .i64 at_, .int .i64 long, .slice none 0 0, .int .i64 0]
  book : Blk wr kb 58 #[.int .i64 at_, .int .i64 long]
  lo : Lo pb w wr
  bank : ∃ ws, BankAt wr g rr ws d ∧ ws.length = 20 ∧ Blk wr wb 25 (ws.map (Value.int .u64)).toArray
  rest : ∃ qq rq, RdAt wr oq qq at_ long rd hw ∧ RowAt wr rq v rd ∧ oq ≤ qq ∧ wb < rq ∧ rq ≠ qq ∧ wb ≠ qq
  len : (rd.length : Int) ≤ long
  fit : ∀ x ∈ rd, 0 ≤ x ∧ x ≤ 18446744073709551615
  hows : (hw = 0 ∧ (rd.length : Int) < long) ∨ hw = 1 ∨ hw = 3
theorem RowAt.rowN {w : World} {r n c : Nat} {A : Option Addr} {xs : List Int} (h : RowAt w r (.slice A n c) xs) (hn : xs.length = n) : w.ownsRow 0 25 1 (.slice A n c) n (xs.map (Value.int .u64)) := by
  subst hn; exact h.row
theorem one_new (w : World) (v : Int) : ∀ j u, [Value.int .u64 v][j]? = some u → (w.alloc (.cells #[.int .u64 v] 25)).cell? ((⟨w.heap.size, 0, none⟩ : Addr).add j) = some u := by
  have hbn := Blk.new w 25 #[.int .u64 v]
  intro j u hj
  match j, hj with
  | 0, hj => simp at hj; subst hj; exact hbn.cell 0
theorem one_oc (v : Int) : ∀ u ∈ [Value.int .u64 v], u.oneCell' = true := by
  intro u hu
  simp only [List.mem_cons, List.not_mem_nil, or_false] at hu
  subst hu; rfl
theorem len_ok {n : Nat} (h : n ≤ 64) : n + 1 ≤ maxLen ∧ (n + 1) * 8 ≤ 140737488355328 := by unfold maxLen; omega
theorem turn20 {k : Nat} (h : k < 20) : 20 - (intOf (.int .i64 ((k : Int) + 1))).toNat < 20 - (intOf (.int .i64 (k : Int))).toNat := by
  show 20 - ((k : Int) + 1).toNat < 20 - (k : Int).toNat
  omega
theorem map_set (ws : List Int) (k : Nat) (x : Int) : ((ws.map (Value.int .u64)).toArray.setIfInBounds k (.int .u64 x)) = ((ws.set k x).map (Value.int .u64)).toArray := by
  rw [List.setIfInBounds_toArray, List.map_set]
theorem wcell {w : World} {wb k : Nat} {ws : List Int} (h : Blk w wb 25 (ws.map (Value.int .u64)).toArray) (hk : k < ws.length) : w.cell? ⟨wb, k, none⟩ = some (.int .u64 (nth ws k)) := by
  rw [h.cell]
  simp [nth, List.getD_eq_getElem?_getD, List.getElem?_eq_getElem hk]
end Go.Proofs.Ythhellgaafbokaa.Lg
