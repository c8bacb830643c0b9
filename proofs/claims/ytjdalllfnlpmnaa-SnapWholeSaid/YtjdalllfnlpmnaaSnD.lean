/-
  Law 10: what a snapshot that is done tells. Conditions stand at each. By an AI agent.
-/
import Derived.Test.YtjdalllfnlpmnaaSnC
namespace Go.Proofs.Ytjdalllfnlpmnaa.Bank
set_option linter.unusedVariables false
set_option linter.unusedSimpArgs false
open Go Go.RowKit Go.Proofs.Ytjdalllfnlpmnaa.Base
theorem own_form {w : World} {base e k : Nat} {v : Value} {xs : List Value} (h : w.ownsRow base e 1 v k xs) (hk : 0 < k) : ∃ q G, v = .slice (some ⟨q, 0, none⟩) k G ∧ base ≤ q ∧ k ≤ G ∧ G ≤ maxLen := by
  rcases h.2 with ⟨rfl, h0⟩ | ⟨g, cap, cur, rfl, hb, hh, hn, hcap, hcur, ht⟩
  · omega
  · exact ⟨g, cap, rfl, hb, hn, hcap⟩
set_option maxRecDepth 100000 in
set_option maxHeartbeats 4000000 in
theorem SnGot_any (o rs cs rg rw n m : Nat) (l : Nat → Spot) (tries kk begun steps : Int) (gl wl : List Int) (w : World) (ho : SnAt w o rs cs rg rw n m l tries kk begun steps 1 gl wl) (m1 : 1 ≤ m) (m2 : m ≤ 4096) (n1 : 1 ≤ n) (n2 : n ≤ 64) :
    Calls Try.prog 19 #[.pointer (some ⟨o, 0, none⟩)] w fun e w' => ∃ q G, e = .returned (.tuple #[.slice (some ⟨q, 0, none⟩) m m, .slice (some ⟨q, m, none⟩) n (G - m)]) ∧ w.heap.size ≤ q ∧ m + n ≤ G ∧ w'.ownsRow w.heap.size 42 1 (.slice (some ⟨q, 0, none⟩) (m + n) G) (m + n) ((wl ++ gl).map (Value.int .u64)) ∧ Below w.heap.size w w' := by
  have q0 := ho.box.cell 0
  have q4 := ho.box.cell 4
  have q7 := ho.box.cell 7
  simp only [List.getElem?_toArray, List.getElem?_cons_succ, List.getElem?_cons_zero] at q0 q4 q7
  have HO := Lib.hid ho
  have HN := Lib.hid (show (1 ≤ m ∧ m ≤ 4096) ∧ 1 ≤ n ∧ n ≤ 64 from ⟨⟨m1, m2⟩, n1, n2⟩)
  clear ho m1 m2 n1 n2
  go_enter Try.func19, Try.ntmps19
  go_upto_region 4 with fail
  clear q0 q4 q7
  have hne : Nonempty (Held (Below w.heap.size w)) := ⟨⟨w, Below.refl _ _⟩⟩
  have p0 : ∀ x : Held (Below w.heap.size w), x.w.cell? ⟨o, 0, none⟩ = some (.slice (some ⟨rs, 0, none⟩) n cs) := fun x => (HO.out.box.bl x.ok).cell 0
  have p3 : ∀ x : Held (Below w.heap.size w), x.w.cell? ⟨o, 3, none⟩ = some (.slice (some ⟨rg, 0, none⟩) n n) := fun x => (HO.out.box.bl x.ok).cell 3
  have p4 : ∀ x : Held (Below w.heap.size w), x.w.cell? ⟨o, 4, none⟩ = some (.slice (some ⟨rw, 0, none⟩) m m) := fun x => (HO.out.box.bl x.ok).cell 4
  refine drawn_bars (S := Below w.heap.size w) [([0, 1, 2, 3, 4, 5, 6, 7], 8), ([], 9)] [10] (by kernel_rfl) (by kernel_rfl) (by kernel_rfl) rfl (Below.refl _ _).drew ?_
  refine Phased.go ?_
  simp only [pick, List.map_cons, List.map_nil, List.getElem?_cons_zero, List.getElem?_cons_succ, Option.getD_some]
  repeat (go_big_quiet_step (fail))
  refine wpQuiet_nil ?_
  go_wp2_with fail
  have hba := (Below.refl w.heap.size w).alloc (Nat.le_refl _) (.cells #[.slice (some ⟨rw, 0, none⟩) m m, .slice (some ⟨rg, 0, none⟩) n n] 41)
  have bn := Blk.new w 41 #[.slice (some ⟨rw, 0, none⟩) m m, .slice (some ⟨rg, 0, none⟩) n n]
  have hbd := hba.drew
  refine behind_normal ⟨Below w.heap.size w, fun W h => h, hbd, ?_⟩
  have BN : RowKit.Hid (Blk (w.alloc (.cells #[.slice (some ⟨rw, 0, none⟩) m m, .slice (some ⟨rg, 0, none⟩) n n] 41)).drew w.heap.size 41 #[.slice (some ⟨rw, 0, none⟩) m m, .slice (some ⟨rg, 0, none⟩) n n]) := Lib.hid bn
  have LD := Lib.hid hbd
  clear bn hba hbd p0 p3 p4
  generalize (w.alloc (.cells #[.slice (some ⟨rw, 0, none⟩) m m, .slice (some ⟨rg, 0, none⟩) n n] 41)).drew = w2 at *
  refine Phased.go ?_
  simp only [pick, List.map_cons, List.map_nil, List.getElem?_cons_zero, List.getElem?_cons_succ, Option.getD_some]
  repeat (go_big_quiet_step (fail))
  refine wpQuiet_nil ?_
  go_wp2_with fail
  refine (Concat_any w.heap.size rw rg m n wl gl w2 BN.out.lt (BN.out.cell 0) (BN.out.cell 1) (HO.out.words.bl LD.out) (HO.out.gens.bl LD.out) HO.out.wlen HO.out.glen HN.out.1.1 HN.out.1.2 HN.out.2.1 HN.out.2.2).mono ?_; rintro e w3 ⟨v3, rfl, ho3, hl3⟩
  have hl4 := bl LD.out hl3
  have ho4 : w3.ownsRow w.heap.size 42 1 v3 (m + n) ((wl ++ gl).map (Value.int .u64)) := by
    rcases ho3.2 with ⟨h0, h1⟩ | ⟨g, cap, cur, e1, hb, hh, hn, hcap, hcur, ht⟩
    · exact ⟨ho3.1, .inl ⟨h0, h1⟩⟩
    · exact ⟨ho3.1, .inr ⟨g, cap, cur, e1, Nat.le_trans LD.out.size hb, hh, hn, hcap, hcur, ht⟩⟩
  obtain ⟨q, G, rfl, hq, hG, hGm⟩ := own_form ho4 (by have := HN.out; omega)
  have O4 := Lib.hid ho4
  have L4 := Lib.hid hl4
  have HQ := Lib.hid (And.intro hq hG)
  go_wp2_with fail
  refine behind_normal ⟨Below w.heap.size w, fun W h => h, hl4, ?_⟩
  clear ho3 hl3 ho4 hl4 hq BN LD
  refine Phased.end_ ?_
  have hne4 : Nonempty (Held (fun W => W = w3)) := ⟨⟨_, rfl⟩⟩
  simp only [pick, List.map_cons, List.map_nil, List.getElem?_cons_zero, List.getElem?_cons_succ, Option.getD_some]
  repeat (go_big_quiet_step (fail))
  refine wpQuiet_nil ?_
  clear hne hne4
  have b0 : (0 : Int) ≤ (m : Int) := by omega
  have b1 : (m : Int) ≤ (G : Int) := by omega
  have b2 : (m : Int) ≤ ((m + n : Nat) : Int) := by omega
  have b3 : m ≤ G := by omega
  have b4 : m ≤ m + n := by omega
  have hne5 : Nonempty (Held (fun _ : World => True)) := ⟨⟨w, trivial⟩⟩
  go_upto_region 5 with fail
  refine drawn_bars (S := fun _ => True) [] [0, 1, 2, 3, 4, 5, 6, 7, 8] (by kernel_rfl) (by kernel_rfl) (by kernel_rfl) rfl trivial ?_
  refine Phased.end_ ?_
  have hne6 : Nonempty (Held (fun W => W = w3.drew)) := ⟨⟨_, rfl⟩⟩
  simp only [pick, List.map_cons, List.map_nil, List.getElem?_cons_zero, List.getElem?_cons_succ, Option.getD_some]
  repeat (go_big_quiet_step (fail))
  refine wpQuiet_nil ?_
  go_wp2_with fail
  all_goals first | (exfalso; have h1 := HQ.out.2; have h2 := HN.out.2.1; omega) | (go_ret2; exact ⟨q, G, rfl, HQ.out.1, HQ.out.2, by first | exact O4.out | (rw [← List.map_append]; exact O4.out), L4.out.drew⟩)
end Go.Proofs.Ytjdalllfnlpmnaa.Bank
