/-
  Law 12: queues in memory; push and told, walked. Printed by wip/tools/mkpmf.py. Conditions stand at each. By an AI agent.
-/
import Derived.Test.YthcaagkgddeabaaPmE
namespace Go.Proofs.Ythcaagkgddeabaa.Bank
set_option linter.unusedVariables false
set_option linter.unusedSimpArgs false
open Go Go.RowKit Go.Proofs.Ythcaagkgddeabaa.Base Go.Deep Go.ChangeShapes Go.WideShapes Go.Proofs.Ythcaagkgddeabaa.Queue
/-- a queue in memory: its block bears the mark 3: nobody writes there -/
def QI (w : World) (lam : Nat → Nat) (A : Option Addr) (c : Nat) (L : List Int) : Prop :=
  (A = none ∧ c = 0 ∧ L = []) ∨ ∃ b o, A = some ⟨b, o, none⟩ ∧ b < w.heap.size ∧ lam b = 3 ∧ ∀ i : Nat, i < L.length → w.cell? ⟨b, o + i, none⟩ = some (.int .u64 (nth L i))
section
variable {w w' : World} {lam lam' : Nat → Nat} {A : Option Addr} {c : Nat} {L : List Int}
theorem QI.ex {T : Nat → Prop} (h : QI w lam A c L) (p : Ex T w w') (hT : ∀ k, T k → lam k ≠ 3) : QI w' lam A c L := by
  rcases h with h | ⟨b, o, e, hb, hl, hc⟩
  · exact .inl h
  · exact .inr ⟨b, o, e, Nat.lt_of_lt_of_le hb p.size, hl, fun i hi => p.cell (hc i hi) (fun t => hT b t hl)⟩
theorem QI.bl (h : QI w lam A c L) (p : Below w.heap.size w w') : QI w' lam A c L := h.ex (T := fun _ => False) (Ex.of_below p) (fun _ h => h.elim)
theorem QI.relam (h : QI w lam A c L) (e : ∀ k, k < w.heap.size → lam' k = lam k) : QI w lam' A c L := by
  rcases h with h | ⟨b, o, e1, hb, hl, hc⟩
  · exact .inl h
  · exact .inr ⟨b, o, e1, hb, (e b hb).trans hl, hc⟩
theorem QI.nil (w : World) (lam : Nat → Nat) : QI w lam none 0 [] := .inl ⟨rfl, rfl, rfl⟩
/-- its oldest one gone -/
theorem QI.tail (h : QI w lam A c L) (hl : 0 < L.length) (hlc : L.length ≤ c) : ∃ b o, A = some ⟨b, o, none⟩ ∧ QI w lam (if c = 1 then some ⟨b, o, none⟩ else some ⟨b, o + 1, none⟩) (c - 1) (L.drop 1) ∧ w.cell? ⟨b, o, none⟩ = some (.int .u64 (nth L 0)) := by
  rcases h with ⟨_, _, h⟩ | ⟨b, o, e, hb, hm, hc⟩
  · rw [h] at hl; simp at hl
  · refine ⟨b, o, e, ?_, by have := hc 0 hl; rwa [Nat.add_zero] at this⟩
    have hn : ∀ i, nth (L.drop 1) i = nth L (1 + i) := fun i => by
      unfold nth
      rw [List.getD_eq_getElem?_getD, List.getD_eq_getElem?_getD, List.getElem?_drop]
    by_cases e1 : c = 1
    · rw [if_pos e1]
      refine .inr ⟨b, o, rfl, hb, hm, fun i hi => ?_⟩
      rw [List.length_drop] at hi
      omega
    · rw [if_neg e1]
      refine .inr ⟨b, o + 1, rfl, hb, hm, fun i hi => ?_⟩
      rw [List.length_drop] at hi
      rw [hn, Nat.add_assoc]
      exact hc (1 + i) (by omega)
end
theorem words_one (L : List Int) : ∀ u ∈ L.map (Value.int .u64), u.oneCell' = true := by
  intro u hu
  obtain ⟨x, _, rfl⟩ := List.mem_map.1 hu
  rfl
theorem made_own12 {w : World} {t e : TypeId} {sz n : Nat} {xs : List Value} {v' : Value} {w1 : World} (hown : w1.ownsRow w.heap.size e sz v' n xs) (hgrow : (w.alloc (.cells #[] e)).grownBy w1 (Value.slice (some ⟨w.heap.size, 0, none⟩) 0 0).ownBlock) : w1.ownsRow w.heap.size e sz v' n xs ∧ Below w.heap.size w w1 :=
  ⟨hown, ((Below.refl _ w).alloc (Nat.le_refl _) _).grown hgrow (by simp) (by intro k hk; simp [Value.ownBlock] at hk; omega)⟩
set_option maxRecDepth 100000 in
set_option maxHeartbeats 16000000 in
theorem push_any (lam : Nat → Nat) (A : Option Addr) (c : Nat) (L : List Int) (g room : Int) (w : World) (h : QI w lam A c L) (hl : L.length ≤ 100) (hg : 0 ≤ g ∧ g ≤ 18446744073709551615) (hr : 0 ≤ room ∧ room ≤ 1000) :
    Calls Try.prog 21 #[.slice A L.length c, .int .u64 g, .int .i64 room] w fun e w' => ∃ (A' : Option Addr) (n' c' : Nat), e = .returned (.slice A' n' c') ∧ n' = (pushF L g room).length ∧ n' ≤ c' ∧ QI w' (lamN lam w.heap.size 3) A' c' (pushF L g room) ∧ Below w.heap.size w w' := by
  have HL := Lib.hid hl
  have HG := Lib.hid hg
  have HRM := Lib.hid hr
  obtain ⟨i0, hi0, hz0, hz1, hz2⟩ := info_parts word_info
  obtain ⟨n, hn⟩ : ∃ n, L.length = n := ⟨_, rfl⟩
  have HN := Lib.hid hn
  rw [hn] at hl ⊢
  have MID : ∀ (v8 : Value) (w1 : World), w1.ownsRow w.heap.size 32 1 v8 n (L.map (Value.int .u64)) → Below w.heap.size w w1 → True := fun _ _ _ _ => trivial
  clear MID
  have HAPP := Lib.hid (run_append_owned_none (P := Try.prog) (w.alloc (.cells #[] 32)) w.heap.size 26 26 32 i0 1 Try.underlying26 hi0 (.slice (some ⟨w.heap.size, 0, none⟩) 0 0) 0 [] (World.ownsRow_made w #[] 0 (Nat.le_refl _) (Nat.zero_le _) rfl))
  rcases h with ⟨rfl, rfl, hL⟩ | ⟨b, o, rfl, hb, hm, hc⟩
  · have hn0 : n = 0 := by rw [← hn, hL]; rfl
    have HLL := Lib.hid hL
    clear hL
    clear hn hl hg hr hi0 hz0 hz1 hz2 i0
    subst hn0
    have happ := HAPP.out
    have B1 := Lib.hid ((Below.refl w.heap.size w).alloc (Nat.le_refl _) (.cells #[] 32))
    have O1 := Lib.hid (World.ownsRow_made (base := w.heap.size) (e := 32) (size := 1) w #[] 0 (Nat.le_refl _) (Nat.zero_le _) rfl)
    go_enter Try.func21, Try.ntmps21
    go_upto_region 2 with fail
    clear happ HAPP
    generalize w.alloc (.cells #[] 32) = w1 at *
    have O1b := Lib.hid (show w1.ownsRow w.heap.size 32 1 (.slice (some ⟨w.heap.size, 0, none⟩) 0 0) 0 (L.map (Value.int .u64)) from by rw [HLL.out]; simpa using O1.out)
    clear O1
    have HLK := Lib.hid (show 0 + 1 ≤ maxLen ∧ (0 + 1) * 8 ≤ 140737488355328 from by have h1 := HL.out; have h2 := HN.out; unfold maxLen; omega)
    obtain ⟨j0, hj0, hy0, hy1, hy2⟩ := info_parts word_info
    go_wp2_with (at_builtin; refine wpList_append_own _ rfl _ _ 26 rfl w.heap.size 32 j0 (.int .u64 0) 1 8 Try.underlying26 hj0 hy0 hy1 hy2 rfl (by decide) _ _ _ rfl (World.ownsRow.alloc (O1b.out) _) ⟨w1.heap.size, 0, none⟩ 1 1 [.int .u64 g] rfl rfl (one_new w1 g) (one_oc g) HLK.out.1 HLK.out.2 (Nat.le_trans (B1.out).size (by simp)) ?_)
    intro v9 w2 hown9 hgrow9 _
    have B2 := Lib.hid (((B1.out).alloc (B1.out).size (.cells #[.int .u64 g] 32)).grown hgrow9 (by have h1 := (B1.out).size; simp; omega) (fun k hk => (World.ownsRow.lt (O1b.out) k hk).1))
    have O2 := Lib.hid (show w2.ownsRow w.heap.size 32 1 v9 (1) ((L ++ [g]).map (Value.int .u64)) from by rw [List.map_append]; exact hown9)
    clear hown9 hgrow9 j0 hj0 hy0 hy1 hy2
    have hln : (L ++ [g]).length = 1 := by rw [List.length_append, HN.out]; rfl
    obtain ⟨b9, c9, hv9, hb9, hl9⟩ : ∃ b9 c9, v9 = .slice (some ⟨b9, 0, none⟩) (1) c9 ∧ w.heap.size ≤ b9 ∧ 1 ≤ c9 := by
      rcases O2.out.2 with ⟨_, h0⟩ | ⟨g9, cap, cur, h9, hb, hh, hnc, _⟩
      · omega
      · exact ⟨g9, cap, h9, hb, hnc⟩
    subst hv9
    have HC9 := Lib.hid (show ∀ i : Nat, i < 1 → w2.cell? ⟨b9, i, none⟩ = some (.int .u64 (nth (L ++ [g]) i)) from fun i hi => by
      have h1 := World.ownsRow.cells O2.out (g := b9) rfl i (.int .u64 (nth (L ++ [g]) i)) (by
        rw [List.getElem?_map, List.getElem?_eq_getElem (by omega)]
        unfold nth
        rw [List.getD_eq_getElem?_getD, List.getElem?_eq_getElem (by omega)]
        rfl)
      rw [Addr.add_lit, Nat.zero_add] at h1
      exact h1)
    have HLN := Lib.hid hln
    have HB9 := Lib.hid (show w.heap.size ≤ b9 ∧ b9 < w2.heap.size ∧ 1 ≤ c9 from ⟨hb9, (World.ownsRow.lt O2.out b9 rfl).2, hl9⟩)
    have HPF := Lib.hid (show pushF L g room = if ((1 : Nat) : Int) > room then (L ++ [g]).drop 1 else L ++ [g] from by unfold pushF; rw [hln])
    have HQ9 := Lib.hid (show QI w2 (lamN lam w.heap.size 3) (some ⟨b9, 0, none⟩) c9 (L ++ [g]) from .inr ⟨b9, 0, rfl, HB9.out.2.1, lamN_ge HB9.out.1, fun i hi => by
      rw [Nat.zero_add]
      exact HC9.out i (by rw [hln] at hi; exact hi)⟩)
    clear hb9 hl9 O2 hln
    by_cases hgt : ((1 : Nat) : Int) > room
    · have k1 : decide (((1 : Nat) : Int) > room) = true := decide_eq_true hgt
      have k2 : decide (room < ((1 : Nat) : Int)) = true := decide_eq_true hgt
      have k3 : decide ((0 : Int) + 1 > room) = true := decide_eq_true (by omega)
      have k4 : decide (room < (1 : Int)) = true := decide_eq_true (by omega)
      have hpf := HPF.out
      rw [if_pos hgt] at hpf
      have HP2 := Lib.hid hpf
      clear hpf
      have kk : (1 : Int) ≤ ((1 : Nat) : Int) := by omega
      have kk2 : 1 ≤ 1 := by omega
      have kk3 : 1 ≤ c9 := HB9.out.2.2
      obtain ⟨b8, o8, e8, hq8, _⟩ := HQ9.out.tail (by rw [HLN.out]; omega) (by rw [HLN.out]; exact HB9.out.2.2)
      simp only [Option.some.injEq, Addr.mk.injEq, and_true] at e8
      obtain ⟨rfl, rfl⟩ := e8
      have HQ8 := Lib.hid hq8
      clear hq8
      by_cases hc1 : c9 = 1
      · subst hc1
        have hq8 := HQ8.out
        rw [if_pos rfl] at hq8
        have HQ7 := Lib.hid hq8
        clear hq8 hgt
        go_wp2_with fail
        go_ret
        refine ⟨_, _, _, rfl, ?_, by have h9 := HB9.out.2.2; omega, ?_, B2.out⟩
        · rw [HP2.out, List.length_drop, HLN.out]
          try (first | rfl | omega)
        · rw [HP2.out]
          exact HQ7.out
      · have hq8 := HQ8.out
        rw [if_neg hc1, Nat.zero_add] at hq8
        have HQ7 := Lib.hid hq8
        clear hq8 hgt
        go_wp2_with fail
        go_ret
        refine ⟨_, _, _, rfl, ?_, by have h9 := HB9.out.2.2; omega, ?_, B2.out⟩
        · rw [HP2.out, List.length_drop, HLN.out]
          try (first | rfl | omega)
        · rw [HP2.out]
          exact HQ7.out
    · have k1 : decide (((1 : Nat) : Int) > room) = false := decide_eq_false hgt
      have k2 : decide (room < ((1 : Nat) : Int)) = false := decide_eq_false hgt
      have k3 : decide ((0 : Int) + 1 > room) = false := decide_eq_false (by omega)
      have k4 : decide (room < (1 : Int)) = false := decide_eq_false (by omega)
      have hpf := HPF.out
      rw [if_neg hgt] at hpf
      have HP2 := Lib.hid hpf
      clear hgt hpf
      go_wp2_with fail
      go_ret
      refine ⟨_, _, _, rfl, ?_, by have h9 := HB9.out.2.2; omega, ?_, B2.out⟩
      · rw [HP2.out, HLN.out]
      · rw [HP2.out]
        exact HQ9.out
  · have HC := Lib.hid hc
    clear hn hl hg hr hc hm HAPP
    go_enter Try.func21, Try.ntmps21
    go_wp2_with (at_builtin; refine wpList_append_own _ rfl _ _ 26 rfl w.heap.size 32 i0 (.int .u64 0) 1 8 Try.underlying26 hi0 hz0 hz1 hz2 rfl (by decide) _ _ _ rfl (World.ownsRow_made w #[] 0 (Nat.le_refl _) (Nat.zero_le _) rfl) ⟨b, o, none⟩ n c (L.map (Value.int .u64)) rfl ?qc1 ?qc2 (words_one L) ?qc4 ?qc5 ?qc6 ?_)
    case qc1 => simp [HN.out]
    case qc2 =>
      intro j u hj
      refine Lib.cell?_alloc_some _ ?_
      have hjn : j < L.length := by have := (List.getElem?_eq_some_iff.1 hj).1; simpa using this
      rw [Addr.add_lit, HC.out j hjn]
      rw [List.getElem?_map, List.getElem?_eq_getElem hjn] at hj
      simp only [Option.map_some, Option.some.injEq] at hj
      rw [← hj]
      unfold nth
      rw [List.getD_eq_getElem?_getD, List.getElem?_eq_getElem hjn]
      rfl
    case qc4 => have h1 := HL.out; have h2 := HN.out; unfold maxLen; omega
    case qc5 => have h1 := HL.out; have h2 := HN.out; omega
    case qc6 => simp
    intro v8 w1 hown hgrow _
    obtain ⟨hown2, hbl⟩ := made_own12 (t := 26) hown hgrow
    have O1 := Lib.hid (show w1.ownsRow w.heap.size 32 1 v8 n (L.map (Value.int .u64)) from by simpa using hown2)
    have B1 := Lib.hid hbl
    clear hown hgrow hown2 hbl HC i0 hi0 hz0 hz1 hz2
    obtain ⟨va, vc, hvf⟩ := own_form O1.out
    subst hvf
    have HLK := Lib.hid (show n + 1 ≤ maxLen ∧ (n + 1) * 8 ≤ 140737488355328 from by have h1 := HL.out; have h2 := HN.out; unfold maxLen; omega)
    obtain ⟨j0, hj0, hy0, hy1, hy2⟩ := info_parts word_info
    go_wp2_with (at_builtin; refine wpList_append_own _ rfl _ _ 26 rfl w.heap.size 32 j0 (.int .u64 0) 1 8 Try.underlying26 hj0 hy0 hy1 hy2 rfl (by decide) _ _ _ rfl (World.ownsRow.alloc (O1.out) _) ⟨w1.heap.size, 0, none⟩ 1 1 [.int .u64 g] rfl rfl (one_new w1 g) (one_oc g) HLK.out.1 HLK.out.2 (Nat.le_trans (B1.out).size (by simp)) ?_)
    intro v9 w2 hown9 hgrow9 _
    have B2 := Lib.hid (((B1.out).alloc (B1.out).size (.cells #[.int .u64 g] 32)).grown hgrow9 (by have h1 := (B1.out).size; simp; omega) (fun k hk => (World.ownsRow.lt (O1.out) k hk).1))
    have O2 := Lib.hid (show w2.ownsRow w.heap.size 32 1 v9 (n + 1) ((L ++ [g]).map (Value.int .u64)) from by rw [List.map_append]; exact hown9)
    clear hown9 hgrow9 j0 hj0 hy0 hy1 hy2
    have hln : (L ++ [g]).length = n + 1 := by rw [List.length_append, HN.out]; rfl
    obtain ⟨b9, c9, hv9, hb9, hl9⟩ : ∃ b9 c9, v9 = .slice (some ⟨b9, 0, none⟩) (n + 1) c9 ∧ w.heap.size ≤ b9 ∧ n + 1 ≤ c9 := by
      rcases O2.out.2 with ⟨_, h0⟩ | ⟨g9, cap, cur, h9, hb, hh, hnc, _⟩
      · omega
      · exact ⟨g9, cap, h9, hb, hnc⟩
    subst hv9
    have HC9 := Lib.hid (show ∀ i : Nat, i < n + 1 → w2.cell? ⟨b9, i, none⟩ = some (.int .u64 (nth (L ++ [g]) i)) from fun i hi => by
      have h1 := World.ownsRow.cells O2.out (g := b9) rfl i (.int .u64 (nth (L ++ [g]) i)) (by
        rw [List.getElem?_map, List.getElem?_eq_getElem (by omega)]
        unfold nth
        rw [List.getD_eq_getElem?_getD, List.getElem?_eq_getElem (by omega)]
        rfl)
      rw [Addr.add_lit, Nat.zero_add] at h1
      exact h1)
    have HLN := Lib.hid hln
    have HB9 := Lib.hid (show w.heap.size ≤ b9 ∧ b9 < w2.heap.size ∧ n + 1 ≤ c9 from ⟨hb9, (World.ownsRow.lt O2.out b9 rfl).2, hl9⟩)
    have HPF := Lib.hid (show pushF L g room = if ((n + 1 : Nat) : Int) > room then (L ++ [g]).drop 1 else L ++ [g] from by unfold pushF; rw [hln])
    have HQ9 := Lib.hid (show QI w2 (lamN lam w.heap.size 3) (some ⟨b9, 0, none⟩) c9 (L ++ [g]) from .inr ⟨b9, 0, rfl, HB9.out.2.1, lamN_ge HB9.out.1, fun i hi => by
      rw [Nat.zero_add]
      exact HC9.out i (by rw [hln] at hi; exact hi)⟩)
    clear hb9 hl9 O2 hln
    by_cases hgt : ((n + 1 : Nat) : Int) > room
    · have k1 : decide (((n + 1 : Nat) : Int) > room) = true := decide_eq_true hgt
      have k2 : decide (room < ((n + 1 : Nat) : Int)) = true := decide_eq_true hgt
      have k3 : decide ((n : Int) + 1 > room) = true := decide_eq_true (by omega)

      have hpf := HPF.out
      rw [if_pos hgt] at hpf
      have HP2 := Lib.hid hpf
      clear hpf
      have kk : (1 : Int) ≤ ((n + 1 : Nat) : Int) := by omega
      have kk2 : 1 ≤ n + 1 := by omega
      have kk3 : n + 1 ≤ c9 := HB9.out.2.2
      obtain ⟨b8, o8, e8, hq8, _⟩ := HQ9.out.tail (by rw [HLN.out]; omega) (by rw [HLN.out]; exact HB9.out.2.2)
      simp only [Option.some.injEq, Addr.mk.injEq, and_true] at e8
      obtain ⟨rfl, rfl⟩ := e8
      have HQ8 := Lib.hid hq8
      clear hq8
      by_cases hc1 : c9 = 1
      · subst hc1
        have hq8 := HQ8.out
        rw [if_pos rfl] at hq8
        have HQ7 := Lib.hid hq8
        clear hq8 hgt
        go_wp2_with fail
        go_ret
        refine ⟨_, _, _, rfl, ?_, by have h9 := HB9.out.2.2; omega, ?_, B2.out⟩
        · rw [HP2.out, List.length_drop, HLN.out]
          try (first | rfl | omega)
        · rw [HP2.out]
          exact HQ7.out
      · have hq8 := HQ8.out
        rw [if_neg hc1, Nat.zero_add] at hq8
        have HQ7 := Lib.hid hq8
        clear hq8 hgt
        go_wp2_with fail
        go_ret
        refine ⟨_, _, _, rfl, ?_, by have h9 := HB9.out.2.2; omega, ?_, B2.out⟩
        · rw [HP2.out, List.length_drop, HLN.out]
          try (first | rfl | omega)
        · rw [HP2.out]
          exact HQ7.out
    · have k1 : decide (((n + 1 : Nat) : Int) > room) = false := decide_eq_false hgt
      have k2 : decide (room < ((n + 1 : Nat) : Int)) = false := decide_eq_false hgt
      have k3 : decide ((n : Int) + 1 > room) = false := decide_eq_false (by omega)

      have hpf := HPF.out
      rw [if_neg hgt] at hpf
      have HP2 := Lib.hid hpf
      clear hgt hpf
      go_wp2_with fail
      go_ret
      refine ⟨_, _, _, rfl, ?_, by have h9 := HB9.out.2.2; omega, ?_, B2.out⟩
      · rw [HP2.out, HLN.out]
      · rw [HP2.out]
        exact HQ9.out
set_option maxRecDepth 100000 in
set_option maxHeartbeats 16000000 in
theorem told_any (lam : Nat → Nat) (v1 : Value) (l : Nat → Queue.Sub) (gs : List Int) (A : Nat → Option Addr) (c : Nat → Nat) (k gen : Int) (w : World) (hl : Queue.Subs w v1 4 l) (hq : ∀ j, j < 4 → QI w lam (A j) (c j) (qOf (l j).cur (nth gs j)))
    (hk : best l gs 4 < 0 → k = -1 ∧ gen = 0) (hg : ¬ best l gs 4 < 0 → k = best l gs 4 ∧ gen = (Queue.seen (l (best l gs 4).toNat).cur (nth gs (best l gs 4).toNat)).next) :
    Calls Try.prog 23 #[v1, .agg #[.slice (A 0) (qOf (l 0).cur (nth gs 0)).length (c 0), .slice (A 1) (qOf (l 1).cur (nth gs 1)).length (c 1), .slice (A 2) (qOf (l 2).cur (nth gs 2)).length (c 2), .slice (A 3) (qOf (l 3).cur (nth gs 3)).length (c 3)], .int .i64 k, .int .u64 gen] w fun e w' => e = .returned (.bool true) ∧ Below w.heap.size w w' := by
  obtain ⟨A1, d1, rfl, _, hgs⟩ := hl.form
  obtain ⟨b, off, rfl, hb1, hcs⟩ := hgs (by decide)
  have HRK := Lib.hid (show ∀ W, Below w.heap.size w W → ∀ i, i < 4 → W.cell? ⟨b, off + i * 6 + 1, none⟩ = some (.int .i64 (l i).rank) from fun W hW i hi => (hW.cell (p := ⟨b, _, none⟩) hb1).trans (hcs i hi).2.1)
  have HQ := Lib.hid hq
  obtain ⟨nl, hnl⟩ : ∃ nl : Nat → Nat, (fun j => (qOf (l j).cur (nth gs j)).length) = nl := ⟨_, rfl⟩
  have HNL := Lib.hid (show ∀ j, (qOf (l j).cur (nth gs j)).length = nl j from fun j => by rw [← hnl])
  have HK := Lib.hid hk
  have HG := Lib.hid hg
  clear hl hgs hcs hb1 hq hk hg
  have e4 : (#[.slice (A 0) (qOf (l 0).cur (nth gs 0)).length (c 0), .slice (A 1) (qOf (l 1).cur (nth gs 1)).length (c 1), .slice (A 2) (qOf (l 2).cur (nth gs 2)).length (c 2), .slice (A 3) (qOf (l 3).cur (nth gs 3)).length (c 3)] : Array Value) = #[.slice (A 0) (nl 0) (c 0), .slice (A 1) (nl 1) (c 1), .slice (A 2) (nl 2) (c 2), .slice (A 3) (nl 3) (c 3)] := by rw [HNL.out, HNL.out, HNL.out, HNL.out]
  rw [e4]
  clear e4 hnl
  have hn := Blk.new w 62 #[.slice (A 0) (nl 0) (c 0), .slice (A 1) (nl 1) (c 1), .slice (A 2) (nl 2) (c 2), .slice (A 3) (nl 3) (c 3)]
  have hbl := (Below.refl w.heap.size w).alloc (Nat.le_refl _) (.cells #[.slice (A 0) (nl 0) (c 0), .slice (A 1) (nl 1) (c 1), .slice (A 2) (nl 2) (c 2), .slice (A 3) (nl 3) (c 3)] 62)
  go_enter Try.func23, Try.ntmps23
  go_upto_region 1 with fail
  obtain ⟨qb, hqb⟩ : ∃ qb, w.heap.size = qb := ⟨_, rfl⟩
  simp only [hqb] at hn ⊢
  clear hqb
  generalize w.alloc (.cells #[.slice (A 0) (nl 0) (c 0), .slice (A 1) (nl 1) (c 1), .slice (A 2) (nl 2) (c 2), .slice (A 3) (nl 3) (c 3)] 62) = w1 at *
  have B1 := Lib.hid hn
  have L1 := Lib.hid hbl
  have HB := Lib.hid (show ∀ (W : World) (hW : Below w1.heap.size w1 W) (i : Nat), i < 4 → W.cell? ⟨qb, i, none⟩ = some (.slice (A i) (nl i) (c i)) from fun W hW i hi => by
    have h := (B1.out.bl hW).cell i
    rcases (show i = 0 ∨ i = 1 ∨ i = 2 ∨ i = 3 by omega) with rfl | rfl | rfl | rfl <;> exact h)
  clear hn hbl
  go_wp2_with fail
  have V0 := Lib.hid (Below.refl w1.heap.size w1)
  go_loopw [9, 10] (fun s9 s10 wr => ∃ i : Nat, i ≤ 4 ∧ s10 = .int .i64 i ∧ s9 = .int .i64 (best l gs i) ∧ Below w1.heap.size w1 wr) (fun s9 s10 _ => 4 - (intOf s10).toNat)
  case atStart => exact ⟨0, by omega, rfl, rfl, V0.out⟩
  case round =>
    clear V0
    obtain ⟨i, hi, rfl, rfl, hv⟩ := hrel
    have V1 := Lib.hid hv
    clear hv
    by_cases hlt : i < 4
    · have kd : decide ((i : Int) < 4) = true := decide_eq_true (by omega)
      have kd2 : decide (i < 4) = true := decide_eq_true hlt
      have ki0 : (0 : Int) ≤ (i : Int) := by omega
      have ki1 : (i : Int) < 4 := by omega
      have HI := Lib.hid hlt
      have HM := Lib.hid (turn_no i 4 hlt (by decide))
      clear hi hlt
      go_upto_region 5 with fail
      clear kd kd2
      have VD := Lib.hid V1.out.drew
      have hne : Nonempty (Held (fun W => W = wr.drew)) := ⟨⟨_, rfl⟩⟩
      have p0 : ∀ y : Held (fun W => W = wr.drew), y.w.cell? ⟨qb, i, none⟩ = some (.slice (A i) (nl i) (c i)) := fun y => by rw [y.ok]; exact HB.out _ VD.out i HI.out
      have p1 : ∀ y : Held (fun W => W = wr.drew), y.w.cell? ⟨b, off + i * 6 + 1, none⟩ = some (.int .i64 (l i).rank) := fun y => by rw [y.ok]; exact HRK.out _ (bl L1.out VD.out) i HI.out
      have hstep := best_succ l gs i
      have hlen := qOf_len (l i).cur (nth gs i)
      rw [HNL.out] at hlen
      have hbr := best_lt l gs i
      obtain ⟨bx, hbx⟩ : ∃ bx, best l gs i = bx := ⟨_, rfl⟩
      rw [hbx] at hstep hbr ⊢
      clear hbx
      obtain ⟨ri, hri⟩ : ∃ ri, (l i).rank = ri := ⟨_, rfl⟩
      rw [hri] at hstep p1
      obtain ⟨ni, hni⟩ : ∃ ni, nl i = ni := ⟨_, rfl⟩
      rw [hni] at hlen p0
      clear hri hni
      by_cases h0 : ni = 0
      · have kz : decide ((ni : Int) > 0) = false := decide_eq_false (by omega)
        have kz2 : decide (0 < (ni : Int)) = false := decide_eq_false (by omega)
        have kz3 : decide (0 < ni) = false := decide_eq_false (by omega)
        have HS := Lib.hid (show best l gs (i + 1) = bx from by rw [hstep, if_pos (hlen.1 h0)])
        clear hstep hlen hbr h0
        refine drawn_bars (S := fun _ => True) [] [0, 1, 2, 3, 4, 5, 6, 7, 8, 9, 10, 11, 12, 13, 14, 15, 16, 17, 18, 19, 20, 21] (by kernel_rfl) (by kernel_rfl) (by kernel_rfl) rfl trivial ?_
        refine Phased.end_ ?_
        simp only [pick, List.map_cons, List.map_nil, List.getElem?_cons_zero, List.getElem?_cons_succ, Option.getD_some]
        repeat (go_big_quiet_step (fail))
        refine wpQuiet_nil ?_
        clear hne p0 p1 kz kz2 kz3
        generalize wr.drew = wy at *
        go_wp2_with fail
        go_roundw
        case rel => exact ⟨i + 1, HI.out, by go_num, by rw [HS.out], VD.out⟩
        case measure => have := HI.out; simp [intOf]; omega

      have kz : decide ((ni : Int) > 0) = true := decide_eq_true (by omega)
      have kz2 : decide (0 < (ni : Int)) = true := decide_eq_true (by omega)
      have kz3 : decide (0 < ni) = true := decide_eq_true (by omega)
      rw [if_neg (fun h => h0 (hlen.2 h))] at hstep
      clear hlen h0
      by_cases hb0 : bx < 0
      · have kb : decide (bx < 0) = true := decide_eq_true hb0
        have HS := Lib.hid (show best l gs (i + 1) = (i : Int) from by rw [hstep, if_neg (by omega)])
        clear hstep hbr hb0
        refine drawn_bars (S := fun _ => True) [] [0, 1, 2, 3, 4, 5, 6, 7, 8, 9, 10, 11, 12, 13, 14, 15, 16, 17, 18, 19, 20, 21] (by kernel_rfl) (by kernel_rfl) (by kernel_rfl) rfl trivial ?_
        refine Phased.end_ ?_
        simp only [pick, List.map_cons, List.map_nil, List.getElem?_cons_zero, List.getElem?_cons_succ, Option.getD_some]
        repeat (go_big_quiet_step (fail))
        refine wpQuiet_nil ?_
        clear hne p0 p1 kz kz2 kz3 kb
        generalize wr.drew = wy at *
        go_wp2_with fail
        go_roundw
        case rel => exact ⟨i + 1, HI.out, by go_num, by rw [HS.out], VD.out⟩
        case measure => have := HI.out; simp [intOf]; omega

      have kb : decide (bx < 0) = false := decide_eq_false hb0
      obtain ⟨k, rfl⟩ : ∃ k : Nat, bx = (k : Int) := ⟨bx.toNat, (Int.toNat_of_nonneg (by omega)).symm⟩
      rw [Int.toNat_natCast] at hstep
      have hk4 : k < 4 := by have := HI.out; omega
      have kk0 : (0 : Int) ≤ (k : Int) := by omega
      have kk1 : (k : Int) < 4 := by omega
      have p2 : ∀ y : Held (fun W => W = wr.drew), y.w.cell? ⟨b, off + k * 6 + 1, none⟩ = some (.int .i64 (l k).rank) := fun y => by rw [y.ok]; exact HRK.out _ (bl L1.out VD.out) k hk4
      obtain ⟨rk, hrk⟩ : ∃ rk, (l k).rank = rk := ⟨_, rfl⟩
      rw [hrk] at hstep p2
      clear hrk hk4 hb0 hbr
      by_cases hr : ri > rk
      · have kr : decide (ri > rk) = true := decide_eq_true hr
        have kr2 : decide (rk < ri) = true := decide_eq_true hr
        have HS := Lib.hid (show best l gs (i + 1) = (i : Int) from by rw [hstep, if_neg (by omega)])
        clear hstep hr
        refine drawn_bars (S := fun _ => True) [] [0, 1, 2, 3, 4, 5, 6, 7, 8, 9, 10, 11, 12, 13, 14, 15, 16, 17, 18, 19, 20, 21] (by kernel_rfl) (by kernel_rfl) (by kernel_rfl) rfl trivial ?_
        refine Phased.end_ ?_
        simp only [pick, List.map_cons, List.map_nil, List.getElem?_cons_zero, List.getElem?_cons_succ, Option.getD_some]
        repeat (go_big_quiet_step (fail))
        refine wpQuiet_nil ?_
        clear hne p0 p1 kz kz2 kz3 kb kr kr2 p2
        generalize wr.drew = wy at *
        go_wp2_with fail
        go_roundw
        case rel => exact ⟨i + 1, HI.out, by go_num, by rw [HS.out], VD.out⟩
        case measure => have := HI.out; simp [intOf]; omega

      have kr : decide (ri > rk) = false := decide_eq_false hr
      have kr2 : decide (rk < ri) = false := decide_eq_false hr
      have HS := Lib.hid (show best l gs (i + 1) = (k : Int) from by rw [hstep, if_pos ⟨kk0, by omega⟩])
      clear hstep hr
      refine drawn_bars (S := fun _ => True) [] [0, 1, 2, 3, 4, 5, 6, 7, 8, 9, 10, 11, 12, 13, 14, 15, 16, 17, 18, 19, 20, 21] (by kernel_rfl) (by kernel_rfl) (by kernel_rfl) rfl trivial ?_
      refine Phased.end_ ?_
      simp only [pick, List.map_cons, List.map_nil, List.getElem?_cons_zero, List.getElem?_cons_succ, Option.getD_some]
      repeat (go_big_quiet_step (fail))
      refine wpQuiet_nil ?_
      clear hne p0 p1 kz kz2 kz3 kb kr kr2 p2
      generalize wr.drew = wy at *
      go_wp2_with fail
      go_roundw
      case rel => exact ⟨i + 1, HI.out, by go_num, by rw [HS.out], VD.out⟩
      case measure => have := HI.out; simp [intOf]; omega
    · obtain rfl : i = 4 := by omega
      have kd : decide (((4 : Nat) : Int) < 4) = false := by decide
      have kd2 : decide ((4 : Int) < 4) = false := by decide
      clear hi hlt
      have hbr := best_lt l gs 4
      have hlen := qOf_len (l (best l gs 4).toNat).cur (nth gs (best l gs 4).toNat)
      have hhas := best_has l gs 4
      have hk := HK.out
      have hg := HG.out
      obtain ⟨bx, hbx⟩ : ∃ bx, best l gs 4 = bx := ⟨_, rfl⟩
      rw [hbx] at hbr hlen hhas hk hg ⊢
      clear hbx
      by_cases hz : bx < 0
      · have kz : decide (bx < 0) = true := decide_eq_true hz
        obtain ⟨h1, h2⟩ := hk hz
        subst h1
        subst h2
        have k1 : ((-1 : Int) == -1) = true := rfl
        have k2 : ((0 : Int) == 0) = true := rfl
        clear hz hbr hlen hhas hg hk
        go_wp2_with fail
        go_ret
        exact ⟨rfl, bl L1.out V1.out⟩
      have kz : decide (bx < 0) = false := decide_eq_false hz
      obtain ⟨h1, h2⟩ := hg (by omega)
      obtain ⟨k9, rfl⟩ : ∃ k : Nat, bx = (k : Int) := ⟨bx.toNat, (Int.toNat_of_nonneg (by omega)).symm⟩
      rw [Int.toNat_natCast] at h2 hhas
      have hk4 : k9 < 4 := by omega
      have hhd := qOf_head (hhas (by omega))
      have hln := (not_congr (qOf_len (l k9).cur (nth gs k9))).2 (hhas (by omega))
      rw [HNL.out] at hln
      subst h1
      have hq := HQ.out k9 hk4
      rcases hq with ⟨_, _, h9⟩ | ⟨bq, oq, hA, hbq, _, hcq⟩
      · rw [← HNL.out, h9] at hln
        simp at hln
      have x0 := HB.out wr V1.out k9 hk4
      rw [hA] at x0
      have x1 : wr.cell? ⟨bq, oq, none⟩ = some (.int .u64 gen) := by
        have h8 := hcq 0 (by rw [HNL.out]; omega)
        rw [Nat.add_zero, hhd, ← h2] at h8
        exact ((bl L1.out V1.out).cell (p := ⟨bq, oq, none⟩) hbq).trans h8
      obtain ⟨ni, hni⟩ : ∃ ni, nl k9 = ni := ⟨_, rfl⟩
      rw [hni] at x0 hln
      have kk0 : (0 : Int) ≤ (k9 : Int) := by omega
      have kk1 : (k9 : Int) < 4 := by omega
      have kn : (0 : Int) < (ni : Int) := by omega
      have kn2 : 0 < ni := by omega
      have k1 : ((k9 : Int) == (k9 : Int)) = true := beq_self_eq_true _
      have k2 : (gen == gen) = true := beq_self_eq_true _
      clear hz hbr hlen hhas hg hk h2 hhd hln hA hbq hcq hni
      go_wp2_with fail
      go_ret
      exact ⟨rfl, bl L1.out V1.out⟩
end Go.Proofs.Ythcaagkgddeabaa.Bank
