/-
  The document's snapshot beside the program's: one pure state for both; its step keeps to the same function. Conditions stand at each. By an AI agent.
-/
import Derived.Test.YtjdalllfnlpmnaaSnV
import Derived.Test.YtjdalllfnlpmnaaSnEb
import Derived.Test.YtjdalllfnlpmnaaSnEc
namespace Go.Proofs.Ytjdalllfnlpmnaa.Bank
set_option linter.unusedVariables false
set_option linter.unusedSimpArgs false
open Go Go.RowKit Go.Proofs.Ytjdalllfnlpmnaa.Base
theorem findT_eq {l : Nat → Spot} : ∀ {n i : Nat} {q : Int}, allR l n = true → i < n → widthF l i ≤ q → q < widthF l (i + 1) → findT l n q = i
  | 0, i, q, _, h, _, _ => absurd h (by omega)
  | k + 1, i, q, hr, hi, h0, h1 => by
    have hrk : allR l k = true := by
      rw [allR_iff] at hr ⊢
      exact fun i hi => hr i (by omega)
    unfold findT
    by_cases e : i = k
    · subst e; rw [if_pos h0]
    · have hm := widthF_mono hr (show i + 1 ≤ k by omega) (by omega)
      rw [if_neg (by omega)]
      exact findT_eq hrk (by omega) h0 h1
theorem take_set_succ (L : List Int) (j : Nat) (v : Int) (h : j < L.length) : (L.set j v).take (j + 1) = L.take j ++ [v] := by
  rw [List.take_add_one, List.take_set_of_le (by omega)]
  simp [h]
/-- the generations that were taken lie in a block of their own, from B on -/
def GensAt (w : World) (B base n : Nat) (vg : Value) (gl : List Int) : Prop := ∃ qg cg, vg = .slice (some ⟨qg, 0, none⟩) n cg ∧ B ≤ qg ∧ qg < base ∧ IntsIn w .u64 qg cg gl
theorem GensAt.ex {T : Nat → Prop} {w w' : World} {B base n : Nat} {vg : Value} {gl : List Int} (h : GensAt w B base n vg gl) (p : Ex T w w') (hT : ∀ k, T k → k < B ∨ base ≤ k) : GensAt w' B base n vg gl := by
  obtain ⟨qg, cg, e, h1, h2, h3⟩ := h
  exact ⟨qg, cg, e, h1, h2, h3.ex p (fun ht => by have := hT qg ht; omega)⟩
structure RRel (w : World) (B base : Nat) (l : Nat → Spot) (n m : Nat) (x : SX) (nx kk N : Int) (vg vw : Value) : Prop where
  one : x.how = 0 → x.k < n → nx = 1 ∧ kk = x.k ∧ (0 < x.k → OwnR w base vg (x.gl.take x.k.toNat) ∧ vw = .slice none 0 0)
  two : x.how = 0 → (n : Int) ≤ x.k → x.k < (n : Int) + (m : Int) → nx = 2 ∧ kk = (findT l n (x.k - n) : Nat) ∧ N = x.k - n - widthF l (findT l n (x.k - n)) ∧ GensAt w B base n vg x.gl ∧ OwnR w base vw (x.wl.take (x.k - n).toNat)
  three : x.how = 0 → (n : Int) + (m : Int) ≤ x.k → nx = 3 ∧ kk = x.k - n - m ∧ GensAt w B base n vg x.gl ∧ OwnR w base vw x.wl
  done : x.how = 1 → GensAt w B base n vg x.gl ∧ OwnR w base vw x.wl
/-- the document's snapshot in memory, at the program's state x -/
def RX (w : World) (B f rl n cl m : Nat) (l : Nat → Spot) (T : Int) (x : SX) : Prop :=
  ∃ (base : Nat) (nx kk N : Int) (vg vw : Value), Blk w f 49 (rcs rl n cl T nx kk N (T - x.tries) vg vw x.begun x.how x.steps) ∧ B ≤ base ∧ base ≤ w.heap.size ∧ RRel w B base l n m x nx kk N vg vw
theorem RRel.ex {T : Nat → Prop} {w w' : World} {B base : Nat} {l : Nat → Spot} {n m : Nat} {x : SX} {nx kk N : Int} {vg vw : Value} (h : RRel w B base l n m x nx kk N vg vw) (hB : B ≤ base) (p : Ex T w w') (hT : ∀ k, T k → k < B) : RRel w' B base l n m x nx kk N vg vw :=
  ⟨fun a b => ⟨(h.one a b).1, (h.one a b).2.1, fun c => ⟨((h.one a b).2.2 c).1.ex p (fun k hk => Nat.lt_of_lt_of_le (hT k hk) hB), ((h.one a b).2.2 c).2⟩⟩,
   fun a b c => ⟨(h.two a b c).1, (h.two a b c).2.1, (h.two a b c).2.2.1, (h.two a b c).2.2.2.1.ex p (fun k hk => .inl (hT k hk)), (h.two a b c).2.2.2.2.ex p (fun k hk => Nat.lt_of_lt_of_le (hT k hk) hB)⟩,
   fun a b => ⟨(h.three a b).1, (h.three a b).2.1, (h.three a b).2.2.1.ex p (fun k hk => .inl (hT k hk)), (h.three a b).2.2.2.ex p (fun k hk => Nat.lt_of_lt_of_le (hT k hk) hB)⟩,
   fun a => ⟨(h.done a).1.ex p (fun k hk => .inl (hT k hk)), (h.done a).2.ex p (fun k hk => Nat.lt_of_lt_of_le (hT k hk) hB)⟩⟩
theorem RX.ex {T : Nat → Prop} {w w' : World} {B f rl n cl m : Nat} {l : Nat → Spot} {T0 : Int} {x : SX} (h : RX w B f rl n cl m l T0 x) (p : Ex T w w') (hf : ¬ T f) (hT : ∀ k, T k → k < B) : RX w' B f rl n cl m l T0 x := by
  obtain ⟨base, nx, kk, N, vg, vw, h1, h2, h3, h4⟩ := h
  exact ⟨base, nx, kk, N, vg, vw, h1.ex p hf, h2, Nat.le_trans h3 p.size, h4.ex h2 p hT⟩
theorem RX.bl {w w' : World} {B f rl n cl m : Nat} {l : Nat → Spot} {T0 : Int} {x : SX} (h : RX w B f rl n cl m l T0 x) (p : Below w.heap.size w w') : RX w' B f rl n cl m l T0 x :=
  h.ex (T := fun _ => False) (Ex.of_below p) (fun h => h) (fun _ h => h.elim)
def SX.zero (T : Int) (n m : Nat) : SX := ⟨T, 0, 0, 0, 0, zeros n, zeros m⟩
theorem RX.zero {w : World} {B f rl n cl m : Nat} {l : Nat → Spot} {T : Int} (h : Blk w f 49 #[.slice (some ⟨rl, 0, none⟩) n cl, .int .i64 T, .int .i64 1, .int .i64 0, .int .i64 0, .int .i64 0, .slice none 0 0, .slice none 0 0, .int .i64 0, .int .i64 0, .int .i64 0]) (hB : B ≤ w.heap.size) (hn : 1 ≤ n) : RX w B f rl n cl m l T (SX.zero T n m) := by
  refine ⟨w.heap.size, 1, 0, 0, .slice none 0 0, .slice none 0 0, ?_, hB, Nat.le_refl _, ⟨fun _ _ => ⟨rfl, rfl, fun h => absurd h (by show ¬ (0 : Int) < 0; decide)⟩, fun _ h _ => ?_, fun _ h => ?_, fun h => absurd h (by show ¬ (0 : Int) = 1; decide)⟩⟩
  · have e : T - (SX.zero T n m).tries = 0 := Int.sub_self T
    rw [e]
    exact h
  · have h : (n : Int) ≤ 0 := h; omega
  · have h : (n : Int) + (m : Int) ≤ 0 := h; omega
theorem gens_of_own {w : World} {B base n : Nat} {v : Value} {gl : List Int} (h : OwnR w base v gl) (hB : B ≤ base) (hl : gl.length = n) (hn : 1 ≤ n) (h64 : n ≤ 64) : GensAt w B w.heap.size n v gl := by
  have hm : gl.length ≤ maxLen := by unfold maxLen; omega
  obtain ⟨r, c, e, h1, h2⟩ := intsIn_of_own h hm (by intro e; subst e; simp at hl; omega)
  rw [hl] at e
  exact ⟨r, c, e, Nat.le_trans hB h1, h2.lt, h2⟩
theorem nth_fit {gl : List Int} (h : ∀ x ∈ gl, 0 ≤ x ∧ x ≤ 18446744073709551615) (i : Nat) : 0 ≤ nth gl i ∧ nth gl i ≤ 18446744073709551615 := by
  by_cases hi : i < gl.length
  · exact h _ (nth_mem hi)
  · unfold nth
    rw [List.getD_eq_getElem?_getD, List.getElem?_eq_none (by omega)]
    exact ⟨by decide, by decide⟩
set_option maxHeartbeats 2000000 in
theorem RStep_any (B f hb rl n cl m : Nat) (ws : List Int) (l : Nat → Spot) (T : Int) (x : SX) (w : World) (ho : RX w B f rl n cl m l T x) (hs : SpsIn w rl n l) (hr : URow w hb ws)
    (ne : f ≠ hb ∧ hb < B ∧ f < B ∧ rl < B ∧ rl ≠ f) (hi : x.how = 0 → SInv n m l x.tries x.steps x.gl ∧ 0 ≤ x.k ∧ x.k < 2 * (n : Int) + (m : Int)) (hT : x.tries ≤ T ∧ T ≤ 16) (hlen : x.gl.length = n ∧ x.wl.length = m) (hw : ∀ i, 0 ≤ nth ws i ∧ nth ws i ≤ 18446744073709551615) :
    Calls Try.prog 16 #[.pointer (some ⟨f, 0, none⟩), .slice (some ⟨hb, 0, none⟩) ws.length ws.length] w fun e w' => e = .returned (.tuple #[]) ∧ RX w' B f rl n cl m l T (sStepF l n m ws x) ∧ Ex (fun k => k = f ∨ B ≤ k) w w' := by
  obtain ⟨tries, k, begun, steps, how, gl, wl⟩ := x
  obtain ⟨base, nx, kk, N, vg, vw, hb0, hB, hz, hrel⟩ := ho
  simp only at hi hT hlen hb0
  have hmono : ∀ {a b : World}, Ex (fun k => k = f ∨ base ≤ k) a b → Ex (fun k => k = f ∨ B ≤ k) a b := fun p => p.mono (fun k hk => hk.elim .inl (fun h => .inr (Nat.le_trans hB h)))
  by_cases hh : how = 0
  case neg =>
    have es : sStepF l n m ws ⟨tries, k, begun, steps, how, gl, wl⟩ = ⟨tries, k, begun, steps, how, gl, wl⟩ := if_pos hh
    rw [es]
    refine (RS_done f hb rl n cl T nx kk N (T - tries) begun how steps vg vw _ w (by exact hb0) hh).mono ?_
    rintro e w' ⟨rfl, rfl⟩
    exact ⟨rfl, ⟨base, nx, kk, N, vg, vw, hb0, hB, hz, hrel⟩, Ex.refl _ _⟩
  subst hh
  obtain ⟨hv, k0, k1⟩ := hi rfl
  clear hi
  have hn : 1 ≤ n ∧ n ≤ 64 := ⟨hv.n1, hv.n64⟩
  have hm1 : (n : Int) ≤ (m : Int) := by
    have h := hv.width
    have : ∀ j, j ≤ n → (j : Int) ≤ widthF l j := by
      intro j hj
      induction j with
      | zero => exact Int.le_refl _
      | succ j ih => have h1 := widthF_step hv.right (show j < n by omega); have := ih (by omega); omega
    have := this n (Nat.le_refl _)
    omega
  have ne' : f ≠ hb ∧ hb < base ∧ f < base ∧ rl < base ∧ rl ≠ f := by omega
  by_cases h1 : k < n
  · obtain ⟨j, rfl⟩ : ∃ j : Nat, k = j := ⟨k.toNat, by omega⟩
    have hj : j < n := by omega
    have hsr := (allR_iff l n).mp hv.right j hj
    have ea : sAtF l n m ⟨tries, j, begun, steps, 0, gl, wl⟩ = (l j).seq := if_pos h1
    obtain ⟨rfl, rfl, hone⟩ := hrel.one rfl h1
    by_cases hin : inW ws (l j).seq
    case neg =>
      have es : sStepF l n m ws ⟨tries, j, begun, steps, 0, gl, wl⟩ = ⟨tries, j, begun, steps, 3, gl, wl⟩ := by
        unfold sStepF
        rw [ea]
        simp only [ne_eq, not_true_eq_false, if_false, hin, not_false_eq_true, if_true]
      rw [es]
      refine (RS_out1 base f hb rl n cl ws l T N (T - tries) begun steps j vg vw w hb0 hs hr ne' hz hn hv.right hv.st hj hin).mono ?_
      rintro e w' ⟨rfl, hk, hx⟩
      exact ⟨rfl, ⟨base, 1, j, N, vg, vw, hk, hB, Nat.le_trans hz hx.size, ⟨fun h => absurd h (by show ¬ (3 : Int) = 0; decide), fun h => absurd h (by show ¬ (3 : Int) = 0; decide), fun h => absurd h (by show ¬ (3 : Int) = 0; decide), fun h => absurd h (by show ¬ (3 : Int) = 1; decide)⟩⟩, hmono hx⟩
    obtain ⟨q, hq⟩ : ∃ q : Nat, (l j).seq = q := ⟨(l j).seq.toNat, by have := hsr.2.2.2.1; omega⟩
    have hqn : q < ws.length := by have := hin.2; rw [hq] at this; omega
    have hwq : wordF ws (l j).seq = nth ws q := by rw [hq, wordF_nat ws q hqn]
    have htk : (gl.set j (nth ws q / 2)).take (j + 1) = gl.take j ++ [nth ws q / 2] := take_set_succ gl j _ (by omega)
    have hgl : (gl.set j (nth ws q / 2)).length = n := by rw [List.length_set]; exact hlen.1
    by_cases hl : (j : Int) = (n : Int) - 1
    · have es : sStepF l n m ws ⟨tries, j, begun, steps, 0, gl, wl⟩ = ⟨tries, (j : Int) + 1, steps + 1, steps + 1, 0, gl.set j (nth ws q / 2), wl⟩ := by
        unfold sStepF
        rw [ea]
        simp only [ne_eq, not_true_eq_false, if_false, hin, h1, if_pos (show (j : Int) + 1 = (n : Int) by omega), if_true, Int.toNat_natCast, hwq]
      rw [es]
      have hall : (gl.set j (nth ws q / 2)) = gl.take j ++ [nth ws q / 2] := by rw [← htk, List.take_of_length_le (by omega)]
      have close : ∀ w' v', Blk w' f 49 (rcs rl n cl T 2 0 0 (T - tries) v' (.slice none 0 0) (steps + 1) 0 (steps + 1)) → OwnR w' base v' (gl.take j ++ [nth ws q / 2]) → Ex (fun k => k = f ∨ base ≤ k) w w' →
          RX w' B f rl n cl m l T ⟨tries, (j : Int) + 1, steps + 1, steps + 1, 0, gl.set j (nth ws q / 2), wl⟩ := by
        intro w' v' hk hown hx
        rw [← hall] at hown
        have hsz := Nat.le_trans hz hx.size
        have hg := gens_of_own hown hB hgl hn.1 hn.2
        have hf0 : findT l n ((j : Int) + 1 - n) = 0 := findT_eq hv.right (by omega) (by show (0 : Int) ≤ _; omega) (by have := widthF_step hv.right (show 0 < n by omega); have h9 : widthF l 0 = 0 := rfl; omega)
        refine ⟨w'.heap.size, 2, 0, 0, v', .slice none 0 0, hk, Nat.le_trans hB hsz, Nat.le_refl _, ⟨fun _ h => ?_, fun _ _ _ => ⟨rfl, ?_, ?_, hg, ?_⟩, fun _ h => ?_, fun h => absurd h (by show ¬ (0 : Int) = 1; decide)⟩⟩
        · have h : (j : Int) + 1 < n := h; omega
        · show (0 : Int) = ((findT l n ((j : Int) + 1 - n) : Nat) : Int); rw [hf0]; rfl
        · show (0 : Int) = (j : Int) + 1 - n - widthF l (findT l n ((j : Int) + 1 - n)); rw [hf0]; have h9 : widthF l 0 = 0 := rfl; omega
        · show OwnR w' _ _ (wl.take ((j : Int) + 1 - n).toNat)
          rw [show ((j : Int) + 1 - n).toNat = 0 by omega]
          exact OwnR.nil _ _
        · have h : (n : Int) + (m : Int) ≤ (j : Int) + 1 := h; omega
      by_cases hj0 : (j : Int) = 0
      · have ht0 : gl.take j = [] := by rw [show j = 0 by omega]; rfl
        refine (RS_1zl base f hb rl n cl ws l T N (T - tries) begun steps j vg vw w hb0 hs hr ne' hz hn hv.right hv.st hj q hq hqn hl hj0 hw).mono ?_
        rintro e w' ⟨rfl, ⟨v', hk, hown⟩, hx⟩
        exact ⟨rfl, close w' v' hk (by rw [ht0]; exact hown) hx, hmono hx⟩
      · obtain ⟨ho, rfl⟩ := hone (by show (0 : Int) < (j : Int); omega)
        refine (RS_1ml base f hb rl n cl ws l T N (T - tries) begun steps j vg (.slice none 0 0) w hb0 hs hr ne' hz hn hv.right hv.st hj (gl.take j) (by exact ho) (by rw [List.length_take]; omega) q hq hqn hl hj0 hw).mono ?_
        rintro e w' ⟨rfl, ⟨v', hk, hown⟩, hx⟩
        exact ⟨rfl, close w' v' hk hown hx, hmono hx⟩
    · have es : sStepF l n m ws ⟨tries, j, begun, steps, 0, gl, wl⟩ = ⟨tries, (j : Int) + 1, begun, steps + 1, 0, gl.set j (nth ws q / 2), wl⟩ := by
        unfold sStepF
        rw [ea]
        simp only [ne_eq, not_true_eq_false, if_false, hin, h1, if_neg (show ¬ (j : Int) + 1 = (n : Int) by omega), if_true, Int.toNat_natCast, hwq]
      rw [es]
      have close : ∀ w' v', Blk w' f 49 (rcs rl n cl T 1 ((j : Int) + 1) N (T - tries) v' (.slice none 0 0) begun 0 (steps + 1)) → OwnR w' base v' (gl.take j ++ [nth ws q / 2]) → Ex (fun k => k = f ∨ base ≤ k) w w' →
          RX w' B f rl n cl m l T ⟨tries, (j : Int) + 1, begun, steps + 1, 0, gl.set j (nth ws q / 2), wl⟩ := by
        intro w' v' hk hown hx
        refine ⟨base, 1, (j : Int) + 1, N, v', .slice none 0 0, hk, hB, Nat.le_trans hz hx.size, ⟨fun _ _ => ⟨rfl, rfl, fun _ => ⟨?_, rfl⟩⟩, fun _ h _ => ?_, fun _ h => ?_, fun h => absurd h (by show ¬ (0 : Int) = 1; decide)⟩⟩
        · show OwnR w' base v' ((gl.set j (nth ws q / 2)).take ((j : Int) + 1).toNat)
          rw [show ((j : Int) + 1).toNat = j + 1 by omega, htk]
          exact hown
        · have h : (n : Int) ≤ (j : Int) + 1 := h; omega
        · have h : (n : Int) + (m : Int) ≤ (j : Int) + 1 := h; omega
      by_cases hj0 : (j : Int) = 0
      · have ht0 : gl.take j = [] := by rw [show j = 0 by omega]; rfl
        refine (RS_1z base f hb rl n cl ws l T N (T - tries) begun steps j vg vw w hb0 hs hr ne' hz hn hv.right hv.st hj q hq hqn hl hj0 hw).mono ?_
        rintro e w' ⟨rfl, ⟨v', hk, hown⟩, hx⟩
        exact ⟨rfl, close w' v' hk (by rw [ht0]; exact hown) hx, hmono hx⟩
      · obtain ⟨ho, rfl⟩ := hone (by show (0 : Int) < (j : Int); omega)
        refine (RS_1m base f hb rl n cl ws l T N (T - tries) begun steps j vg (.slice none 0 0) w hb0 hs hr ne' hz hn hv.right hv.st hj (gl.take j) (by exact ho) (by rw [List.length_take]; omega) q hq hqn hl hj0 hw).mono ?_
        rintro e w' ⟨rfl, ⟨v', hk, hown⟩, hx⟩
        exact ⟨rfl, close w' v' hk hown hx, hmono hx⟩
  by_cases h2 : k < (n : Int) + (m : Int)
  · obtain ⟨j, rfl⟩ : ∃ j : Nat, k = (n : Int) + (j : Int) := ⟨(k - n).toNat, by omega⟩
    have e0 : (n : Int) + (j : Int) - (n : Int) = (j : Int) := by omega
    have hj : j < m := by omega
    obtain ⟨rfl, rfl, rfl, ⟨qg, cg, rfl, hq1, hq2, hgi⟩, how2⟩ := hrel.two rfl (by show (n : Int) ≤ (n : Int) + (j : Int); omega) h2
    simp only [e0, Int.toNat_natCast] at hb0 how2 hgi
    have hft := findT_in (l := l) (n := n) (q := (j : Int)) (by omega) (by have := hv.width; omega)
    have ea : sAtF l n m ⟨tries, (n : Int) + (j : Int), begun, steps, 0, gl, wl⟩ = atF (l (findT l n (j : Int))) (nth gl (findT l n (j : Int))) + ((j : Int) - widthF l (findT l n (j : Int))) := by
      unfold sAtF sPlace
      simp only [h1, h2, if_false, if_true, e0]
    have hfe : ∀ i, i = findT l n (j : Int) → widthF l i ≤ (j : Int) → (j : Int) < widthF l (i + 1) → True := fun _ _ _ _ => trivial
    generalize hi9 : findT l n (j : Int) = i at *
    obtain ⟨hi1, hi2, hi3⟩ := hft
    have hsr := (allR_iff l n).mp hv.right i hi1
    have hst := widthF_step hv.right hi1
    have hab := atF_bounds (gen := nth gl i) hsr.atOk
    have hae := atF_ok (gen := nth gl i) hsr.atOk
    have hok := hsr.atOk
    have hlw : (wl.take j).length = j := by rw [List.length_take]; omega
    have hmm := hv.m64
    have hNb : 0 ≤ (j : Int) - widthF l i ∧ (j : Int) - widthF l i ≤ 64 := by omega
    have hat : wrap64 (atF (l i) (nth gl i) + ((j : Int) - widthF l i)) = atF (l i) (nth gl i) + ((j : Int) - widthF l i) := wrap64_in _ (by have := hok.2.2; omega)
    by_cases hin : inW ws (atF (l i) (nth gl i) + ((j : Int) - widthF l i))
    case neg =>
      have es : sStepF l n m ws ⟨tries, (n : Int) + (j : Int), begun, steps, 0, gl, wl⟩ = ⟨tries, (n : Int) + (j : Int), begun, steps, 3, gl, wl⟩ := by
        unfold sStepF
        rw [ea]
        simp only [ne_eq, not_true_eq_false, if_false, hin, not_false_eq_true, if_true]
      rw [es]
      refine (RS_out2 base f hb rl n cl ws l T ((j : Int) - widthF l i) (T - tries) begun steps i (.slice (some ⟨qg, 0, none⟩) n cg) vw qg cg gl (wl.take j) w hb0 hs hr ne' hz hn hv.right hv.st hi1 hgi how2 hlen.1 (nth_fit hv.gens) ⟨hq2, by omega⟩ hat hin).mono ?_
      rintro e w' ⟨rfl, hk, hx⟩
      exact ⟨rfl, ⟨base, 2, i, (j : Int) - widthF l i, _, vw, hk, hB, Nat.le_trans hz hx.size, ⟨fun h => absurd h (by show ¬ (3 : Int) = 0; decide), fun h => absurd h (by show ¬ (3 : Int) = 0; decide), fun h => absurd h (by show ¬ (3 : Int) = 0; decide), fun h => absurd h (by show ¬ (3 : Int) = 1; decide)⟩⟩, hmono hx⟩
    obtain ⟨p, hp⟩ : ∃ p : Nat, atF (l i) (nth gl i) + ((j : Int) - widthF l i) = p := ⟨(atF (l i) (nth gl i) + ((j : Int) - widthF l i)).toNat, by have := hin.1; omega⟩
    have hpn : p < ws.length := by have := hin.2; rw [hp] at this; omega
    have hwp : wordF ws (atF (l i) (nth gl i) + ((j : Int) - widthF l i)) = nth ws p := by rw [hp, wordF_nat ws p hpn]
    have es : sStepF l n m ws ⟨tries, (n : Int) + (j : Int), begun, steps, 0, gl, wl⟩ = ⟨tries, (n : Int) + (j : Int) + 1, begun, steps + 1, 0, gl, wl.set j (nth ws p)⟩ := by
      unfold sStepF
      rw [ea]
      simp only [ne_eq, not_true_eq_false, if_false, hin, h1, h2, if_true, e0, Int.toNat_natCast, hwp]
    rw [es]
    have htk : (wl.set j (nth ws p)).take (j + 1) = wl.take j ++ [nth ws p] := take_set_succ wl j _ (by omega)
    have e1 : (n : Int) + (j : Int) + 1 - (n : Int) = (j : Int) + 1 := by omega
    have hat2 : wrap64 (atF (l i) (nth gl i) + ((j : Int) - widthF l i)) = (p : Int) := by rw [hat]; exact hp
    have gens' : ∀ {w' : World}, Ex (fun k => k = f ∨ base ≤ k) w w' → GensAt w' B base n (.slice (some ⟨qg, 0, none⟩) n cg) gl := fun p => ⟨qg, cg, rfl, hq1, hq2, hgi.ex p (fun h => by omega)⟩
    by_cases hfu : (j : Int) - widthF l i + 1 = (l i).words
    · by_cases hl : (i : Int) = (n : Int) - 1
      · have hjm : (j : Int) + 1 = (m : Int) := by
          have h9 := hv.width
          have h8 : widthF l (i + 1) = widthF l n := by rw [show i + 1 = n by omega]
          omega
        refine (RS_2fl base f hb rl n cl ws l T ((j : Int) - widthF l i) (T - tries) begun steps i (.slice (some ⟨qg, 0, none⟩) n cg) vw qg cg gl (wl.take j) w hb0 hs hr ne' hz hn hv.right hv.st hi1 hgi how2 hlen.1 (nth_fit hv.gens) ⟨hq2, by omega⟩ p hat2 hpn (by omega) hfu hl hNb).mono ?_
        rintro e w' ⟨rfl, ⟨v', hk, hown⟩, hx⟩
        refine ⟨rfl, ⟨base, 3, 0, 0, _, v', hk, hB, Nat.le_trans hz hx.size, ⟨fun _ h => ?_, fun _ _ h => ?_, fun _ _ => ⟨rfl, ?_, gens' hx, ?_⟩, fun h => absurd h (by show ¬ (0 : Int) = 1; decide)⟩⟩, hmono hx⟩
        · have h : (n : Int) + (j : Int) + 1 < n := h; omega
        · have h : (n : Int) + (j : Int) + 1 < (n : Int) + (m : Int) := h; omega
        · show (0 : Int) = (n : Int) + (j : Int) + 1 - n - m; omega
        · show OwnR w' base v' (wl.set j (nth ws p))
          rw [← htk, List.take_of_length_le (by rw [List.length_set]; omega)] at hown
          exact hown
      · have hf9 : findT l n ((j : Int) + 1) = i + 1 := findT_eq hv.right (by omega) (by omega) (by have := widthF_step hv.right (show i + 1 < n by omega); omega)
        refine (RS_2f base f hb rl n cl ws l T ((j : Int) - widthF l i) (T - tries) begun steps i (.slice (some ⟨qg, 0, none⟩) n cg) vw qg cg gl (wl.take j) w hb0 hs hr ne' hz hn hv.right hv.st hi1 hgi how2 hlen.1 (nth_fit hv.gens) ⟨hq2, by omega⟩ p hat2 hpn (by omega) hfu hl hNb).mono ?_
        rintro e w' ⟨rfl, ⟨v', hk, hown⟩, hx⟩
        have hjm : (j : Int) + 1 < (m : Int) := by
          have h9 := hv.width
          have h8 := widthF_step hv.right (show i + 1 < n by omega)
          have h7 := widthF_mono hv.right (show i + 2 ≤ n by omega) (Nat.le_refl _)
          have h6 : widthF l (i + 1 + 1) = widthF l (i + 2) := rfl
          omega
        refine ⟨rfl, ⟨base, 2, (i : Int) + 1, 0, _, v', hk, hB, Nat.le_trans hz hx.size, ⟨fun _ h => ?_, fun _ _ _ => ⟨rfl, ?_, ?_, gens' hx, ?_⟩, fun _ h => ?_, fun h => absurd h (by show ¬ (0 : Int) = 1; decide)⟩⟩, hmono hx⟩
        · have h : (n : Int) + (j : Int) + 1 < n := h; omega
        · show (i : Int) + 1 = ((findT l n ((n : Int) + (j : Int) + 1 - n) : Nat) : Int); rw [e1, hf9]; rfl
        · show (0 : Int) = (n : Int) + (j : Int) + 1 - n - widthF l (findT l n ((n : Int) + (j : Int) + 1 - n)); rw [e1, hf9]; omega
        · show OwnR w' base v' ((wl.set j (nth ws p)).take ((n : Int) + (j : Int) + 1 - n).toNat)
          rw [e1, show ((j : Int) + 1).toNat = j + 1 by omega, htk]
          exact hown
        · have h : (n : Int) + (m : Int) ≤ (n : Int) + (j : Int) + 1 := h; omega
    · have hf9 : findT l n ((j : Int) + 1) = i := findT_eq hv.right hi1 (by omega) (by omega)
      have hjm : (j : Int) + 1 < (m : Int) := by
        have h9 := hv.width
        have h7 := widthF_mono hv.right (show i + 1 ≤ n by omega) (Nat.le_refl _)
        omega
      refine (RS_2m base f hb rl n cl ws l T ((j : Int) - widthF l i) (T - tries) begun steps i (.slice (some ⟨qg, 0, none⟩) n cg) vw qg cg gl (wl.take j) w hb0 hs hr ne' hz hn hv.right hv.st hi1 hgi how2 hlen.1 (nth_fit hv.gens) ⟨hq2, by omega⟩ p hat2 hpn (by omega) hfu hNb).mono ?_
      rintro e w' ⟨rfl, ⟨v', hk, hown⟩, hx⟩
      refine ⟨rfl, ⟨base, 2, i, (j : Int) - widthF l i + 1, _, v', hk, hB, Nat.le_trans hz hx.size, ⟨fun _ h => ?_, fun _ _ _ => ⟨rfl, ?_, ?_, gens' hx, ?_⟩, fun _ h => ?_, fun h => absurd h (by show ¬ (0 : Int) = 1; decide)⟩⟩, hmono hx⟩
      · have h : (n : Int) + (j : Int) + 1 < n := h; omega
      · show (i : Int) = ((findT l n ((n : Int) + (j : Int) + 1 - n) : Nat) : Int); rw [e1, hf9]
      · show (j : Int) - widthF l i + 1 = (n : Int) + (j : Int) + 1 - n - widthF l (findT l n ((n : Int) + (j : Int) + 1 - n)); rw [e1, hf9]; omega
      · show OwnR w' base v' ((wl.set j (nth ws p)).take ((n : Int) + (j : Int) + 1 - n).toNat)
        rw [e1, show ((j : Int) + 1).toNat = j + 1 by omega, htk]
        exact hown
      · have h : (n : Int) + (m : Int) ≤ (n : Int) + (j : Int) + 1 := h; omega
  · obtain ⟨j, rfl⟩ : ∃ j : Nat, k = (n : Int) + (m : Int) + (j : Int) := ⟨(k - n - m).toNat, by omega⟩
    have e0 : (n : Int) + (m : Int) + (j : Int) - (n : Int) - (m : Int) = (j : Int) := by omega
    have hj : j < n := by omega
    have ea : sAtF l n m ⟨tries, (n : Int) + (m : Int) + (j : Int), begun, steps, 0, gl, wl⟩ = (l j).seq := by
      unfold sAtF
      simp only [h1, h2, if_false, e0, Int.toNat_natCast]
    have hsr := (allR_iff l n).mp hv.right j hj
    obtain ⟨rfl, rfl, ⟨qg, cg, rfl, hq1, hq2, hgi⟩, how3⟩ := hrel.three rfl (by show (n : Int) + (m : Int) ≤ (n : Int) + (m : Int) + (j : Int); omega)
    simp only [e0] at hb0
    by_cases hin : inW ws (l j).seq
    case neg =>
      have es : sStepF l n m ws ⟨tries, (n : Int) + (m : Int) + (j : Int), begun, steps, 0, gl, wl⟩ = ⟨tries, (n : Int) + (m : Int) + (j : Int), begun, steps, 3, gl, wl⟩ := by
        unfold sStepF
        rw [ea]
        simp only [ne_eq, not_true_eq_false, if_false, hin, not_false_eq_true, if_true]
      rw [es]
      refine (RS_out3 base f hb rl n cl ws l T N (T - tries) begun steps j _ vw w hb0 hs hr ne' hz hn hv.right hv.st hj hin).mono ?_
      rintro e w' ⟨rfl, hk, hx⟩
      exact ⟨rfl, ⟨base, 3, j, N, _, vw, hk, hB, Nat.le_trans hz hx.size, ⟨fun h => absurd h (by show ¬ (3 : Int) = 0; decide), fun h => absurd h (by show ¬ (3 : Int) = 0; decide), fun h => absurd h (by show ¬ (3 : Int) = 0; decide), fun h => absurd h (by show ¬ (3 : Int) = 1; decide)⟩⟩, hmono hx⟩
    obtain ⟨q, hq⟩ : ∃ q : Nat, (l j).seq = q := ⟨(l j).seq.toNat, by have := hsr.2.2.2.1; omega⟩
    have hqn : q < ws.length := by have := hin.2; rw [hq] at this; omega
    have hwq : wordF ws (l j).seq = nth ws q := by rw [hq, wordF_nat ws q hqn]
    have gens' : ∀ {w' : World}, Ex (fun k => k = f) w w' → GensAt w' B base n (.slice (some ⟨qg, 0, none⟩) n cg) gl := fun p => ⟨qg, cg, rfl, hq1, hq2, hgi.ex p (fun h => by omega)⟩
    by_cases hk2 : nth ws q / 2 = nth gl j
    · by_cases hl : (j : Int) = (n : Int) - 1
      · have es : sStepF l n m ws ⟨tries, (n : Int) + (m : Int) + (j : Int), begun, steps, 0, gl, wl⟩ = ⟨tries, (n : Int) + (m : Int) + (j : Int) + 1, begun, steps + 1, 1, gl, wl⟩ := by
          unfold sStepF
          rw [ea]
          simp only [ne_eq, not_true_eq_false, if_false, hin, h1, h2, hwq, hk2, e0, Int.toNat_natCast, if_true, if_pos (show (n : Int) + (m : Int) + (j : Int) + 1 = 2 * (n : Int) + (m : Int) by omega)]
        rw [es]
        refine (RS_3last base f hb rl n cl ws l T N (T - tries) begun steps j (.slice none 0 0) vw qg cg gl w hb0 hs hr ne' hz hn hv.right hv.st hj hgi hlen.1 ⟨hq2, by omega⟩ q hq hqn hk2 hl hw).mono ?_
        rintro e w' ⟨rfl, hk, hx⟩
        exact ⟨rfl, ⟨base, 3, 0, N, _, vw, hk, hB, Nat.le_trans hz hx.size, ⟨fun h => absurd h (by show ¬ (1 : Int) = 0; decide), fun h => absurd h (by show ¬ (1 : Int) = 0; decide), fun h => absurd h (by show ¬ (1 : Int) = 0; decide), fun _ => ⟨gens' hx, how3.ex hx (fun k hk => by subst hk; omega)⟩⟩⟩, hmono (hx.mono fun _ h => .inl h)⟩
      · have es : sStepF l n m ws ⟨tries, (n : Int) + (m : Int) + (j : Int), begun, steps, 0, gl, wl⟩ = ⟨tries, (n : Int) + (m : Int) + (j : Int) + 1, begun, steps + 1, 0, gl, wl⟩ := by
          unfold sStepF
          rw [ea]
          simp only [ne_eq, not_true_eq_false, if_false, hin, h1, h2, hwq, hk2, e0, Int.toNat_natCast, if_true, if_neg (show ¬ (n : Int) + (m : Int) + (j : Int) + 1 = 2 * (n : Int) + (m : Int) by omega)]
        rw [es]
        refine (RS_3more base f hb rl n cl ws l T N (T - tries) begun steps j (.slice none 0 0) vw qg cg gl w hb0 hs hr ne' hz hn hv.right hv.st hj hgi hlen.1 ⟨hq2, by omega⟩ q hq hqn hk2 hl hw).mono ?_
        rintro e w' ⟨rfl, hk, hx⟩
        refine ⟨rfl, ⟨base, 3, (j : Int) + 1, N, _, vw, hk, hB, Nat.le_trans hz hx.size, ⟨fun _ h => ?_, fun _ _ h => ?_, fun _ _ => ⟨rfl, ?_, gens' hx, how3.ex hx (fun k hk => by subst hk; omega)⟩, fun h => absurd h (by show ¬ (0 : Int) = 1; decide)⟩⟩, hmono (hx.mono fun _ h => .inl h)⟩
        · have h : (n : Int) + (m : Int) + (j : Int) + 1 < n := h; omega
        · have h : (n : Int) + (m : Int) + (j : Int) + 1 < (n : Int) + (m : Int) := h; omega
        · show (j : Int) + 1 = (n : Int) + (m : Int) + (j : Int) + 1 - n - m; omega
    · by_cases hl : tries - 1 = 0
      · have es : sStepF l n m ws ⟨tries, (n : Int) + (m : Int) + (j : Int), begun, steps, 0, gl, wl⟩ = ⟨tries - 1, 0, begun, steps + 1, 2, gl, wl⟩ := by
          unfold sStepF
          rw [ea]
          simp only [ne_eq, not_true_eq_false, if_false, hin, h1, h2, hwq, hk2, e0, Int.toNat_natCast, if_pos hl]
        rw [es]
        have ehad : T - (tries - 1) = T - tries + 1 := by omega
        refine (RS_3spent base f hb rl n cl ws l T N (T - tries) begun steps j (.slice none 0 0) vw qg cg gl w hb0 hs hr ne' hz hn hv.right hv.st hj hgi hlen.1 ⟨hq2, by omega⟩ q hq hqn hk2 (by omega) hw (by have := hv.tr; omega)).mono ?_
        rintro e w' ⟨rfl, hk, hx⟩
        exact ⟨rfl, ⟨base, 1, 0, N, _, vw, by show Blk w' f _ (rcs rl n cl T 1 0 N (T - (tries - 1)) _ vw begun 2 (steps + 1)); rw [ehad]; exact hk, hB, Nat.le_trans hz hx.size, ⟨fun h => absurd h (by show ¬ (2 : Int) = 0; decide), fun h => absurd h (by show ¬ (2 : Int) = 0; decide), fun h => absurd h (by show ¬ (2 : Int) = 0; decide), fun h => absurd h (by show ¬ (2 : Int) = 1; decide)⟩⟩, hmono (hx.mono fun _ h => .inl h)⟩
      · have es : sStepF l n m ws ⟨tries, (n : Int) + (m : Int) + (j : Int), begun, steps, 0, gl, wl⟩ = ⟨tries - 1, 0, begun, steps + 1, 0, gl, wl⟩ := by
          unfold sStepF
          rw [ea]
          simp only [ne_eq, not_true_eq_false, if_false, hin, h1, h2, hwq, hk2, e0, Int.toNat_natCast, if_neg hl]
        rw [es]
        have ehad : T - (tries - 1) = T - tries + 1 := by omega
        refine (RS_3again base f hb rl n cl ws l T N (T - tries) begun steps j (.slice none 0 0) vw qg cg gl w hb0 hs hr ne' hz hn hv.right hv.st hj hgi hlen.1 ⟨hq2, by omega⟩ q hq hqn hk2 (by omega) hw (by have := hv.tr; omega)).mono ?_
        rintro e w' ⟨rfl, hk, hx⟩
        refine ⟨rfl, ⟨base, 1, 0, N, _, vw, by show Blk w' f _ (rcs rl n cl T 1 0 N (T - (tries - 1)) _ vw begun 0 (steps + 1)); rw [ehad]; exact hk, hB, Nat.le_trans hz hx.size, ⟨fun _ _ => ⟨rfl, rfl, fun h => absurd h (by show ¬ (0 : Int) < 0; decide)⟩, fun _ h => ?_, fun _ h => ?_, fun h => absurd h (by show ¬ (0 : Int) = 1; decide)⟩⟩, hmono (hx.mono fun _ h => .inl h)⟩
        · have h : (n : Int) ≤ 0 := h; omega
        · have h : (n : Int) + (m : Int) ≤ 0 := h; omega
end Go.Proofs.Ytjdalllfnlpmnaa.Bank
