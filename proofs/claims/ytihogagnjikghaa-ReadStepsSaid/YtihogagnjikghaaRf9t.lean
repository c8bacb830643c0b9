/-
  The document's step of a reading, whole: it goes as the code's does. Conditions stand at it. By an AI agent.
-/
import Derived.Test.YtihogagnjikghaaRf9s
namespace Go.Proofs.Ytihogagnjikghaa.Bank
set_option linter.unusedVariables false
set_option linter.unusedSimpArgs false
open Go Go.RowKit Go.Proofs.Ytihogagnjikghaa.Base

set_option maxRecDepth 100000 in
theorem F9_done (base f : Nat) (s : Spot) (tries : Int) (v u : Value) (W : List Int) (x : RS) (w : World) (ho : RfAt w base f s tries v W x) (hh : x.how ≠ 0) :
    Calls Try.prog 15 #[.pointer (some ⟨f, 0, none⟩), u] w fun e w' => e = .returned (.tuple #[]) ∧ w = w' := by
  have q0 := Blk.cell ho.head 0
  have q11 := Blk.cell ho.head 11
  simp only [frCs, List.getElem?_toArray, List.getElem?_cons_succ, List.getElem?_cons_zero] at q0 q11
  have hd : (x.how != 0) = true := by simpa using hh
  clear ho hh
  go_enter Try.func15, Try.ntmps15
  go_wp2_with fail
  first | (refine bodyPost_ret (results_none rfl _ _ _) rfl ?_) | go_end0
  exact ⟨rfl, rfl⟩
/-- the words that the document's has are those that the code's has -/
def WOk (x : RS) (got W : List Int) : Prop := (x.how = 0 → x.next ≠ 0 → (W.length : Int) = x.n ∧ ∀ i, i < W.length → nth W i = nth got i) ∧ (x.how = 1 → W = got)
theorem WOk.zero (got : List Int) : WOk RS.zero got [] := ⟨fun _ h => absurd rfl h, fun h => by simp [RS.zero] at h⟩
theorem eq_of_nth' {xs ys : List Int} (hl : xs.length = ys.length) (h : ∀ i, i < xs.length → nth xs i = nth ys i) : xs = ys := by
  refine List.ext_getElem hl fun i h1 h2 => ?_
  have := h i h1
  simpa [nth, List.getD_eq_getElem?_getD, List.getElem?_eq_getElem h1, List.getElem?_eq_getElem h2] using this
theorem wok_push {got W : List Int} {j : Nat} {z : Int} (hj : W.length = j) (hl : j < got.length) (h : ∀ i, i < W.length → nth W i = nth got i) : ∀ i, i < (W ++ [z]).length → nth (W ++ [z]) i = nth (got.set j z) i := by
  intro i hi
  rw [nth_set _ _ _ _ hl]
  simp only [List.length_append, List.length_singleton] at hi
  by_cases hij : i = j
  · subst hij
    rw [if_pos rfl]
    unfold nth
    rw [List.getD_eq_getElem?_getD, List.getElem?_append_right (by omega), hj, Nat.sub_self]
    rfl
  · rw [if_neg hij, ← h i (by omega)]
    unfold nth
    rw [List.getD_eq_getElem?_getD, List.getElem?_append_left (by omega), List.getD_eq_getElem?_getD]
theorem F9Step_any (base f hb : Nat) (ws : List Int) (s : Spot) (tries : Int) (v : Value) (W got : List Int) (x : RS) (t : Int) (w : World) (ho : RfAt w base f s tries v W x) (hr : Row w hb ws) (hi : RInv s tries x got)
    (hf : ∀ y ∈ ws, 0 ≤ y ∧ y ≤ 18446744073709551615) (hw : WOk x got W) (ne : f ≠ hb ∧ hb < base) :
    Calls Try.prog 15 #[.pointer (some ⟨f, 0, none⟩), .slice (some ⟨hb, 0, none⟩) ws.length ws.length] w fun e w' => e = .returned (.tuple #[]) ∧ (∃ v' W', RfAt w' base f s tries v' W' (rdStep s tries x got ws t).1 ∧ WOk (rdStep s tries x got ws t).1 (rdStep s tries x got ws t).2.1 W') ∧ Row w' hb ws ∧ Ex (fun k => k = f ∨ base ≤ k) w w' := by
  by_cases hh : x.how = 0
  · have hnx := hi.next
    have hgl := hi.len
    have hn := hi.n
    obtain ⟨how, next, had, gen, nn, begun, steps⟩ := x
    simp only at hh hnx hn
    subst hh
    obtain ⟨ow, se, fi, wo, de⟩ := s
    have hse := hi.right.2.2.2.1
    simp only at hse hgl hn
    obtain ⟨q, rfl⟩ : ∃ q : Nat, se = q := ⟨se.toNat, by omega⟩
    have hiw : inW ws (q : Int) ↔ q < ws.length := ⟨fun h => by have := h.2; omega, fun h => ⟨by omega, by omega⟩⟩
    have fin : ∀ {W' : List Int} {x' : RS} {got' : List Int}, (rdStep ⟨ow, q, fi, wo, de⟩ tries ⟨0, next, had, gen, nn, begun, steps⟩ got ws t).1 = x' → (rdStep ⟨ow, q, fi, wo, de⟩ tries ⟨0, next, had, gen, nn, begun, steps⟩ got ws t).2.1 = got' → WOk x' got' W' →
        Calls Try.prog 15 #[.pointer (some ⟨f, 0, none⟩), .slice (some ⟨hb, 0, none⟩) ws.length ws.length] w (fun e w' => e = .returned (.tuple #[]) ∧ (∃ v', RfAt w' base f ⟨ow, q, fi, wo, de⟩ tries v' W' x') ∧ Row w' hb ws ∧ Ex (fun k => k = f ∨ base ≤ k) w w') →
        Calls Try.prog 15 #[.pointer (some ⟨f, 0, none⟩), .slice (some ⟨hb, 0, none⟩) ws.length ws.length] w fun e w' => e = .returned (.tuple #[]) ∧ (∃ v' W', RfAt w' base f ⟨ow, q, fi, wo, de⟩ tries v' W' (rdStep ⟨ow, q, fi, wo, de⟩ tries ⟨0, next, had, gen, nn, begun, steps⟩ got ws t).1 ∧ WOk (rdStep ⟨ow, q, fi, wo, de⟩ tries ⟨0, next, had, gen, nn, begun, steps⟩ got ws t).1 (rdStep ⟨ow, q, fi, wo, de⟩ tries ⟨0, next, had, gen, nn, begun, steps⟩ got ws t).2.1 W') ∧ Row w' hb ws ∧ Ex (fun k => k = f ∨ base ≤ k) w w' := by
      intro W' x' got' e1 e2 hok h
      refine h.mono fun e w' ⟨he, ⟨v', hr⟩, h1, h2⟩ => ⟨he, ⟨v', W', ?_, ?_⟩, h1, h2⟩
      · rw [e1]; exact hr
      · rw [e1, e2]; exact hok
    rcases hnx with rfl | rfl | rfl
    · by_cases hin : q < ws.length
      · have hwq : wordF ws (q : Int) = nth ws q := wordF_nat ws q hin
        refine fin (x' := ⟨0, 1, had, nth ws q / 2, 0, steps + 1, steps + 1⟩) (got' := got) (W' := []) ?_ ?_ ?_ (F9_first base f hb ws ow q fi wo de tries v W got had gen nn begun steps w ho hr hi hf ne hin)
        · simp [rdStep, hiw.2 hin, hwq]
        · simp [rdStep, hiw.2 hin]
        · exact ⟨fun _ _ => ⟨rfl, fun i hi => by simp at hi⟩, fun h => by simp at h⟩
      · refine fin (x' := ⟨3, 0, had, gen, nn, begun, steps⟩) (got' := got) (W' := W) ?_ ?_ ?_ (F9_out0 base f hb ws ow q fi wo de tries v W got had gen nn begun steps w ho hr hi hf ne (by omega))
        · simp [rdStep, show ¬ inW ws (q : Int) from fun h => hin (hiw.1 h)]
        · simp [rdStep, show ¬ inW ws (q : Int) from fun h => hin (hiw.1 h)]
        · exact ⟨fun h => by simp at h, fun h => by simp at h⟩
    · obtain ⟨hwl, hwn⟩ := hw.1 rfl (by simp)
      simp only at hwl
      have hnn := hn.2.2.1 trivial rfl
      by_cases hin : inW ws (placeR ⟨ow, q, fi, wo, de⟩ gen nn)
      · by_cases hv2 : nn + 1 = wo
        · refine fin (x' := ⟨0, 2, had, gen, nn + 1, begun, steps + 1⟩) (got' := got.set nn.toNat (wordF ws (placeR ⟨ow, q, fi, wo, de⟩ gen nn))) (W' := W ++ [wordF ws (placeR ⟨ow, q, fi, wo, de⟩ gen nn)]) ?_ ?_ ?_ (F9_last base f hb ws ow q fi wo de tries v W got had gen nn begun steps w ho hr hi hf ne hwl hin hv2)
          · simp [rdStep, hin, hv2, hgl]
          · simp [rdStep, hin]
          · exact ⟨fun _ _ => ⟨by simp; omega, wok_push (by omega) (by omega) hwn⟩, fun h => by simp at h⟩
        · refine fin (x' := ⟨0, 1, had, gen, nn + 1, begun, steps + 1⟩) (got' := got.set nn.toNat (wordF ws (placeR ⟨ow, q, fi, wo, de⟩ gen nn))) (W' := W ++ [wordF ws (placeR ⟨ow, q, fi, wo, de⟩ gen nn)]) ?_ ?_ ?_ (F9_more base f hb ws ow q fi wo de tries v W got had gen nn begun steps w ho hr hi hf ne hwl hin hv2)
          · simp [rdStep, hin, hv2, hgl]
          · simp [rdStep, hin]
          · exact ⟨fun _ _ => ⟨by simp; omega, wok_push (by omega) (by omega) hwn⟩, fun h => by simp at h⟩
      · refine fin (x' := ⟨3, 1, had, gen, nn, begun, steps⟩) (got' := got) (W' := W) ?_ ?_ ?_ (F9_word_out base f hb ws ow q fi wo de tries v W got had gen nn begun steps w ho hr hi hf ne hwl hin)
        · simp [rdStep, hin]
        · simp [rdStep, hin]
        · exact ⟨fun h => by simp at h, fun h => by simp at h⟩
    · obtain ⟨hwl, hwn⟩ := hw.1 rfl (by simp)
      simp only at hwl
      have hnn := hn.2.2.2 trivial rfl
      by_cases hin : q < ws.length
      · have hwq : wordF ws (q : Int) = nth ws q := wordF_nat ws q hin
        cases hk : keptB (nth ws q) gen de with
        | true =>
          refine fin (x' := ⟨1, 2, had, gen, nn, begun, steps + 1⟩) (got' := got) (W' := W) ?_ ?_ ?_ (F9_kept base f hb ws ow q fi wo de tries v W got had gen nn begun steps w ho hr hi hf ne hin hk)
          · simp [rdStep, hiw.2 hin, hwq, hk]
          · simp [rdStep, hiw.2 hin, hwq, hk]
          · exact ⟨fun h => by simp at h, fun _ => eq_of_nth' (by omega) hwn⟩
        | false =>
          by_cases hv2 : had + 1 = tries
          · refine fin (x' := ⟨2, 0, had + 1, gen, nn, begun, steps + 1⟩) (got' := got) (W' := W) ?_ ?_ ?_ (F9_spent base f hb ws ow q fi wo de tries v W got had gen nn begun steps w ho hr hi hf ne hin hk hv2)
            · simp [rdStep, hiw.2 hin, hwq, hk, hv2]
            · simp [rdStep, hiw.2 hin, hwq, hk]
            · exact ⟨fun h => by simp at h, fun h => by simp at h⟩
          · refine fin (x' := ⟨0, 0, had + 1, gen, nn, begun, steps + 1⟩) (got' := got) (W' := W) ?_ ?_ ?_ (F9_again base f hb ws ow q fi wo de tries v W got had gen nn begun steps w ho hr hi hf ne hin hk hv2)
            · simp [rdStep, hiw.2 hin, hwq, hk, hv2]
            · simp [rdStep, hiw.2 hin, hwq, hk]
            · exact ⟨fun _ h => absurd rfl h, fun h => by simp at h⟩
      · refine fin (x' := ⟨3, 2, had, gen, nn, begun, steps⟩) (got' := got) (W' := W) ?_ ?_ ?_ (F9_out2 base f hb ws ow q fi wo de tries v W got had gen nn begun steps w ho hr hi hf ne (by omega))
        · simp [rdStep, show ¬ inW ws (q : Int) from fun h => hin (hiw.1 h)]
        · simp [rdStep, show ¬ inW ws (q : Int) from fun h => hin (hiw.1 h)]
        · exact ⟨fun h => by simp at h, fun h => by simp at h⟩
  · have e : rdStep s tries x got ws t = (x, got, t) := by unfold rdStep; rw [if_pos hh]
    rw [e]
    exact (F9_done base f s tries v _ W x w ho hh).mono fun _ _ ⟨he, hw'⟩ => ⟨he, ⟨v, W, hw' ▸ ho, hw⟩, hw' ▸ hr, hw' ▸ Ex.refl _ w⟩
end Go.Proofs.Ytihogagnjikghaa.Bank
