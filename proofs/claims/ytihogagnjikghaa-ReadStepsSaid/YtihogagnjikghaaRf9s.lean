/-
  The branches of the document's step of a reading, walked. Printed by wip/tools/mkrf9.py. Conditions stand at each. By an AI agent.
-/
import Derived.Test.YtihogagnjikghaaRf9
import Derived.Test.YtihogagnjikghaaRdS
import Derived.Test.YtihogagnjikghaaTail
import Derived.OwnWalk
namespace Go.Proofs.Ytihogagnjikghaa.Bank
set_option linter.unusedVariables false
set_option linter.unusedSimpArgs false
open Go Go.RowKit Go.Proofs.Ytihogagnjikghaa.Base

end Go.Proofs.Ytihogagnjikghaa.Bank
namespace Go.Proofs.Ytihogagnjikghaa.Base
open Go Go.RowKit
theorem Ex.ex {T0 T : Nat → Prop} {a b c : World} (p : Ex T0 a b) (q : Ex T b c) (h : ∀ k, T k → T0 k) : Ex T0 a c := p.trans (q.mono h)
end Go.Proofs.Ytihogagnjikghaa.Base
namespace Go.Proofs.Ytihogagnjikghaa.Bank
set_option linter.unusedVariables false
set_option linter.unusedSimpArgs false
open Go Go.RowKit Go.Proofs.Ytihogagnjikghaa.Base
def OwnR (w : World) (base : Nat) (v : Value) (W : List Int) : Prop := w.ownsRow base 43 1 v W.length (W.map (Value.int .u64))
theorem OwnR.ex {T : Nat → Prop} {w w' : World} {base : Nat} {v : Value} {W : List Int} (h : OwnR w base v W) (p : Ex T w w') (hT : ∀ k, T k → k < base) : OwnR w' base v W :=
  ownsRow_ex h p (fun k hk ht => by have h1 := hT k ht; have h2 := (World.ownsRow.lt h k hk).1; omega)
theorem OwnR.nil (w : World) (base : Nat) : OwnR w base (.slice none 0 0) [] := ⟨rfl, .inl ⟨rfl, rfl⟩⟩
theorem OwnR.form {w : World} {base : Nat} {v : Value} {W : List Int} (h : OwnR w base v W) : ∃ a c, v = .slice a W.length c := by
  rcases h.2 with ⟨rfl, h0⟩ | ⟨g, cap, cur, rfl, _⟩
  · exact ⟨none, 0, by rw [h0]⟩
  · exact ⟨_, _, rfl⟩
set_option maxRecDepth 100000 in
set_option maxHeartbeats 4000000 in
theorem F9_out0 (base f hb : Nat) (ws : List Int) (ow : Int) (q : Nat) (fi wo de : Int) (tries : Int) (v : Value) (W got : List Int) (had gen nn begun steps : Int) (w : World) (ho : RfAt w base f (⟨ow, q, fi, wo, de⟩ : Spot) tries v W ⟨0, 0, had, gen, nn, begun, steps⟩) (hr : Row w hb ws) (hi : RInv (⟨ow, q, fi, wo, de⟩ : Spot) tries ⟨0, 0, had, gen, nn, begun, steps⟩ got)
    (hf : ∀ y ∈ ws, 0 ≤ y ∧ y ≤ 18446744073709551615) (ne : f ≠ hb ∧ hb < base) (hin : ws.length ≤ q) :
    Calls Try.prog 15 #[.pointer (some ⟨f, 0, none⟩), .slice (some ⟨hb, 0, none⟩) ws.length ws.length] w fun e w' => e = .returned (.tuple #[]) ∧ (∃ v', RfAt w' base f (⟨ow, q, fi, wo, de⟩ : Spot) tries v' (W) ⟨3, 0, had, gen, nn, begun, steps⟩) ∧ Row w' hb ws ∧ Ex (fun k => k = f ∨ base ≤ k) w w' := by
  have B0 := Lib.hid (show Blk w f 50 _ from ho.head)
  have R0 := Lib.hid hr
  have O0 := Lib.hid (show OwnR w base _ W from ho.own)
  have X0 := Lib.hid (Ex.refl (fun k => k = f ∨ base ≤ k) w)
  have HI := Lib.hid hi
  have ORD := Lib.hid (show f ≠ hb ∧ hb < base ∧ f < base from ⟨ne.1, ne.2, ho.lt.1⟩)
  have SZ := Lib.hid ho.lt.2
  have HFT := Lib.hid hf
  unfold frCs at B0
  simp only [show (0 : Int) + 1 = 1 from rfl, show (1 : Int) + 1 = 2 from rfl, show (2 : Int) + 1 = 3 from rfl] at B0
  have HIN := Lib.hid hin
  have hst : wrap64 (steps + 1) = steps + 1 := hi.wst
  have hne9 : f ≠ hb := ne.1
  have hne8 : hb ≠ f := fun e => ne.1 e.symm
  clear ho hr hi ne hf hin
  have Bq0 := (B0.out).cell 0
  have Bq1 := (B0.out).cell 1
  have Bq6 := (B0.out).cell 6
  have Bq11 := (B0.out).cell 11
  simp only [List.getElem?_toArray, List.getElem?_cons_succ, List.getElem?_cons_zero] at Bq0 Bq1 Bq6 Bq11
  have Bf11 := (B0.out).frozen 11
  have k1 : decide ((q : Int) < 0) = false := decide_eq_false (by omega)
  have kq1 : (ws.length : Int) ≤ (q : Int) := by have := HIN.out; omega
  have k2 : decide ((q : Int) ≥ (ws.length : Int)) = true := decide_eq_true kq1
  have kqn : ws.length ≤ q := HIN.out
  go_enter Try.func15, Try.ntmps15
  go_wp2_with fail
  clear Bq0 Bq1 Bq6 Bq11 Bf11
  have bb := (B0.out.set_ 11 (.int .i64 3))
  simp only [List.setIfInBounds_toArray, List.set_cons_succ, List.set_cons_zero] at bb
  have BB := Lib.hid bb
  clear bb
  have ee : Ex (fun k => k = f) w (w.setCell ⟨f, 11, none⟩ (.int .i64 3)) := ((Ex.refl (fun k => k = f) w).setCell (q := ⟨f, 11, none⟩) (.inl rfl) (.int .i64 3))
  have R_1 := Lib.hid (R0.out.ex ee (by have o_ := ORD.out; omega))
  have O_1 := Lib.hid (O0.out.ex ee (fun b_ h_ => by have o_ := ORD.out; have h_ : b_ = f := h_; first | omega | (show _ ∨ _; omega)))
  have X_1 := Lib.hid (X0.out.ex ee (fun b_ h_ => by have o_ := ORD.out; have h_ : b_ = f := h_; first | omega | (show _ ∨ _; omega)))
  have B_1 := Lib.hid (BB.out)
  clear ee B0 R0 O0 X0 BB
  first | (refine bodyPost_ret (results_none rfl _ _ _) rfl ?_) | go_end0
  exact ⟨rfl, ⟨_, ⟨B_1.out, O_1.out, ORD.out.2.2, Nat.le_trans SZ.out X_1.out.size⟩⟩, R_1.out, X_1.out⟩
set_option maxRecDepth 100000 in
set_option maxHeartbeats 4000000 in
theorem F9_out2 (base f hb : Nat) (ws : List Int) (ow : Int) (q : Nat) (fi wo de : Int) (tries : Int) (v : Value) (W got : List Int) (had gen nn begun steps : Int) (w : World) (ho : RfAt w base f (⟨ow, q, fi, wo, de⟩ : Spot) tries v W ⟨0, 2, had, gen, nn, begun, steps⟩) (hr : Row w hb ws) (hi : RInv (⟨ow, q, fi, wo, de⟩ : Spot) tries ⟨0, 2, had, gen, nn, begun, steps⟩ got)
    (hf : ∀ y ∈ ws, 0 ≤ y ∧ y ≤ 18446744073709551615) (ne : f ≠ hb ∧ hb < base) (hin : ws.length ≤ q) :
    Calls Try.prog 15 #[.pointer (some ⟨f, 0, none⟩), .slice (some ⟨hb, 0, none⟩) ws.length ws.length] w fun e w' => e = .returned (.tuple #[]) ∧ (∃ v', RfAt w' base f (⟨ow, q, fi, wo, de⟩ : Spot) tries v' (W) ⟨3, 2, had, gen, nn, begun, steps⟩) ∧ Row w' hb ws ∧ Ex (fun k => k = f ∨ base ≤ k) w w' := by
  have B0 := Lib.hid (show Blk w f 50 _ from ho.head)
  have R0 := Lib.hid hr
  have O0 := Lib.hid (show OwnR w base _ W from ho.own)
  have X0 := Lib.hid (Ex.refl (fun k => k = f ∨ base ≤ k) w)
  have HI := Lib.hid hi
  have ORD := Lib.hid (show f ≠ hb ∧ hb < base ∧ f < base from ⟨ne.1, ne.2, ho.lt.1⟩)
  have SZ := Lib.hid ho.lt.2
  have HFT := Lib.hid hf
  unfold frCs at B0
  simp only [show (0 : Int) + 1 = 1 from rfl, show (1 : Int) + 1 = 2 from rfl, show (2 : Int) + 1 = 3 from rfl] at B0
  have HIN := Lib.hid hin
  have hst : wrap64 (steps + 1) = steps + 1 := hi.wst
  have hne9 : f ≠ hb := ne.1
  have hne8 : hb ≠ f := fun e => ne.1 e.symm
  clear ho hr hi ne hf hin
  have Bq0 := (B0.out).cell 0
  have Bq1 := (B0.out).cell 1
  have Bq6 := (B0.out).cell 6
  have Bq11 := (B0.out).cell 11
  simp only [List.getElem?_toArray, List.getElem?_cons_succ, List.getElem?_cons_zero] at Bq0 Bq1 Bq6 Bq11
  have Bf11 := (B0.out).frozen 11
  have k1 : decide ((q : Int) < 0) = false := decide_eq_false (by omega)
  have kq1 : (ws.length : Int) ≤ (q : Int) := by have := HIN.out; omega
  have k2 : decide ((q : Int) ≥ (ws.length : Int)) = true := decide_eq_true kq1
  have kqn : ws.length ≤ q := HIN.out
  go_enter Try.func15, Try.ntmps15
  go_wp2_with fail
  clear Bq0 Bq1 Bq6 Bq11 Bf11
  have bb := (B0.out.set_ 11 (.int .i64 3))
  simp only [List.setIfInBounds_toArray, List.set_cons_succ, List.set_cons_zero] at bb
  have BB := Lib.hid bb
  clear bb
  have ee : Ex (fun k => k = f) w (w.setCell ⟨f, 11, none⟩ (.int .i64 3)) := ((Ex.refl (fun k => k = f) w).setCell (q := ⟨f, 11, none⟩) (.inl rfl) (.int .i64 3))
  have R_1 := Lib.hid (R0.out.ex ee (by have o_ := ORD.out; omega))
  have O_1 := Lib.hid (O0.out.ex ee (fun b_ h_ => by have o_ := ORD.out; have h_ : b_ = f := h_; first | omega | (show _ ∨ _; omega)))
  have X_1 := Lib.hid (X0.out.ex ee (fun b_ h_ => by have o_ := ORD.out; have h_ : b_ = f := h_; first | omega | (show _ ∨ _; omega)))
  have B_1 := Lib.hid (BB.out)
  clear ee B0 R0 O0 X0 BB
  first | (refine bodyPost_ret (results_none rfl _ _ _) rfl ?_) | go_end0
  exact ⟨rfl, ⟨_, ⟨B_1.out, O_1.out, ORD.out.2.2, Nat.le_trans SZ.out X_1.out.size⟩⟩, R_1.out, X_1.out⟩
set_option maxRecDepth 100000 in
set_option maxHeartbeats 4000000 in
theorem F9_first (base f hb : Nat) (ws : List Int) (ow : Int) (q : Nat) (fi wo de : Int) (tries : Int) (v : Value) (W got : List Int) (had gen nn begun steps : Int) (w : World) (ho : RfAt w base f (⟨ow, q, fi, wo, de⟩ : Spot) tries v W ⟨0, 0, had, gen, nn, begun, steps⟩) (hr : Row w hb ws) (hi : RInv (⟨ow, q, fi, wo, de⟩ : Spot) tries ⟨0, 0, had, gen, nn, begun, steps⟩ got)
    (hf : ∀ y ∈ ws, 0 ≤ y ∧ y ≤ 18446744073709551615) (ne : f ≠ hb ∧ hb < base) (hin : q < ws.length) :
    Calls Try.prog 15 #[.pointer (some ⟨f, 0, none⟩), .slice (some ⟨hb, 0, none⟩) ws.length ws.length] w fun e w' => e = .returned (.tuple #[]) ∧ (∃ v', RfAt w' base f (⟨ow, q, fi, wo, de⟩ : Spot) tries v' ([]) ⟨0, 1, had, nth ws q / 2, 0, steps + 1, steps + 1⟩) ∧ Row w' hb ws ∧ Ex (fun k => k = f ∨ base ≤ k) w w' := by
  have B0 := Lib.hid (show Blk w f 50 _ from ho.head)
  have R0 := Lib.hid hr
  have O0 := Lib.hid (show OwnR w base _ W from ho.own)
  have X0 := Lib.hid (Ex.refl (fun k => k = f ∨ base ≤ k) w)
  have HI := Lib.hid hi
  have ORD := Lib.hid (show f ≠ hb ∧ hb < base ∧ f < base from ⟨ne.1, ne.2, ho.lt.1⟩)
  have SZ := Lib.hid ho.lt.2
  have HFT := Lib.hid hf
  unfold frCs at B0
  simp only [show (0 : Int) + 1 = 1 from rfl, show (1 : Int) + 1 = 2 from rfl, show (2 : Int) + 1 = 3 from rfl] at B0
  have HIN := Lib.hid hin
  have hst : wrap64 (steps + 1) = steps + 1 := hi.wst
  have hne9 : f ≠ hb := ne.1
  have hne8 : hb ≠ f := fun e => ne.1 e.symm
  clear ho hr hi ne hf hin
  have Bq0 := (B0.out).cell 0
  have Bq1 := (B0.out).cell 1
  have Bq6 := (B0.out).cell 6
  have Bq8 := (B0.out).cell 8
  have Bq9 := (B0.out).cell 9
  have Bq10 := (B0.out).cell 10
  have Bq11 := (B0.out).cell 11
  have Bq12 := (B0.out).cell 12
  simp only [List.getElem?_toArray, List.getElem?_cons_succ, List.getElem?_cons_zero] at Bq0 Bq1 Bq6 Bq8 Bq9 Bq10 Bq11 Bq12
  have Bf4 := (B0.out).frozen 4
  have Bf6 := (B0.out).frozen 6
  have Bf8 := (B0.out).frozen 8
  have Bf9 := (B0.out).frozen 9
  have Bf10 := (B0.out).frozen 10
  have Bf12 := (B0.out).frozen 12
  have k1 : decide ((q : Int) < 0) = false := decide_eq_false (by omega)
  have kq0 : (0 : Int) ≤ (q : Int) := by omega
  have kq1 : (q : Int) < (ws.length : Int) := by have := HIN.out; omega
  have k2 : decide ((q : Int) ≥ (ws.length : Int)) = false := decide_eq_false (by omega)
  have kqn : q < ws.length := HIN.out
  have HRG := Lib.hid (HFT.out (nth ws q) (nth_mem HIN.out))
  have qw := R0.out.word HIN.out
  generalize nth ws q = z at *
  have kz : IntKind.u64.wrap (z.tdiv 2) = z / 2 := by rw [Int.tdiv_eq_ediv_of_nonneg HRG.out.1]; exact u64_wrap_in (by have := HRG.out; omega)
  go_enter Try.func15, Try.ntmps15
  go_wp2_with fail
  clear Bq0 Bq1 Bq6 Bq8 Bq9 Bq10 Bq11 Bq12 Bf4 Bf6 Bf8 Bf9 Bf10 Bf12 qw
  have bb := (((((B0.out.set_ 12 (.int .i64 (steps + 1))).set_ 8 (.int .u64 (z / 2))).set_ 9 (.slice none 0 0)).set_ 10 (.int .i64 (steps + 1))).set_ 6 (.int .i64 2))
  simp only [List.setIfInBounds_toArray, List.set_cons_succ, List.set_cons_zero] at bb
  have BB := Lib.hid bb
  clear bb
  have ee : Ex (fun k => k = f) w (((((w.setCell ⟨f, 12, none⟩ (.int .i64 (steps + 1))).setCell ⟨f, 8, none⟩ (.int .u64 (z / 2))).setCell ⟨f, 9, none⟩ (.slice none 0 0)).setCell ⟨f, 10, none⟩ (.int .i64 (steps + 1))).setCell ⟨f, 6, none⟩ (.int .i64 2)) := ((((((Ex.refl (fun k => k = f) w).setCell (q := ⟨f, 12, none⟩) (.inl rfl) (.int .i64 (steps + 1))).setCell (q := ⟨f, 8, none⟩) (.inl rfl) (.int .u64 (z / 2))).setCell (q := ⟨f, 9, none⟩) (.inl rfl) (.slice none 0 0)).setCell (q := ⟨f, 10, none⟩) (.inl rfl) (.int .i64 (steps + 1))).setCell (q := ⟨f, 6, none⟩) (.inl rfl) (.int .i64 2))
  have R_1 := Lib.hid (R0.out.ex ee (by have o_ := ORD.out; omega))
  have X_1 := Lib.hid (X0.out.ex ee (fun b_ h_ => by have o_ := ORD.out; have h_ : b_ = f := h_; first | omega | (show _ ∨ _; omega)))
  have B_1 := Lib.hid (BB.out)
  have O_1 := Lib.hid (OwnR.nil (((((w.setCell ⟨f, 12, none⟩ (.int .i64 (steps + 1))).setCell ⟨f, 8, none⟩ (.int .u64 (z / 2))).setCell ⟨f, 9, none⟩ (.slice none 0 0)).setCell ⟨f, 10, none⟩ (.int .i64 (steps + 1))).setCell ⟨f, 6, none⟩ (.int .i64 2)) base)
  clear ee B0 R0 O0 X0 BB
  first | (refine bodyPost_ret (results_none rfl _ _ _) rfl ?_) | go_end0
  exact ⟨rfl, ⟨_, ⟨B_1.out, O_1.out, ORD.out.2.2, Nat.le_trans SZ.out X_1.out.size⟩⟩, R_1.out, X_1.out⟩
set_option maxRecDepth 100000 in
set_option maxHeartbeats 4000000 in
theorem F9_word_out (base f hb : Nat) (ws : List Int) (ow : Int) (q : Nat) (fi wo de : Int) (tries : Int) (v : Value) (W got : List Int) (had gen nn begun steps : Int) (w : World) (ho : RfAt w base f (⟨ow, q, fi, wo, de⟩ : Spot) tries v W ⟨0, 1, had, gen, nn, begun, steps⟩) (hr : Row w hb ws) (hi : RInv (⟨ow, q, fi, wo, de⟩ : Spot) tries ⟨0, 1, had, gen, nn, begun, steps⟩ got)
    (hf : ∀ y ∈ ws, 0 ≤ y ∧ y ≤ 18446744073709551615) (ne : f ≠ hb ∧ hb < base) (hwl : (W.length : Int) = nn) (hin : ¬ inW ws (placeR (⟨ow, q, fi, wo, de⟩ : Spot) gen nn)) :
    Calls Try.prog 15 #[.pointer (some ⟨f, 0, none⟩), .slice (some ⟨hb, 0, none⟩) ws.length ws.length] w fun e w' => e = .returned (.tuple #[]) ∧ (∃ v', RfAt w' base f (⟨ow, q, fi, wo, de⟩ : Spot) tries v' (W) ⟨3, 1, had, gen, nn, begun, steps⟩) ∧ Row w' hb ws ∧ Ex (fun k => k = f ∨ base ≤ k) w w' := by
  have hgen := hi.gen
  have hok := hi.right.atOk
  have hab := atF_bounds (gen := gen) hok
  have hae := atF_ok (gen := gen) hok
  simp only at hgen
  have HAT := Lib.hid (fun w (h : True) => rAt_any (⟨ow, q, fi, wo, de⟩ : Spot) gen w (by omega) hok)
  have hn0 := hi.n
  simp only at hn0
  obtain ⟨va, vc, rfl⟩ := OwnR.form (show OwnR w base v W from ho.own)
  have HPB := Lib.hid (show 0 ≤ atF (⟨ow, q, fi, wo, de⟩ : Spot) gen ∧ atF (⟨ow, q, fi, wo, de⟩ : Spot) gen ≤ 1049536 by rw [hae]; have h5 := hok.2.2; simp only at h5 ⊢; simp only at hab; omega)
  have HWL := Lib.hid hwl
  have HNB := Lib.hid (show 0 ≤ nn ∧ nn < wo ∧ wo ≤ 64 by have h4 := hi.right.1; simp only at h4; have := hn0.2.2.1 trivial trivial; omega)
  have HGL := Lib.hid (show (got.length : Int) = wo from hi.len)
  clear hgen hok hab hae hn0
  unfold Spot.val at HAT
  simp only at HAT
  have hpl : atF (⟨ow, q, fi, wo, de⟩ : Spot) gen + (W.length : Int) = placeR (⟨ow, q, fi, wo, de⟩ : Spot) gen nn := by rw [hwl]; rfl
  have HPL := Lib.hid hpl
  clear hpl
  clear hwl
  have B0 := Lib.hid (show Blk w f 50 _ from ho.head)
  have R0 := Lib.hid hr
  have O0 := Lib.hid (show OwnR w base _ W from ho.own)
  have X0 := Lib.hid (Ex.refl (fun k => k = f ∨ base ≤ k) w)
  have HI := Lib.hid hi
  have ORD := Lib.hid (show f ≠ hb ∧ hb < base ∧ f < base from ⟨ne.1, ne.2, ho.lt.1⟩)
  have SZ := Lib.hid ho.lt.2
  have HFT := Lib.hid hf
  unfold frCs at B0
  simp only [show (0 : Int) + 1 = 1 from rfl, show (1 : Int) + 1 = 2 from rfl, show (2 : Int) + 1 = 3 from rfl] at B0
  have HIN := Lib.hid hin
  have hst : wrap64 (steps + 1) = steps + 1 := hi.wst
  have hne9 : f ≠ hb := ne.1
  have hne8 : hb ≠ f := fun e => ne.1 e.symm
  clear ho hr hi ne hf hin
  have Bq0 := (B0.out).cell 0
  have Bq1 := (B0.out).cell 1
  have Bq6 := (B0.out).cell 6
  have Bq11 := (B0.out).cell 11
  simp only [List.getElem?_toArray, List.getElem?_cons_succ, List.getElem?_cons_zero] at Bq0 Bq1 Bq6 Bq11
  generalize atF (⟨ow, q, fi, wo, de⟩ : Spot) gen = a9 at *
  have kwl : wrap64 (a9 + (W.length : Int)) = a9 + (W.length : Int) := wrap64_in _ (by have := HPB.out; have := HNB.out; have := HWL.out; omega)
  go_enter Try.func15, Try.ntmps15
  go_upto_region 3 with fail
  clear Bq0 Bq1 Bq6 Bq11
  have hne : Nonempty (Held (Below w.heap.size w)) := ⟨⟨w, (Below.refl _ _)⟩⟩
  have rB0 : ∀ x : Held (Below w.heap.size w), x.w.cell? ⟨f, 0, none⟩ = some (.int .i64 ow) := fun x => (B0.out.bl x.ok).cell 0
  have rB1 : ∀ x : Held (Below w.heap.size w), x.w.cell? ⟨f, 1, none⟩ = some (.int .i64 (q : Int)) := fun x => (B0.out.bl x.ok).cell 1
  have rB2 : ∀ x : Held (Below w.heap.size w), x.w.cell? ⟨f, 2, none⟩ = some (.int .i64 fi) := fun x => (B0.out.bl x.ok).cell 2
  have rB3 : ∀ x : Held (Below w.heap.size w), x.w.cell? ⟨f, 3, none⟩ = some (.int .i64 wo) := fun x => (B0.out.bl x.ok).cell 3
  have rB4 : ∀ x : Held (Below w.heap.size w), x.w.cell? ⟨f, 4, none⟩ = some (.int .i64 de) := fun x => (B0.out.bl x.ok).cell 4
  have rB8 : ∀ x : Held (Below w.heap.size w), x.w.cell? ⟨f, 8, none⟩ = some (.int .u64 gen) := fun x => (B0.out.bl x.ok).cell 8
  have rB9 : ∀ x : Held (Below w.heap.size w), x.w.cell? ⟨f, 9, none⟩ = some (.slice va (W.length) vc) := fun x => (B0.out.bl x.ok).cell 9
  refine drawn_bars (S := (Below w.heap.size w)) [([0, 1, 2, 3, 4, 5, 6, 7, 9, 10, 11, 12, 13], 8)] [14, 15] (by kernel_rfl) (by kernel_rfl) (by kernel_rfl) rfl (Below.refl _ _).drew ?_
  refine Phased.go ?_
  simp only [pick, List.map_cons, List.map_nil, List.getElem?_cons_zero, List.getElem?_cons_succ, Option.getD_some]
  repeat (go_big_quiet_step (fail))
  refine wpQuiet_nil ?_
  go_wp2_with fail
  refine (HAT.out _ trivial).mono ?_; rintro e w1 ⟨rfl, hb1⟩
  have hb2 := bl ((Below.refl w.heap.size w).drew) hb1
  go_wp2_with fail
  refine behind_normal ⟨(Below w.heap.size w), fun W h => h, hb2, ?_⟩
  refine Phased.end_ ?_
  have hne5 : Nonempty (Held (fun W => W = w1)) := ⟨⟨_, rfl⟩⟩
  simp only [pick, List.map_cons, List.map_nil, List.getElem?_cons_zero, List.getElem?_cons_succ, Option.getD_some]
  repeat (go_big_quiet_step (fail))
  refine wpQuiet_nil ?_
  clear hne5 hne rB0 rB1 rB2 rB3 rB4 rB8 rB9 hb1 HAT
  have ee : Ex (fun _ => False) w w1 := Ex.of_below hb2
  have B_1 := Lib.hid (B0.out.ex ee (fun h => h))
  have R_1 := Lib.hid (R0.out.ex ee (fun h => h))
  have O_1 := Lib.hid (O0.out.ex ee (fun b_ h_ => h_.elim))
  have X_1 := Lib.hid (X0.out.ex ee (fun b_ h_ => h_.elim))
  clear ee B0 R0 O0 X0 hb2
  have hno : placeR (⟨ow, q, fi, wo, de⟩ : Spot) gen nn < 0 ∨ (ws.length : Int) ≤ placeR (⟨ow, q, fi, wo, de⟩ : Spot) gen nn := by
    have h9 := HIN.out
    unfold inW at h9
    omega
  rw [← HPL.out] at hno
  rcases hno with hno | hno
  · skip
    have k1 : decide (a9 + (W.length : Int) < 0) = true := decide_eq_true hno
    have Bq0 := (B_1.out).cell 0
    have Bq11 := (B_1.out).cell 11
    simp only [List.getElem?_toArray, List.getElem?_cons_succ, List.getElem?_cons_zero] at Bq0 Bq11
    have Bf11 := (B_1.out).frozen 11
    go_wp2_with fail
    clear Bq0 Bq11 Bf11
    have bb := (B_1.out.set_ 11 (.int .i64 3))
    simp only [List.setIfInBounds_toArray, List.set_cons_succ, List.set_cons_zero] at bb
    have BB := Lib.hid bb
    clear bb
    have ee : Ex (fun k => k = f) w1 (w1.setCell ⟨f, 11, none⟩ (.int .i64 3)) := ((Ex.refl (fun k => k = f) w1).setCell (q := ⟨f, 11, none⟩) (.inl rfl) (.int .i64 3))
    have R_2 := Lib.hid (R_1.out.ex ee (by have o_ := ORD.out; omega))
    have O_2 := Lib.hid (O_1.out.ex ee (fun b_ h_ => by have o_ := ORD.out; have h_ : b_ = f := h_; first | omega | (show _ ∨ _; omega)))
    have X_2 := Lib.hid (X_1.out.ex ee (fun b_ h_ => by have o_ := ORD.out; have h_ : b_ = f := h_; first | omega | (show _ ∨ _; omega)))
    have B_2 := Lib.hid (BB.out)
    clear ee B_1 R_1 O_1 X_1 BB
    first | (refine bodyPost_ret (results_none rfl _ _ _) rfl ?_) | go_end0
    exact ⟨rfl, ⟨_, ⟨B_2.out, O_2.out, ORD.out.2.2, Nat.le_trans SZ.out X_2.out.size⟩⟩, R_2.out, X_2.out⟩
  · skip
    have hlt0 : ¬ a9 + (W.length : Int) < 0 := by omega
    have k1 : decide (a9 + (W.length : Int) < 0) = false := decide_eq_false hlt0
    have k2 : decide (a9 + (W.length : Int) ≥ (ws.length : Int)) = true := decide_eq_true hno
    have Bq0 := (B_1.out).cell 0
    have Bq11 := (B_1.out).cell 11
    simp only [List.getElem?_toArray, List.getElem?_cons_succ, List.getElem?_cons_zero] at Bq0 Bq11
    have Bf11 := (B_1.out).frozen 11
    go_wp2_with fail
    clear Bq0 Bq11 Bf11
    have bb := (B_1.out.set_ 11 (.int .i64 3))
    simp only [List.setIfInBounds_toArray, List.set_cons_succ, List.set_cons_zero] at bb
    have BB := Lib.hid bb
    clear bb
    have ee : Ex (fun k => k = f) w1 (w1.setCell ⟨f, 11, none⟩ (.int .i64 3)) := ((Ex.refl (fun k => k = f) w1).setCell (q := ⟨f, 11, none⟩) (.inl rfl) (.int .i64 3))
    have R_2 := Lib.hid (R_1.out.ex ee (by have o_ := ORD.out; omega))
    have O_2 := Lib.hid (O_1.out.ex ee (fun b_ h_ => by have o_ := ORD.out; have h_ : b_ = f := h_; first | omega | (show _ ∨ _; omega)))
    have X_2 := Lib.hid (X_1.out.ex ee (fun b_ h_ => by have o_ := ORD.out; have h_ : b_ = f := h_; first | omega | (show _ ∨ _; omega)))
    have B_2 := Lib.hid (BB.out)
    clear ee B_1 R_1 O_1 X_1 BB
    first | (refine bodyPost_ret (results_none rfl _ _ _) rfl ?_) | go_end0
    exact ⟨rfl, ⟨_, ⟨B_2.out, O_2.out, ORD.out.2.2, Nat.le_trans SZ.out X_2.out.size⟩⟩, R_2.out, X_2.out⟩
set_option maxRecDepth 100000 in
set_option maxHeartbeats 4000000 in
theorem F9_more (base f hb : Nat) (ws : List Int) (ow : Int) (q : Nat) (fi wo de : Int) (tries : Int) (v : Value) (W got : List Int) (had gen nn begun steps : Int) (w : World) (ho : RfAt w base f (⟨ow, q, fi, wo, de⟩ : Spot) tries v W ⟨0, 1, had, gen, nn, begun, steps⟩) (hr : Row w hb ws) (hi : RInv (⟨ow, q, fi, wo, de⟩ : Spot) tries ⟨0, 1, had, gen, nn, begun, steps⟩ got)
    (hf : ∀ y ∈ ws, 0 ≤ y ∧ y ≤ 18446744073709551615) (ne : f ≠ hb ∧ hb < base) (hwl : (W.length : Int) = nn) (hin : inW ws (placeR (⟨ow, q, fi, wo, de⟩ : Spot) gen nn)) (hv2 : ¬ nn + 1 = wo) :
    Calls Try.prog 15 #[.pointer (some ⟨f, 0, none⟩), .slice (some ⟨hb, 0, none⟩) ws.length ws.length] w fun e w' => e = .returned (.tuple #[]) ∧ (∃ v', RfAt w' base f (⟨ow, q, fi, wo, de⟩ : Spot) tries v' (W ++ [wordF ws (placeR (⟨ow, q, fi, wo, de⟩ : Spot) gen nn)]) ⟨0, 1, had, gen, nn + 1, begun, steps + 1⟩) ∧ Row w' hb ws ∧ Ex (fun k => k = f ∨ base ≤ k) w w' := by
  have hgen := hi.gen
  have hok := hi.right.atOk
  have hab := atF_bounds (gen := gen) hok
  have hae := atF_ok (gen := gen) hok
  simp only at hgen
  have HAT := Lib.hid (fun w (h : True) => rAt_any (⟨ow, q, fi, wo, de⟩ : Spot) gen w (by omega) hok)
  have hn0 := hi.n
  simp only at hn0
  obtain ⟨va, vc, rfl⟩ := OwnR.form (show OwnR w base v W from ho.own)
  have HPB := Lib.hid (show 0 ≤ atF (⟨ow, q, fi, wo, de⟩ : Spot) gen ∧ atF (⟨ow, q, fi, wo, de⟩ : Spot) gen ≤ 1049536 by rw [hae]; have h5 := hok.2.2; simp only at h5 ⊢; simp only at hab; omega)
  have HWL := Lib.hid hwl
  have HNB := Lib.hid (show 0 ≤ nn ∧ nn < wo ∧ wo ≤ 64 by have h4 := hi.right.1; simp only at h4; have := hn0.2.2.1 trivial trivial; omega)
  have HGL := Lib.hid (show (got.length : Int) = wo from hi.len)
  clear hgen hok hab hae hn0
  unfold Spot.val at HAT
  simp only at HAT
  obtain ⟨p, hp⟩ : ∃ p : Nat, placeR (⟨ow, q, fi, wo, de⟩ : Spot) gen nn = p := ⟨(placeR (⟨ow, q, fi, wo, de⟩ : Spot) gen nn).toNat, by have := hin.1; omega⟩
  have HPP := Lib.hid hp
  have hin2 : p < ws.length := by have := hin.2; rw [hp] at this; omega
  have hpl : atF (⟨ow, q, fi, wo, de⟩ : Spot) gen + (W.length : Int) = p := by rw [← hp, hwl]; rfl
  have HPL := Lib.hid hpl
  clear hin hp hpl
  have HZ9 := Lib.hid (show wordF ws (placeR (⟨ow, q, fi, wo, de⟩ : Spot) gen nn) = nth ws p by rw [HPP.out]; exact wordF_nat ws p hin2)
  clear hwl
  have B0 := Lib.hid (show Blk w f 50 _ from ho.head)
  have R0 := Lib.hid hr
  have O0 := Lib.hid (show OwnR w base _ W from ho.own)
  have X0 := Lib.hid (Ex.refl (fun k => k = f ∨ base ≤ k) w)
  have HI := Lib.hid hi
  have ORD := Lib.hid (show f ≠ hb ∧ hb < base ∧ f < base from ⟨ne.1, ne.2, ho.lt.1⟩)
  have SZ := Lib.hid ho.lt.2
  have HFT := Lib.hid hf
  unfold frCs at B0
  simp only [show (0 : Int) + 1 = 1 from rfl, show (1 : Int) + 1 = 2 from rfl, show (2 : Int) + 1 = 3 from rfl] at B0
  have HIN2 := Lib.hid hin2
  have HV2 := Lib.hid hv2
  have hst : wrap64 (steps + 1) = steps + 1 := hi.wst
  have hne9 : f ≠ hb := ne.1
  have hne8 : hb ≠ f := fun e => ne.1 e.symm
  clear ho hr hi ne hf hin2 hv2
  have Bq0 := (B0.out).cell 0
  have Bq1 := (B0.out).cell 1
  have Bq6 := (B0.out).cell 6
  have Bq11 := (B0.out).cell 11
  simp only [List.getElem?_toArray, List.getElem?_cons_succ, List.getElem?_cons_zero] at Bq0 Bq1 Bq6 Bq11
  generalize atF (⟨ow, q, fi, wo, de⟩ : Spot) gen = a9 at *
  have kwl : wrap64 (a9 + (W.length : Int)) = a9 + (W.length : Int) := wrap64_in _ (by have := HPB.out; have := HNB.out; have := HWL.out; omega)
  go_enter Try.func15, Try.ntmps15
  go_upto_region 3 with fail
  clear Bq0 Bq1 Bq6 Bq11
  have hne : Nonempty (Held (Below w.heap.size w)) := ⟨⟨w, (Below.refl _ _)⟩⟩
  have rB0 : ∀ x : Held (Below w.heap.size w), x.w.cell? ⟨f, 0, none⟩ = some (.int .i64 ow) := fun x => (B0.out.bl x.ok).cell 0
  have rB1 : ∀ x : Held (Below w.heap.size w), x.w.cell? ⟨f, 1, none⟩ = some (.int .i64 (q : Int)) := fun x => (B0.out.bl x.ok).cell 1
  have rB2 : ∀ x : Held (Below w.heap.size w), x.w.cell? ⟨f, 2, none⟩ = some (.int .i64 fi) := fun x => (B0.out.bl x.ok).cell 2
  have rB3 : ∀ x : Held (Below w.heap.size w), x.w.cell? ⟨f, 3, none⟩ = some (.int .i64 wo) := fun x => (B0.out.bl x.ok).cell 3
  have rB4 : ∀ x : Held (Below w.heap.size w), x.w.cell? ⟨f, 4, none⟩ = some (.int .i64 de) := fun x => (B0.out.bl x.ok).cell 4
  have rB8 : ∀ x : Held (Below w.heap.size w), x.w.cell? ⟨f, 8, none⟩ = some (.int .u64 gen) := fun x => (B0.out.bl x.ok).cell 8
  have rB9 : ∀ x : Held (Below w.heap.size w), x.w.cell? ⟨f, 9, none⟩ = some (.slice va (W.length) vc) := fun x => (B0.out.bl x.ok).cell 9
  refine drawn_bars (S := (Below w.heap.size w)) [([0, 1, 2, 3, 4, 5, 6, 7, 9, 10, 11, 12, 13], 8)] [14, 15] (by kernel_rfl) (by kernel_rfl) (by kernel_rfl) rfl (Below.refl _ _).drew ?_
  refine Phased.go ?_
  simp only [pick, List.map_cons, List.map_nil, List.getElem?_cons_zero, List.getElem?_cons_succ, Option.getD_some]
  repeat (go_big_quiet_step (fail))
  refine wpQuiet_nil ?_
  go_wp2_with fail
  refine (HAT.out _ trivial).mono ?_; rintro e w1 ⟨rfl, hb1⟩
  have hb2 := bl ((Below.refl w.heap.size w).drew) hb1
  go_wp2_with fail
  refine behind_normal ⟨(Below w.heap.size w), fun W h => h, hb2, ?_⟩
  refine Phased.end_ ?_
  have hne5 : Nonempty (Held (fun W => W = w1)) := ⟨⟨_, rfl⟩⟩
  simp only [pick, List.map_cons, List.map_nil, List.getElem?_cons_zero, List.getElem?_cons_succ, Option.getD_some]
  repeat (go_big_quiet_step (fail))
  refine wpQuiet_nil ?_
  clear hne5 hne rB0 rB1 rB2 rB3 rB4 rB8 rB9 hb1 HAT
  have ee : Ex (fun _ => False) w w1 := Ex.of_below hb2
  have B_1 := Lib.hid (B0.out.ex ee (fun h => h))
  have R_1 := Lib.hid (R0.out.ex ee (fun h => h))
  have O_1 := Lib.hid (O0.out.ex ee (fun b_ h_ => h_.elim))
  have X_1 := Lib.hid (X0.out.ex ee (fun b_ h_ => h_.elim))
  clear ee B0 R0 O0 X0 hb2
  have HIN := HIN2
  have hpl := HPL.out
  have kwp : wrap64 (p : Int) = (p : Int) := by rw [← hpl]; exact kwl
  clear kwl
  have k1 : decide ((p : Int) < 0) = false := decide_eq_false (by omega)
  have kq0 : (0 : Int) ≤ (p : Int) := by omega
  have kq1 : (p : Int) < (ws.length : Int) := by have := HIN.out; omega
  have k2 : decide ((p : Int) ≥ (ws.length : Int)) = false := decide_eq_false (by omega)
  have kqn : p < ws.length := HIN.out
  have Bq0 := (B_1.out).cell 0
  have Bq6 := (B_1.out).cell 6
  have Bq12 := (B_1.out).cell 12
  simp only [List.getElem?_toArray, List.getElem?_cons_succ, List.getElem?_cons_zero] at Bq0 Bq6 Bq12
  have Bf12 := (B_1.out).frozen 12
  go_upto_region 14 with fail
  clear Bq0 Bq6 Bq12 Bf12
  have bb := (B_1.out.set_ 12 (.int .i64 (steps + 1)))
  simp only [List.setIfInBounds_toArray, List.set_cons_succ, List.set_cons_zero] at bb
  have BB := Lib.hid bb
  clear bb
  have ee : Ex (fun k => k = f) w1 (w1.setCell ⟨f, 12, none⟩ (.int .i64 (steps + 1))) := ((Ex.refl (fun k => k = f) w1).setCell (q := ⟨f, 12, none⟩) (.inl rfl) (.int .i64 (steps + 1)))
  have R_2 := Lib.hid (R_1.out.ex ee (by have o_ := ORD.out; omega))
  have O_2 := Lib.hid (O_1.out.ex ee (fun b_ h_ => by have o_ := ORD.out; have h_ : b_ = f := h_; first | omega | (show _ ∨ _; omega)))
  have X_2 := Lib.hid (X_1.out.ex ee (fun b_ h_ => by have o_ := ORD.out; have h_ : b_ = f := h_; first | omega | (show _ ∨ _; omega)))
  have B_2 := Lib.hid (BB.out)
  clear ee B_1 R_1 O_1 X_1 BB
  generalize (w1.setCell ⟨f, 12, none⟩ (.int .i64 (steps + 1))) = w2 at *
  have Bq0 := (B_2.out).cell 0
  have Bq9 := (B_2.out).cell 9
  simp only [List.getElem?_toArray, List.getElem?_cons_succ, List.getElem?_cons_zero] at Bq0 Bq9
  have Bf9 := (B_2.out).frozen 9
  have qw := R_2.out.word HIN.out
  clear Bq0 Bq9 Bf9 qw
  have hne : Nonempty (Held (Ex (fun k => base ≤ k) w2)) := ⟨⟨w2, Ex.refl _ _⟩⟩
  have p0 : ∀ y : Held (Ex (fun k => base ≤ k) w2), y.w.cell? ⟨f, 0, none⟩ = some (.int .i64 ow) := fun y => (B_2.out.ex y.ok (by have := ORD.out; omega)).cell 0
  have p9 : ∀ y : Held (Ex (fun k => base ≤ k) w2), y.w.cell? ⟨f, 9, none⟩ = some (.slice va W.length vc) := fun y => (B_2.out.ex y.ok (by have := ORD.out; omega)).cell 9
  have pw : ∀ y : Held (Ex (fun k => base ≤ k) w2), y.w.cell? ⟨hb, p, none⟩ = some (.int .u64 (nth ws p)) := fun y => (R_2.out.ex y.ok (by have := ORD.out; omega)).word HIN.out
  obtain ⟨i0, hi0, hz0, hz1, hz2⟩ := info_parts word_info
  refine drawn_tail (S := (Ex (fun k => base ≤ k) w2)) [13] [([0, 1, 2, 3, 4, 5, 6, 7, 8], 9), ([], 10), ([], 11), ([], 12), ([], 13)] (by kernel_rfl) (by kernel_rfl) (by kernel_rfl) rfl (Ex.refl _ _).drew ?_
  refine PhasedT.go ?_
  simp only [pick, List.map_cons, List.map_nil, List.getElem?_cons_zero, List.getElem?_cons_succ, Option.getD_some]
  repeat (go_big_quiet_step (fail))
  refine wpQuiet_nil ?_
  clear hne p0 p9 pw
  have ee : Ex (fun _ => False) w2 w2.drew := (Ex.refl _ w2).drew
  have B_3 := Lib.hid (B_2.out.ex ee (fun h => h))
  have R_3 := Lib.hid (R_2.out.ex ee (fun h => h))
  have O_3 := Lib.hid (O_2.out.ex ee (fun b_ h_ => h_.elim))
  have X_3 := Lib.hid (X_2.out.ex ee (fun b_ h_ => h_.elim))
  clear ee B_2 R_2 O_2 X_2
  have EE0 := Lib.hid ((Ex.refl (fun k => base ≤ k) w2).drew)
  generalize w2.drew = w3 at *
  have SZ3 := Lib.hid (Nat.le_trans SZ.out X_3.out.size)
  have HWN := Lib.hid (show W.length ≤ 64 by have := HWL.out; have := HNB.out; omega)
  generalize nth ws p = z at *
  go_wp2_with fail
  refine behind_normal ⟨(Ex (fun k => base ≤ k) w2), fun W h => h, by first | exact EE0.out.alloc _ | exact fun _ => EE0.out.alloc _, ?_⟩
  refine PhasedT.go ?_
  simp only [pick, List.map_cons, List.map_nil, List.getElem?_cons_zero, List.getElem?_cons_succ, Option.getD_some]
  repeat (go_big_quiet_step (fail))
  refine wpQuiet_nil ?_
  go_wp2_with (at_builtin; refine wpList_append_own _ rfl _ _ 42 rfl base 43 i0 (.int .u64 0) 1 8 Try.underlying42 hi0 hz0 hz1 hz2 rfl (by decide) _ _ _ rfl (World.ownsRow.alloc O_3.out _) ⟨w3.heap.size, 0, none⟩ 1 1 [.int .u64 z] rfl rfl ?c1 ?c2 ?c3 ?c4 ?c5 ?_)
  case c1 =>
    have hbn := Blk.new w3 43 #[.int .u64 z]
    intro j u hj
    match j, hj with
    | 0, hj => simp at hj; subst hj; exact hbn.cell 0
  case c2 =>
    intro u hu
    simp only [List.mem_cons, List.not_mem_nil, or_false] at hu
    subst hu; rfl
  case c3 => have h1 := HWN.out; have h2 := SZ3.out; first | omega | (unfold maxLen; omega) | (simp; omega)
  case c4 => have h1 := HWN.out; have h2 := SZ3.out; first | omega | (unfold maxLen; omega) | (simp; omega)
  case c5 => have h1 := HWN.out; have h2 := SZ3.out; first | omega | (unfold maxLen; omega) | (simp; omega)
  intro v' w4 hown' hgrow _
  have hbel := ((Below.refl base w3).alloc SZ3.out (.cells #[.int .u64 z] 43)).grown hgrow (by have := SZ3.out; simp; omega) (fun k hk => (World.ownsRow.lt O_3.out k hk).1)
  have hown2 : OwnR w4 base v' (W ++ [z]) := by unfold OwnR; simpa using hown'
  obtain ⟨va2, vc2, rfl⟩ := hown2.form
  have hlw : (W ++ [z]).length = W.length + 1 := by simp
  have HO2 := Lib.hid (show OwnR w4 base (.slice va2 (W.length + 1) vc2) (W ++ [z]) by have := hown2; rw [hlw] at this; exact this)
  have he : Ex (fun k => base ≤ k) w3 w4 := ⟨hbel.os, hbel.tape, hbel.output, hbel.size, fun k hk hn => hbel.block k (by omega)⟩
  have B_9 := Lib.hid (B_3.out.ex he (by have := ORD.out; omega))
  have R_9 := Lib.hid (R_3.out.ex he (by have := ORD.out; omega))
  have X_9 := Lib.hid (X_3.out.ex he (fun k hk => .inr hk))
  have EE1 := Lib.hid (EE0.out.trans he)
  clear hown' hgrow hbel hown2 he B_3 R_3 O_3 X_3 EE0
  refine behind_normal ⟨(Ex (fun k => base ≤ k) w2), fun W h => h, by first | exact EE1.out | exact fun _ => EE1.out, ?_⟩
  refine PhasedT.go ?_
  simp only [pick, List.map_cons, List.map_nil, List.getElem?_cons_zero, List.getElem?_cons_succ, Option.getD_some]
  repeat (go_big_quiet_step (fail))
  refine wpQuiet_nil ?_
  have Bq0 := B_9.out.cell 0
  simp only [List.getElem?_toArray, List.getElem?_cons_succ, List.getElem?_cons_zero] at Bq0
  go_wp2_with fail
  refine behind_normal ⟨(Ex (fun k => base ≤ k) w2), fun W h => h, by first | exact EE1.out | exact fun _ => EE1.out, ?_⟩
  refine PhasedT.go ?_
  simp only [pick, List.map_cons, List.map_nil, List.getElem?_cons_zero, List.getElem?_cons_succ, Option.getD_some]
  repeat (go_big_quiet_step (fail))
  refine wpQuiet_nil ?_
  clear Bq0
  go_wp2_with fail
  have Bq0 := (B_9.out).cell 0
  have Bq9 := (B_9.out).cell 9
  simp only [List.getElem?_toArray, List.getElem?_cons_succ, List.getElem?_cons_zero] at Bq0 Bq9
  have Bf9 := (B_9.out).frozen 9
  refine behind_normal ⟨(Ex (fun k => base ≤ k) w2), fun W h => h, by first | exact EE1.out | exact fun _ => EE1.out, ?_⟩
  refine PhasedT.go ?_
  simp only [pick, List.map_cons, List.map_nil, List.getElem?_cons_zero, List.getElem?_cons_succ, Option.getD_some]
  repeat (go_big_quiet_step (fail))
  refine wpQuiet_nil ?_
  go_wp2_with fail
  refine behind_normal ⟨(Ex (fun k => base ≤ k) w2), fun W h => h, by first | exact fun h => absurd h (by decide) | trivial | simp, ?_⟩
  refine PhasedT.end_ ?_
  clear Bq0 Bq9 Bf9
  have bb := (B_9.out.set_ 9 (.slice va2 (W.length + 1) vc2))
  simp only [List.setIfInBounds_toArray, List.set_cons_succ, List.set_cons_zero] at bb
  have BB := Lib.hid bb
  clear bb
  have ee : Ex (fun k => k = f) w4 (w4.setCell ⟨f, 9, none⟩ (.slice va2 (W.length + 1) vc2)) := ((Ex.refl (fun k => k = f) w4).setCell (q := ⟨f, 9, none⟩) (.inl rfl) (.slice va2 (W.length + 1) vc2))
  have R_4 := Lib.hid (R_9.out.ex ee (by have o_ := ORD.out; omega))
  have O_4 := Lib.hid (HO2.out.ex ee (fun b_ h_ => by have o_ := ORD.out; have h_ : b_ = f := h_; first | omega | (show _ ∨ _; omega)))
  have X_4 := Lib.hid (X_9.out.ex ee (fun b_ h_ => by have o_ := ORD.out; have h_ : b_ = f := h_; first | omega | (show _ ∨ _; omega)))
  have B_4 := Lib.hid (BB.out)
  clear ee B_9 R_9 HO2 X_9 BB
  generalize (w4.setCell ⟨f, 9, none⟩ (.slice va2 (W.length + 1) vc2)) = w5 at *
  have kl0 : (((W.length + 1 : Nat) : Int) == wo) = false := beq_eq_false_iff_ne.2 (by have := HV2.out; have := HWL.out; push_cast; omega)
  have kl1 : ((W.length : Int) + 1 == wo) = false := beq_eq_false_iff_ne.2 (by have := HV2.out; have := HWL.out; omega)
  go_upto_region 15 with fail
  have hne : Nonempty (Held (fun W => W = w5.drew)) := ⟨⟨_, rfl⟩⟩
  have p0 : ∀ y : Held (fun W => W = w5.drew), y.w.cell? ⟨f, 0, none⟩ = some (.int .i64 ow) := fun y => by rw [y.ok]; exact B_4.out.cell 0
  have p3 : ∀ y : Held (fun W => W = w5.drew), y.w.cell? ⟨f, 3, none⟩ = some (.int .i64 wo) := fun y => by rw [y.ok]; exact B_4.out.cell 3
  have p9 : ∀ y : Held (fun W => W = w5.drew), y.w.cell? ⟨f, 9, none⟩ = some (.slice va2 (W.length + 1) vc2) := fun y => by rw [y.ok]; exact B_4.out.cell 9
  refine drawn_bars (S := fun _ => True) [] [0, 1, 2, 3, 4, 5, 6, 7, 8, 9, 10] (by kernel_rfl) (by kernel_rfl) (by kernel_rfl) rfl trivial ?_
  refine Phased.end_ ?_
  simp only [pick, List.map_cons, List.map_nil, List.getElem?_cons_zero, List.getElem?_cons_succ, Option.getD_some]
  repeat (go_big_quiet_step (fail))
  refine wpQuiet_nil ?_
  clear hne p0 p3 p9
  have ee : Ex (fun _ => False) w5 w5.drew := (Ex.refl _ w5).drew
  have B_5 := Lib.hid (B_4.out.ex ee (fun h => h))
  have R_5 := Lib.hid (R_4.out.ex ee (fun h => h))
  have O_5 := Lib.hid (O_4.out.ex ee (fun b_ h_ => h_.elim))
  have X_5 := Lib.hid (X_4.out.ex ee (fun b_ h_ => h_.elim))
  clear ee B_4 R_4 O_4 X_4
  generalize w5.drew = w6 at *
  go_wp2_with fail
  first | (refine bodyPost_ret (results_none rfl _ _ _) rfl ?_) | go_end0
  have hz9 : wordF ws (placeR (⟨ow, q, fi, wo, de⟩ : Spot) gen nn) = z := HZ9.out
  rw [hz9]
  exact ⟨rfl, ⟨_, ⟨B_5.out, O_5.out, ORD.out.2.2, Nat.le_trans SZ.out X_5.out.size⟩⟩, R_5.out, X_5.out⟩
set_option maxRecDepth 100000 in
set_option maxHeartbeats 4000000 in
theorem F9_last (base f hb : Nat) (ws : List Int) (ow : Int) (q : Nat) (fi wo de : Int) (tries : Int) (v : Value) (W got : List Int) (had gen nn begun steps : Int) (w : World) (ho : RfAt w base f (⟨ow, q, fi, wo, de⟩ : Spot) tries v W ⟨0, 1, had, gen, nn, begun, steps⟩) (hr : Row w hb ws) (hi : RInv (⟨ow, q, fi, wo, de⟩ : Spot) tries ⟨0, 1, had, gen, nn, begun, steps⟩ got)
    (hf : ∀ y ∈ ws, 0 ≤ y ∧ y ≤ 18446744073709551615) (ne : f ≠ hb ∧ hb < base) (hwl : (W.length : Int) = nn) (hin : inW ws (placeR (⟨ow, q, fi, wo, de⟩ : Spot) gen nn)) (hv2 : nn + 1 = wo) :
    Calls Try.prog 15 #[.pointer (some ⟨f, 0, none⟩), .slice (some ⟨hb, 0, none⟩) ws.length ws.length] w fun e w' => e = .returned (.tuple #[]) ∧ (∃ v', RfAt w' base f (⟨ow, q, fi, wo, de⟩ : Spot) tries v' (W ++ [wordF ws (placeR (⟨ow, q, fi, wo, de⟩ : Spot) gen nn)]) ⟨0, 2, had, gen, nn + 1, begun, steps + 1⟩) ∧ Row w' hb ws ∧ Ex (fun k => k = f ∨ base ≤ k) w w' := by
  have hgen := hi.gen
  have hok := hi.right.atOk
  have hab := atF_bounds (gen := gen) hok
  have hae := atF_ok (gen := gen) hok
  simp only at hgen
  have HAT := Lib.hid (fun w (h : True) => rAt_any (⟨ow, q, fi, wo, de⟩ : Spot) gen w (by omega) hok)
  have hn0 := hi.n
  simp only at hn0
  obtain ⟨va, vc, rfl⟩ := OwnR.form (show OwnR w base v W from ho.own)
  have HPB := Lib.hid (show 0 ≤ atF (⟨ow, q, fi, wo, de⟩ : Spot) gen ∧ atF (⟨ow, q, fi, wo, de⟩ : Spot) gen ≤ 1049536 by rw [hae]; have h5 := hok.2.2; simp only at h5 ⊢; simp only at hab; omega)
  have HWL := Lib.hid hwl
  have HNB := Lib.hid (show 0 ≤ nn ∧ nn < wo ∧ wo ≤ 64 by have h4 := hi.right.1; simp only at h4; have := hn0.2.2.1 trivial trivial; omega)
  have HGL := Lib.hid (show (got.length : Int) = wo from hi.len)
  clear hgen hok hab hae hn0
  unfold Spot.val at HAT
  simp only at HAT
  obtain ⟨p, hp⟩ : ∃ p : Nat, placeR (⟨ow, q, fi, wo, de⟩ : Spot) gen nn = p := ⟨(placeR (⟨ow, q, fi, wo, de⟩ : Spot) gen nn).toNat, by have := hin.1; omega⟩
  have HPP := Lib.hid hp
  have hin2 : p < ws.length := by have := hin.2; rw [hp] at this; omega
  have hpl : atF (⟨ow, q, fi, wo, de⟩ : Spot) gen + (W.length : Int) = p := by rw [← hp, hwl]; rfl
  have HPL := Lib.hid hpl
  clear hin hp hpl
  have HZ9 := Lib.hid (show wordF ws (placeR (⟨ow, q, fi, wo, de⟩ : Spot) gen nn) = nth ws p by rw [HPP.out]; exact wordF_nat ws p hin2)
  clear hwl
  have B0 := Lib.hid (show Blk w f 50 _ from ho.head)
  have R0 := Lib.hid hr
  have O0 := Lib.hid (show OwnR w base _ W from ho.own)
  have X0 := Lib.hid (Ex.refl (fun k => k = f ∨ base ≤ k) w)
  have HI := Lib.hid hi
  have ORD := Lib.hid (show f ≠ hb ∧ hb < base ∧ f < base from ⟨ne.1, ne.2, ho.lt.1⟩)
  have SZ := Lib.hid ho.lt.2
  have HFT := Lib.hid hf
  unfold frCs at B0
  simp only [show (0 : Int) + 1 = 1 from rfl, show (1 : Int) + 1 = 2 from rfl, show (2 : Int) + 1 = 3 from rfl] at B0
  have HIN2 := Lib.hid hin2
  have HV2 := Lib.hid hv2
  have hst : wrap64 (steps + 1) = steps + 1 := hi.wst
  have hne9 : f ≠ hb := ne.1
  have hne8 : hb ≠ f := fun e => ne.1 e.symm
  clear ho hr hi ne hf hin2 hv2
  have Bq0 := (B0.out).cell 0
  have Bq1 := (B0.out).cell 1
  have Bq6 := (B0.out).cell 6
  have Bq11 := (B0.out).cell 11
  simp only [List.getElem?_toArray, List.getElem?_cons_succ, List.getElem?_cons_zero] at Bq0 Bq1 Bq6 Bq11
  generalize atF (⟨ow, q, fi, wo, de⟩ : Spot) gen = a9 at *
  have kwl : wrap64 (a9 + (W.length : Int)) = a9 + (W.length : Int) := wrap64_in _ (by have := HPB.out; have := HNB.out; have := HWL.out; omega)
  go_enter Try.func15, Try.ntmps15
  go_upto_region 3 with fail
  clear Bq0 Bq1 Bq6 Bq11
  have hne : Nonempty (Held (Below w.heap.size w)) := ⟨⟨w, (Below.refl _ _)⟩⟩
  have rB0 : ∀ x : Held (Below w.heap.size w), x.w.cell? ⟨f, 0, none⟩ = some (.int .i64 ow) := fun x => (B0.out.bl x.ok).cell 0
  have rB1 : ∀ x : Held (Below w.heap.size w), x.w.cell? ⟨f, 1, none⟩ = some (.int .i64 (q : Int)) := fun x => (B0.out.bl x.ok).cell 1
  have rB2 : ∀ x : Held (Below w.heap.size w), x.w.cell? ⟨f, 2, none⟩ = some (.int .i64 fi) := fun x => (B0.out.bl x.ok).cell 2
  have rB3 : ∀ x : Held (Below w.heap.size w), x.w.cell? ⟨f, 3, none⟩ = some (.int .i64 wo) := fun x => (B0.out.bl x.ok).cell 3
  have rB4 : ∀ x : Held (Below w.heap.size w), x.w.cell? ⟨f, 4, none⟩ = some (.int .i64 de) := fun x => (B0.out.bl x.ok).cell 4
  have rB8 : ∀ x : Held (Below w.heap.size w), x.w.cell? ⟨f, 8, none⟩ = some (.int .u64 gen) := fun x => (B0.out.bl x.ok).cell 8
  have rB9 : ∀ x : Held (Below w.heap.size w), x.w.cell? ⟨f, 9, none⟩ = some (.slice va (W.length) vc) := fun x => (B0.out.bl x.ok).cell 9
  refine drawn_bars (S := (Below w.heap.size w)) [([0, 1, 2, 3, 4, 5, 6, 7, 9, 10, 11, 12, 13], 8)] [14, 15] (by kernel_rfl) (by kernel_rfl) (by kernel_rfl) rfl (Below.refl _ _).drew ?_
  refine Phased.go ?_
  simp only [pick, List.map_cons, List.map_nil, List.getElem?_cons_zero, List.getElem?_cons_succ, Option.getD_some]
  repeat (go_big_quiet_step (fail))
  refine wpQuiet_nil ?_
  go_wp2_with fail
  refine (HAT.out _ trivial).mono ?_; rintro e w1 ⟨rfl, hb1⟩
  have hb2 := bl ((Below.refl w.heap.size w).drew) hb1
  go_wp2_with fail
  refine behind_normal ⟨(Below w.heap.size w), fun W h => h, hb2, ?_⟩
  refine Phased.end_ ?_
  have hne5 : Nonempty (Held (fun W => W = w1)) := ⟨⟨_, rfl⟩⟩
  simp only [pick, List.map_cons, List.map_nil, List.getElem?_cons_zero, List.getElem?_cons_succ, Option.getD_some]
  repeat (go_big_quiet_step (fail))
  refine wpQuiet_nil ?_
  clear hne5 hne rB0 rB1 rB2 rB3 rB4 rB8 rB9 hb1 HAT
  have ee : Ex (fun _ => False) w w1 := Ex.of_below hb2
  have B_1 := Lib.hid (B0.out.ex ee (fun h => h))
  have R_1 := Lib.hid (R0.out.ex ee (fun h => h))
  have O_1 := Lib.hid (O0.out.ex ee (fun b_ h_ => h_.elim))
  have X_1 := Lib.hid (X0.out.ex ee (fun b_ h_ => h_.elim))
  clear ee B0 R0 O0 X0 hb2
  have HIN := HIN2
  have hpl := HPL.out
  have kwp : wrap64 (p : Int) = (p : Int) := by rw [← hpl]; exact kwl
  clear kwl
  have k1 : decide ((p : Int) < 0) = false := decide_eq_false (by omega)
  have kq0 : (0 : Int) ≤ (p : Int) := by omega
  have kq1 : (p : Int) < (ws.length : Int) := by have := HIN.out; omega
  have k2 : decide ((p : Int) ≥ (ws.length : Int)) = false := decide_eq_false (by omega)
  have kqn : p < ws.length := HIN.out
  have Bq0 := (B_1.out).cell 0
  have Bq6 := (B_1.out).cell 6
  have Bq12 := (B_1.out).cell 12
  simp only [List.getElem?_toArray, List.getElem?_cons_succ, List.getElem?_cons_zero] at Bq0 Bq6 Bq12
  have Bf12 := (B_1.out).frozen 12
  go_upto_region 14 with fail
  clear Bq0 Bq6 Bq12 Bf12
  have bb := (B_1.out.set_ 12 (.int .i64 (steps + 1)))
  simp only [List.setIfInBounds_toArray, List.set_cons_succ, List.set_cons_zero] at bb
  have BB := Lib.hid bb
  clear bb
  have ee : Ex (fun k => k = f) w1 (w1.setCell ⟨f, 12, none⟩ (.int .i64 (steps + 1))) := ((Ex.refl (fun k => k = f) w1).setCell (q := ⟨f, 12, none⟩) (.inl rfl) (.int .i64 (steps + 1)))
  have R_2 := Lib.hid (R_1.out.ex ee (by have o_ := ORD.out; omega))
  have O_2 := Lib.hid (O_1.out.ex ee (fun b_ h_ => by have o_ := ORD.out; have h_ : b_ = f := h_; first | omega | (show _ ∨ _; omega)))
  have X_2 := Lib.hid (X_1.out.ex ee (fun b_ h_ => by have o_ := ORD.out; have h_ : b_ = f := h_; first | omega | (show _ ∨ _; omega)))
  have B_2 := Lib.hid (BB.out)
  clear ee B_1 R_1 O_1 X_1 BB
  generalize (w1.setCell ⟨f, 12, none⟩ (.int .i64 (steps + 1))) = w2 at *
  have Bq0 := (B_2.out).cell 0
  have Bq9 := (B_2.out).cell 9
  simp only [List.getElem?_toArray, List.getElem?_cons_succ, List.getElem?_cons_zero] at Bq0 Bq9
  have Bf9 := (B_2.out).frozen 9
  have qw := R_2.out.word HIN.out
  clear Bq0 Bq9 Bf9 qw
  have hne : Nonempty (Held (Ex (fun k => base ≤ k) w2)) := ⟨⟨w2, Ex.refl _ _⟩⟩
  have p0 : ∀ y : Held (Ex (fun k => base ≤ k) w2), y.w.cell? ⟨f, 0, none⟩ = some (.int .i64 ow) := fun y => (B_2.out.ex y.ok (by have := ORD.out; omega)).cell 0
  have p9 : ∀ y : Held (Ex (fun k => base ≤ k) w2), y.w.cell? ⟨f, 9, none⟩ = some (.slice va W.length vc) := fun y => (B_2.out.ex y.ok (by have := ORD.out; omega)).cell 9
  have pw : ∀ y : Held (Ex (fun k => base ≤ k) w2), y.w.cell? ⟨hb, p, none⟩ = some (.int .u64 (nth ws p)) := fun y => (R_2.out.ex y.ok (by have := ORD.out; omega)).word HIN.out
  obtain ⟨i0, hi0, hz0, hz1, hz2⟩ := info_parts word_info
  refine drawn_tail (S := (Ex (fun k => base ≤ k) w2)) [13] [([0, 1, 2, 3, 4, 5, 6, 7, 8], 9), ([], 10), ([], 11), ([], 12), ([], 13)] (by kernel_rfl) (by kernel_rfl) (by kernel_rfl) rfl (Ex.refl _ _).drew ?_
  refine PhasedT.go ?_
  simp only [pick, List.map_cons, List.map_nil, List.getElem?_cons_zero, List.getElem?_cons_succ, Option.getD_some]
  repeat (go_big_quiet_step (fail))
  refine wpQuiet_nil ?_
  clear hne p0 p9 pw
  have ee : Ex (fun _ => False) w2 w2.drew := (Ex.refl _ w2).drew
  have B_3 := Lib.hid (B_2.out.ex ee (fun h => h))
  have R_3 := Lib.hid (R_2.out.ex ee (fun h => h))
  have O_3 := Lib.hid (O_2.out.ex ee (fun b_ h_ => h_.elim))
  have X_3 := Lib.hid (X_2.out.ex ee (fun b_ h_ => h_.elim))
  clear ee B_2 R_2 O_2 X_2
  have EE0 := Lib.hid ((Ex.refl (fun k => base ≤ k) w2).drew)
  generalize w2.drew = w3 at *
  have SZ3 := Lib.hid (Nat.le_trans SZ.out X_3.out.size)
  have HWN := Lib.hid (show W.length ≤ 64 by have := HWL.out; have := HNB.out; omega)
  generalize nth ws p = z at *
  go_wp2_with fail
  refine behind_normal ⟨(Ex (fun k => base ≤ k) w2), fun W h => h, by first | exact EE0.out.alloc _ | exact fun _ => EE0.out.alloc _, ?_⟩
  refine PhasedT.go ?_
  simp only [pick, List.map_cons, List.map_nil, List.getElem?_cons_zero, List.getElem?_cons_succ, Option.getD_some]
  repeat (go_big_quiet_step (fail))
  refine wpQuiet_nil ?_
  go_wp2_with (at_builtin; refine wpList_append_own _ rfl _ _ 42 rfl base 43 i0 (.int .u64 0) 1 8 Try.underlying42 hi0 hz0 hz1 hz2 rfl (by decide) _ _ _ rfl (World.ownsRow.alloc O_3.out _) ⟨w3.heap.size, 0, none⟩ 1 1 [.int .u64 z] rfl rfl ?c1 ?c2 ?c3 ?c4 ?c5 ?_)
  case c1 =>
    have hbn := Blk.new w3 43 #[.int .u64 z]
    intro j u hj
    match j, hj with
    | 0, hj => simp at hj; subst hj; exact hbn.cell 0
  case c2 =>
    intro u hu
    simp only [List.mem_cons, List.not_mem_nil, or_false] at hu
    subst hu; rfl
  case c3 => have h1 := HWN.out; have h2 := SZ3.out; first | omega | (unfold maxLen; omega) | (simp; omega)
  case c4 => have h1 := HWN.out; have h2 := SZ3.out; first | omega | (unfold maxLen; omega) | (simp; omega)
  case c5 => have h1 := HWN.out; have h2 := SZ3.out; first | omega | (unfold maxLen; omega) | (simp; omega)
  intro v' w4 hown' hgrow _
  have hbel := ((Below.refl base w3).alloc SZ3.out (.cells #[.int .u64 z] 43)).grown hgrow (by have := SZ3.out; simp; omega) (fun k hk => (World.ownsRow.lt O_3.out k hk).1)
  have hown2 : OwnR w4 base v' (W ++ [z]) := by unfold OwnR; simpa using hown'
  obtain ⟨va2, vc2, rfl⟩ := hown2.form
  have hlw : (W ++ [z]).length = W.length + 1 := by simp
  have HO2 := Lib.hid (show OwnR w4 base (.slice va2 (W.length + 1) vc2) (W ++ [z]) by have := hown2; rw [hlw] at this; exact this)
  have he : Ex (fun k => base ≤ k) w3 w4 := ⟨hbel.os, hbel.tape, hbel.output, hbel.size, fun k hk hn => hbel.block k (by omega)⟩
  have B_9 := Lib.hid (B_3.out.ex he (by have := ORD.out; omega))
  have R_9 := Lib.hid (R_3.out.ex he (by have := ORD.out; omega))
  have X_9 := Lib.hid (X_3.out.ex he (fun k hk => .inr hk))
  have EE1 := Lib.hid (EE0.out.trans he)
  clear hown' hgrow hbel hown2 he B_3 R_3 O_3 X_3 EE0
  refine behind_normal ⟨(Ex (fun k => base ≤ k) w2), fun W h => h, by first | exact EE1.out | exact fun _ => EE1.out, ?_⟩
  refine PhasedT.go ?_
  simp only [pick, List.map_cons, List.map_nil, List.getElem?_cons_zero, List.getElem?_cons_succ, Option.getD_some]
  repeat (go_big_quiet_step (fail))
  refine wpQuiet_nil ?_
  have Bq0 := B_9.out.cell 0
  simp only [List.getElem?_toArray, List.getElem?_cons_succ, List.getElem?_cons_zero] at Bq0
  go_wp2_with fail
  refine behind_normal ⟨(Ex (fun k => base ≤ k) w2), fun W h => h, by first | exact EE1.out | exact fun _ => EE1.out, ?_⟩
  refine PhasedT.go ?_
  simp only [pick, List.map_cons, List.map_nil, List.getElem?_cons_zero, List.getElem?_cons_succ, Option.getD_some]
  repeat (go_big_quiet_step (fail))
  refine wpQuiet_nil ?_
  clear Bq0
  go_wp2_with fail
  have Bq0 := (B_9.out).cell 0
  have Bq9 := (B_9.out).cell 9
  simp only [List.getElem?_toArray, List.getElem?_cons_succ, List.getElem?_cons_zero] at Bq0 Bq9
  have Bf9 := (B_9.out).frozen 9
  refine behind_normal ⟨(Ex (fun k => base ≤ k) w2), fun W h => h, by first | exact EE1.out | exact fun _ => EE1.out, ?_⟩
  refine PhasedT.go ?_
  simp only [pick, List.map_cons, List.map_nil, List.getElem?_cons_zero, List.getElem?_cons_succ, Option.getD_some]
  repeat (go_big_quiet_step (fail))
  refine wpQuiet_nil ?_
  go_wp2_with fail
  refine behind_normal ⟨(Ex (fun k => base ≤ k) w2), fun W h => h, by first | exact fun h => absurd h (by decide) | trivial | simp, ?_⟩
  refine PhasedT.end_ ?_
  clear Bq0 Bq9 Bf9
  have bb := (B_9.out.set_ 9 (.slice va2 (W.length + 1) vc2))
  simp only [List.setIfInBounds_toArray, List.set_cons_succ, List.set_cons_zero] at bb
  have BB := Lib.hid bb
  clear bb
  have ee : Ex (fun k => k = f) w4 (w4.setCell ⟨f, 9, none⟩ (.slice va2 (W.length + 1) vc2)) := ((Ex.refl (fun k => k = f) w4).setCell (q := ⟨f, 9, none⟩) (.inl rfl) (.slice va2 (W.length + 1) vc2))
  have R_4 := Lib.hid (R_9.out.ex ee (by have o_ := ORD.out; omega))
  have O_4 := Lib.hid (HO2.out.ex ee (fun b_ h_ => by have o_ := ORD.out; have h_ : b_ = f := h_; first | omega | (show _ ∨ _; omega)))
  have X_4 := Lib.hid (X_9.out.ex ee (fun b_ h_ => by have o_ := ORD.out; have h_ : b_ = f := h_; first | omega | (show _ ∨ _; omega)))
  have B_4 := Lib.hid (BB.out)
  clear ee B_9 R_9 HO2 X_9 BB
  generalize (w4.setCell ⟨f, 9, none⟩ (.slice va2 (W.length + 1) vc2)) = w5 at *
  have kl0 : (((W.length + 1 : Nat) : Int) == wo) = true := beq_iff_eq.2 (by have := HV2.out; have := HWL.out; push_cast; omega)
  have kl1 : ((W.length : Int) + 1 == wo) = true := beq_iff_eq.2 (by have := HV2.out; have := HWL.out; omega)
  go_upto_region 15 with fail
  have hne : Nonempty (Held (fun W => W = w5.drew)) := ⟨⟨_, rfl⟩⟩
  have p0 : ∀ y : Held (fun W => W = w5.drew), y.w.cell? ⟨f, 0, none⟩ = some (.int .i64 ow) := fun y => by rw [y.ok]; exact B_4.out.cell 0
  have p3 : ∀ y : Held (fun W => W = w5.drew), y.w.cell? ⟨f, 3, none⟩ = some (.int .i64 wo) := fun y => by rw [y.ok]; exact B_4.out.cell 3
  have p9 : ∀ y : Held (fun W => W = w5.drew), y.w.cell? ⟨f, 9, none⟩ = some (.slice va2 (W.length + 1) vc2) := fun y => by rw [y.ok]; exact B_4.out.cell 9
  refine drawn_bars (S := fun _ => True) [] [0, 1, 2, 3, 4, 5, 6, 7, 8, 9, 10] (by kernel_rfl) (by kernel_rfl) (by kernel_rfl) rfl trivial ?_
  refine Phased.end_ ?_
  simp only [pick, List.map_cons, List.map_nil, List.getElem?_cons_zero, List.getElem?_cons_succ, Option.getD_some]
  repeat (go_big_quiet_step (fail))
  refine wpQuiet_nil ?_
  clear hne p0 p3 p9
  have ee : Ex (fun _ => False) w5 w5.drew := (Ex.refl _ w5).drew
  have B_5 := Lib.hid (B_4.out.ex ee (fun h => h))
  have R_5 := Lib.hid (R_4.out.ex ee (fun h => h))
  have O_5 := Lib.hid (O_4.out.ex ee (fun b_ h_ => h_.elim))
  have X_5 := Lib.hid (X_4.out.ex ee (fun b_ h_ => h_.elim))
  clear ee B_4 R_4 O_4 X_4
  generalize w5.drew = w6 at *
  have Bq0 := (B_5.out).cell 0
  have Bq6 := (B_5.out).cell 6
  simp only [List.getElem?_toArray, List.getElem?_cons_succ, List.getElem?_cons_zero] at Bq0 Bq6
  have Bf6 := (B_5.out).frozen 6
  go_wp2_with fail
  clear Bq0 Bq6 Bf6
  have bb := (B_5.out.set_ 6 (.int .i64 3))
  simp only [List.setIfInBounds_toArray, List.set_cons_succ, List.set_cons_zero] at bb
  have BB := Lib.hid bb
  clear bb
  have ee : Ex (fun k => k = f) w6 (w6.setCell ⟨f, 6, none⟩ (.int .i64 3)) := ((Ex.refl (fun k => k = f) w6).setCell (q := ⟨f, 6, none⟩) (.inl rfl) (.int .i64 3))
  have R_6 := Lib.hid (R_5.out.ex ee (by have o_ := ORD.out; omega))
  have O_6 := Lib.hid (O_5.out.ex ee (fun b_ h_ => by have o_ := ORD.out; have h_ : b_ = f := h_; first | omega | (show _ ∨ _; omega)))
  have X_6 := Lib.hid (X_5.out.ex ee (fun b_ h_ => by have o_ := ORD.out; have h_ : b_ = f := h_; first | omega | (show _ ∨ _; omega)))
  have B_6 := Lib.hid (BB.out)
  clear ee B_5 R_5 O_5 X_5 BB
  first | (refine bodyPost_ret (results_none rfl _ _ _) rfl ?_) | go_end0
  have hz9 : wordF ws (placeR (⟨ow, q, fi, wo, de⟩ : Spot) gen nn) = z := HZ9.out
  rw [hz9]
  exact ⟨rfl, ⟨_, ⟨B_6.out, O_6.out, ORD.out.2.2, Nat.le_trans SZ.out X_6.out.size⟩⟩, R_6.out, X_6.out⟩
set_option maxRecDepth 100000 in
set_option maxHeartbeats 4000000 in
theorem F9_kept (base f hb : Nat) (ws : List Int) (ow : Int) (q : Nat) (fi wo de : Int) (tries : Int) (v : Value) (W got : List Int) (had gen nn begun steps : Int) (w : World) (ho : RfAt w base f (⟨ow, q, fi, wo, de⟩ : Spot) tries v W ⟨0, 2, had, gen, nn, begun, steps⟩) (hr : Row w hb ws) (hi : RInv (⟨ow, q, fi, wo, de⟩ : Spot) tries ⟨0, 2, had, gen, nn, begun, steps⟩ got)
    (hf : ∀ y ∈ ws, 0 ≤ y ∧ y ≤ 18446744073709551615) (ne : f ≠ hb ∧ hb < base) (hin : q < ws.length) (hk : keptB (nth ws q) gen de = true) :
    Calls Try.prog 15 #[.pointer (some ⟨f, 0, none⟩), .slice (some ⟨hb, 0, none⟩) ws.length ws.length] w fun e w' => e = .returned (.tuple #[]) ∧ (∃ v', RfAt w' base f (⟨ow, q, fi, wo, de⟩ : Spot) tries v' (W) ⟨1, 2, had, gen, nn, begun, steps + 1⟩) ∧ Row w' hb ws ∧ Ex (fun k => k = f ∨ base ≤ k) w w' := by
  have hgn := hi.gen
  have hde := hi.right.2.1
  simp only at hgn hde
  have HGN := Lib.hid hgn
  have HDE := Lib.hid hde
  have HHAD := Lib.hid hi.had
  have HTR := Lib.hid hi.tr
  clear hgn hde
  have B0 := Lib.hid (show Blk w f 50 _ from ho.head)
  have R0 := Lib.hid hr
  have O0 := Lib.hid (show OwnR w base _ W from ho.own)
  have X0 := Lib.hid (Ex.refl (fun k => k = f ∨ base ≤ k) w)
  have HI := Lib.hid hi
  have ORD := Lib.hid (show f ≠ hb ∧ hb < base ∧ f < base from ⟨ne.1, ne.2, ho.lt.1⟩)
  have SZ := Lib.hid ho.lt.2
  have HFT := Lib.hid hf
  unfold frCs at B0
  simp only [show (0 : Int) + 1 = 1 from rfl, show (1 : Int) + 1 = 2 from rfl, show (2 : Int) + 1 = 3 from rfl] at B0
  have HIN := Lib.hid hin
  have HK := Lib.hid hk
  have hst : wrap64 (steps + 1) = steps + 1 := hi.wst
  have hne9 : f ≠ hb := ne.1
  have hne8 : hb ≠ f := fun e => ne.1 e.symm
  clear ho hr hi ne hf hin hk
  have Bq0 := (B0.out).cell 0
  have Bq1 := (B0.out).cell 1
  have Bq6 := (B0.out).cell 6
  have Bq11 := (B0.out).cell 11
  have Bq12 := (B0.out).cell 12
  simp only [List.getElem?_toArray, List.getElem?_cons_succ, List.getElem?_cons_zero] at Bq0 Bq1 Bq6 Bq11 Bq12
  have Bf12 := (B0.out).frozen 12
  have k1 : decide ((q : Int) < 0) = false := decide_eq_false (by omega)
  have kq0 : (0 : Int) ≤ (q : Int) := by omega
  have kq1 : (q : Int) < (ws.length : Int) := by have := HIN.out; omega
  have k2 : decide ((q : Int) ≥ (ws.length : Int)) = false := decide_eq_false (by omega)
  have kqn : q < ws.length := HIN.out
  go_enter Try.func15, Try.ntmps15
  go_upto_region 18 with fail
  clear Bq0 Bq1 Bq6 Bq11 Bq12 Bf12
  have bb := (B0.out.set_ 12 (.int .i64 (steps + 1)))
  simp only [List.setIfInBounds_toArray, List.set_cons_succ, List.set_cons_zero] at bb
  have BB := Lib.hid bb
  clear bb
  have ee : Ex (fun k => k = f) w (w.setCell ⟨f, 12, none⟩ (.int .i64 (steps + 1))) := ((Ex.refl (fun k => k = f) w).setCell (q := ⟨f, 12, none⟩) (.inl rfl) (.int .i64 (steps + 1)))
  have R_1 := Lib.hid (R0.out.ex ee (by have o_ := ORD.out; omega))
  have O_1 := Lib.hid (O0.out.ex ee (fun b_ h_ => by have o_ := ORD.out; have h_ : b_ = f := h_; first | omega | (show _ ∨ _; omega)))
  have X_1 := Lib.hid (X0.out.ex ee (fun b_ h_ => by have o_ := ORD.out; have h_ : b_ = f := h_; first | omega | (show _ ∨ _; omega)))
  have B_1 := Lib.hid (BB.out)
  clear ee B0 R0 O0 X0 BB
  generalize (w.setCell ⟨f, 12, none⟩ (.int .i64 (steps + 1))) = w2 at *
  have HRG := Lib.hid (HFT.out (nth ws q) (nth_mem HIN.out))
  have hne : Nonempty (Held (Below w2.heap.size w2)) := ⟨⟨w2, (Below.refl _ _)⟩⟩
  have rB0 : ∀ x : Held (Below w2.heap.size w2), x.w.cell? ⟨f, 0, none⟩ = some (.int .i64 ow) := fun x => (B_1.out.bl x.ok).cell 0
  have rB4 : ∀ x : Held (Below w2.heap.size w2), x.w.cell? ⟨f, 4, none⟩ = some (.int .i64 de) := fun x => (B_1.out.bl x.ok).cell 4
  have rB8 : ∀ x : Held (Below w2.heap.size w2), x.w.cell? ⟨f, 8, none⟩ = some (.int .u64 gen) := fun x => (B_1.out.bl x.ok).cell 8
  have pw : ∀ x : Held (Below w2.heap.size w2), x.w.cell? ⟨hb, q, none⟩ = some (.int .u64 (nth ws q)) := fun x => (R_1.out.bl x.ok).word HIN.out
  refine drawn_bars (S := (Below w2.heap.size w2)) [([0, 1, 2, 3, 4, 5, 6, 7, 8, 9, 10, 11, 12], 13)] [] (by kernel_rfl) (by kernel_rfl) (by kernel_rfl) rfl (Below.refl _ _).drew ?_
  refine Phased.go ?_
  simp only [pick, List.map_cons, List.map_nil, List.getElem?_cons_zero, List.getElem?_cons_succ, Option.getD_some]
  repeat (go_big_quiet_step (fail))
  refine wpQuiet_nil ?_
  go_wp2_with fail
  refine (r7Kept_any (nth ws q) gen de _ HRG.out HGN.out.1 HDE.out).mono ?_; rintro e w3 ⟨rfl, rfl⟩
  rw [HK.out]
  go_wp2_with fail
  refine behind_normal ⟨(Below w2.heap.size w2), fun W h => h, (Below.refl _ _).drew, ?_⟩
  refine Phased.end_ ?_
  have hne5 : Nonempty (Held (fun W => W = w2.drew)) := ⟨⟨_, rfl⟩⟩
  simp only [pick, List.map_cons, List.map_nil, List.getElem?_cons_zero, List.getElem?_cons_succ, Option.getD_some]
  repeat (go_big_quiet_step (fail))
  refine wpQuiet_nil ?_
  clear hne5 hne rB0 rB4 rB8 pw
  have ee : Ex (fun _ => False) w2 w2.drew := (Ex.refl _ w2).drew
  have B_2 := Lib.hid (B_1.out.ex ee (fun h => h))
  have R_2 := Lib.hid (R_1.out.ex ee (fun h => h))
  have O_2 := Lib.hid (O_1.out.ex ee (fun b_ h_ => h_.elim))
  have X_2 := Lib.hid (X_1.out.ex ee (fun b_ h_ => h_.elim))
  clear ee B_1 R_1 O_1 X_1
  generalize w2.drew = w4 at *
  have Bq0 := (B_2.out).cell 0
  have Bq11 := (B_2.out).cell 11
  simp only [List.getElem?_toArray, List.getElem?_cons_succ, List.getElem?_cons_zero] at Bq0 Bq11
  have Bf11 := (B_2.out).frozen 11
  go_wp2_with fail
  clear Bq0 Bq11 Bf11
  have bb := (B_2.out.set_ 11 (.int .i64 1))
  simp only [List.setIfInBounds_toArray, List.set_cons_succ, List.set_cons_zero] at bb
  have BB := Lib.hid bb
  clear bb
  have ee : Ex (fun k => k = f) w4 (w4.setCell ⟨f, 11, none⟩ (.int .i64 1)) := ((Ex.refl (fun k => k = f) w4).setCell (q := ⟨f, 11, none⟩) (.inl rfl) (.int .i64 1))
  have R_3 := Lib.hid (R_2.out.ex ee (by have o_ := ORD.out; omega))
  have O_3 := Lib.hid (O_2.out.ex ee (fun b_ h_ => by have o_ := ORD.out; have h_ : b_ = f := h_; first | omega | (show _ ∨ _; omega)))
  have X_3 := Lib.hid (X_2.out.ex ee (fun b_ h_ => by have o_ := ORD.out; have h_ : b_ = f := h_; first | omega | (show _ ∨ _; omega)))
  have B_3 := Lib.hid (BB.out)
  clear ee B_2 R_2 O_2 X_2 BB
  first | (refine bodyPost_ret (results_none rfl _ _ _) rfl ?_) | go_end0
  exact ⟨rfl, ⟨_, ⟨B_3.out, O_3.out, ORD.out.2.2, Nat.le_trans SZ.out X_3.out.size⟩⟩, R_3.out, X_3.out⟩
set_option maxRecDepth 100000 in
set_option maxHeartbeats 4000000 in
theorem F9_spent (base f hb : Nat) (ws : List Int) (ow : Int) (q : Nat) (fi wo de : Int) (tries : Int) (v : Value) (W got : List Int) (had gen nn begun steps : Int) (w : World) (ho : RfAt w base f (⟨ow, q, fi, wo, de⟩ : Spot) tries v W ⟨0, 2, had, gen, nn, begun, steps⟩) (hr : Row w hb ws) (hi : RInv (⟨ow, q, fi, wo, de⟩ : Spot) tries ⟨0, 2, had, gen, nn, begun, steps⟩ got)
    (hf : ∀ y ∈ ws, 0 ≤ y ∧ y ≤ 18446744073709551615) (ne : f ≠ hb ∧ hb < base) (hin : q < ws.length) (hk : keptB (nth ws q) gen de = false) (hv2 : had + 1 = tries) :
    Calls Try.prog 15 #[.pointer (some ⟨f, 0, none⟩), .slice (some ⟨hb, 0, none⟩) ws.length ws.length] w fun e w' => e = .returned (.tuple #[]) ∧ (∃ v', RfAt w' base f (⟨ow, q, fi, wo, de⟩ : Spot) tries v' (W) ⟨2, 0, had + 1, gen, nn, begun, steps + 1⟩) ∧ Row w' hb ws ∧ Ex (fun k => k = f ∨ base ≤ k) w w' := by
  have hgn := hi.gen
  have hde := hi.right.2.1
  simp only at hgn hde
  have HGN := Lib.hid hgn
  have HDE := Lib.hid hde
  have HHAD := Lib.hid hi.had
  have HTR := Lib.hid hi.tr
  clear hgn hde
  have B0 := Lib.hid (show Blk w f 50 _ from ho.head)
  have R0 := Lib.hid hr
  have O0 := Lib.hid (show OwnR w base _ W from ho.own)
  have X0 := Lib.hid (Ex.refl (fun k => k = f ∨ base ≤ k) w)
  have HI := Lib.hid hi
  have ORD := Lib.hid (show f ≠ hb ∧ hb < base ∧ f < base from ⟨ne.1, ne.2, ho.lt.1⟩)
  have SZ := Lib.hid ho.lt.2
  have HFT := Lib.hid hf
  unfold frCs at B0
  simp only [show (0 : Int) + 1 = 1 from rfl, show (1 : Int) + 1 = 2 from rfl, show (2 : Int) + 1 = 3 from rfl] at B0
  have HIN := Lib.hid hin
  have HK := Lib.hid hk
  have HV2 := Lib.hid hv2
  have hst : wrap64 (steps + 1) = steps + 1 := hi.wst
  have hne9 : f ≠ hb := ne.1
  have hne8 : hb ≠ f := fun e => ne.1 e.symm
  clear ho hr hi ne hf hin hk hv2
  have Bq0 := (B0.out).cell 0
  have Bq1 := (B0.out).cell 1
  have Bq6 := (B0.out).cell 6
  have Bq11 := (B0.out).cell 11
  have Bq12 := (B0.out).cell 12
  simp only [List.getElem?_toArray, List.getElem?_cons_succ, List.getElem?_cons_zero] at Bq0 Bq1 Bq6 Bq11 Bq12
  have Bf12 := (B0.out).frozen 12
  have k1 : decide ((q : Int) < 0) = false := decide_eq_false (by omega)
  have kq0 : (0 : Int) ≤ (q : Int) := by omega
  have kq1 : (q : Int) < (ws.length : Int) := by have := HIN.out; omega
  have k2 : decide ((q : Int) ≥ (ws.length : Int)) = false := decide_eq_false (by omega)
  have kqn : q < ws.length := HIN.out
  go_enter Try.func15, Try.ntmps15
  go_upto_region 18 with fail
  clear Bq0 Bq1 Bq6 Bq11 Bq12 Bf12
  have bb := (B0.out.set_ 12 (.int .i64 (steps + 1)))
  simp only [List.setIfInBounds_toArray, List.set_cons_succ, List.set_cons_zero] at bb
  have BB := Lib.hid bb
  clear bb
  have ee : Ex (fun k => k = f) w (w.setCell ⟨f, 12, none⟩ (.int .i64 (steps + 1))) := ((Ex.refl (fun k => k = f) w).setCell (q := ⟨f, 12, none⟩) (.inl rfl) (.int .i64 (steps + 1)))
  have R_1 := Lib.hid (R0.out.ex ee (by have o_ := ORD.out; omega))
  have O_1 := Lib.hid (O0.out.ex ee (fun b_ h_ => by have o_ := ORD.out; have h_ : b_ = f := h_; first | omega | (show _ ∨ _; omega)))
  have X_1 := Lib.hid (X0.out.ex ee (fun b_ h_ => by have o_ := ORD.out; have h_ : b_ = f := h_; first | omega | (show _ ∨ _; omega)))
  have B_1 := Lib.hid (BB.out)
  clear ee B0 R0 O0 X0 BB
  generalize (w.setCell ⟨f, 12, none⟩ (.int .i64 (steps + 1))) = w2 at *
  have HRG := Lib.hid (HFT.out (nth ws q) (nth_mem HIN.out))
  have hne : Nonempty (Held (Below w2.heap.size w2)) := ⟨⟨w2, (Below.refl _ _)⟩⟩
  have rB0 : ∀ x : Held (Below w2.heap.size w2), x.w.cell? ⟨f, 0, none⟩ = some (.int .i64 ow) := fun x => (B_1.out.bl x.ok).cell 0
  have rB4 : ∀ x : Held (Below w2.heap.size w2), x.w.cell? ⟨f, 4, none⟩ = some (.int .i64 de) := fun x => (B_1.out.bl x.ok).cell 4
  have rB8 : ∀ x : Held (Below w2.heap.size w2), x.w.cell? ⟨f, 8, none⟩ = some (.int .u64 gen) := fun x => (B_1.out.bl x.ok).cell 8
  have pw : ∀ x : Held (Below w2.heap.size w2), x.w.cell? ⟨hb, q, none⟩ = some (.int .u64 (nth ws q)) := fun x => (R_1.out.bl x.ok).word HIN.out
  refine drawn_bars (S := (Below w2.heap.size w2)) [([0, 1, 2, 3, 4, 5, 6, 7, 8, 9, 10, 11, 12], 13)] [] (by kernel_rfl) (by kernel_rfl) (by kernel_rfl) rfl (Below.refl _ _).drew ?_
  refine Phased.go ?_
  simp only [pick, List.map_cons, List.map_nil, List.getElem?_cons_zero, List.getElem?_cons_succ, Option.getD_some]
  repeat (go_big_quiet_step (fail))
  refine wpQuiet_nil ?_
  go_wp2_with fail
  refine (r7Kept_any (nth ws q) gen de _ HRG.out HGN.out.1 HDE.out).mono ?_; rintro e w3 ⟨rfl, rfl⟩
  rw [HK.out]
  go_wp2_with fail
  refine behind_normal ⟨(Below w2.heap.size w2), fun W h => h, (Below.refl _ _).drew, ?_⟩
  refine Phased.end_ ?_
  have hne5 : Nonempty (Held (fun W => W = w2.drew)) := ⟨⟨_, rfl⟩⟩
  simp only [pick, List.map_cons, List.map_nil, List.getElem?_cons_zero, List.getElem?_cons_succ, Option.getD_some]
  repeat (go_big_quiet_step (fail))
  refine wpQuiet_nil ?_
  clear hne5 hne rB0 rB4 rB8 pw
  have ee : Ex (fun _ => False) w2 w2.drew := (Ex.refl _ w2).drew
  have B_2 := Lib.hid (B_1.out.ex ee (fun h => h))
  have R_2 := Lib.hid (R_1.out.ex ee (fun h => h))
  have O_2 := Lib.hid (O_1.out.ex ee (fun b_ h_ => h_.elim))
  have X_2 := Lib.hid (X_1.out.ex ee (fun b_ h_ => h_.elim))
  clear ee B_1 R_1 O_1 X_1
  generalize w2.drew = w4 at *
  have hw1 : wrap64 (had + 1) = had + 1 := wrap64_in _ (by have := HHAD.out; have := HTR.out; omega)
  have Bq0 := (B_2.out).cell 0
  have Bq6 := (B_2.out).cell 6
  have Bq7 := (B_2.out).cell 7
  simp only [List.getElem?_toArray, List.getElem?_cons_succ, List.getElem?_cons_zero] at Bq0 Bq6 Bq7
  have Bf6 := (B_2.out).frozen 6
  have Bf7 := (B_2.out).frozen 7
  go_upto_region 22 with fail
  clear Bq0 Bq6 Bq7 Bf6 Bf7
  have bb := ((B_2.out.set_ 7 (.int .i64 (had + 1))).set_ 6 (.int .i64 1))
  simp only [List.setIfInBounds_toArray, List.set_cons_succ, List.set_cons_zero] at bb
  have BB := Lib.hid bb
  clear bb
  have ee : Ex (fun k => k = f) w4 ((w4.setCell ⟨f, 7, none⟩ (.int .i64 (had + 1))).setCell ⟨f, 6, none⟩ (.int .i64 1)) := (((Ex.refl (fun k => k = f) w4).setCell (q := ⟨f, 7, none⟩) (.inl rfl) (.int .i64 (had + 1))).setCell (q := ⟨f, 6, none⟩) (.inl rfl) (.int .i64 1))
  have R_3 := Lib.hid (R_2.out.ex ee (by have o_ := ORD.out; omega))
  have O_3 := Lib.hid (O_2.out.ex ee (fun b_ h_ => by have o_ := ORD.out; have h_ : b_ = f := h_; first | omega | (show _ ∨ _; omega)))
  have X_3 := Lib.hid (X_2.out.ex ee (fun b_ h_ => by have o_ := ORD.out; have h_ : b_ = f := h_; first | omega | (show _ ∨ _; omega)))
  have B_3 := Lib.hid (BB.out)
  clear ee B_2 R_2 O_2 X_2 BB
  generalize ((w4.setCell ⟨f, 7, none⟩ (.int .i64 (had + 1))).setCell ⟨f, 6, none⟩ (.int .i64 1)) = w5 at *
  have kl : (had + 1 == tries) = true := beq_iff_eq.2 HV2.out
  have hne : Nonempty (Held (fun W => W = w5.drew)) := ⟨⟨_, rfl⟩⟩
  have p0 : ∀ y : Held (fun W => W = w5.drew), y.w.cell? ⟨f, 0, none⟩ = some (.int .i64 ow) := fun y => by rw [y.ok]; exact B_3.out.cell 0
  have p5 : ∀ y : Held (fun W => W = w5.drew), y.w.cell? ⟨f, 5, none⟩ = some (.int .i64 tries) := fun y => by rw [y.ok]; exact B_3.out.cell 5
  have p7 : ∀ y : Held (fun W => W = w5.drew), y.w.cell? ⟨f, 7, none⟩ = some (.int .i64 (had + 1)) := fun y => by rw [y.ok]; exact B_3.out.cell 7
  refine drawn_bars (S := fun _ => True) [] [0, 1, 2, 3, 4, 5, 6, 7, 8] (by kernel_rfl) (by kernel_rfl) (by kernel_rfl) rfl trivial ?_
  refine Phased.end_ ?_
  simp only [pick, List.map_cons, List.map_nil, List.getElem?_cons_zero, List.getElem?_cons_succ, Option.getD_some]
  repeat (go_big_quiet_step (fail))
  refine wpQuiet_nil ?_
  clear hne p0 p5 p7
  have ee : Ex (fun _ => False) w5 w5.drew := (Ex.refl _ w5).drew
  have B_4 := Lib.hid (B_3.out.ex ee (fun h => h))
  have R_4 := Lib.hid (R_3.out.ex ee (fun h => h))
  have O_4 := Lib.hid (O_3.out.ex ee (fun b_ h_ => h_.elim))
  have X_4 := Lib.hid (X_3.out.ex ee (fun b_ h_ => h_.elim))
  clear ee B_3 R_3 O_3 X_3
  generalize w5.drew = w6 at *
  have Bq0 := (B_4.out).cell 0
  have Bq11 := (B_4.out).cell 11
  simp only [List.getElem?_toArray, List.getElem?_cons_succ, List.getElem?_cons_zero] at Bq0 Bq11
  have Bf11 := (B_4.out).frozen 11
  go_wp2_with fail
  clear Bq0 Bq11 Bf11
  have bb := (B_4.out.set_ 11 (.int .i64 2))
  simp only [List.setIfInBounds_toArray, List.set_cons_succ, List.set_cons_zero] at bb
  have BB := Lib.hid bb
  clear bb
  have ee : Ex (fun k => k = f) w6 (w6.setCell ⟨f, 11, none⟩ (.int .i64 2)) := ((Ex.refl (fun k => k = f) w6).setCell (q := ⟨f, 11, none⟩) (.inl rfl) (.int .i64 2))
  have R_5 := Lib.hid (R_4.out.ex ee (by have o_ := ORD.out; omega))
  have O_5 := Lib.hid (O_4.out.ex ee (fun b_ h_ => by have o_ := ORD.out; have h_ : b_ = f := h_; first | omega | (show _ ∨ _; omega)))
  have X_5 := Lib.hid (X_4.out.ex ee (fun b_ h_ => by have o_ := ORD.out; have h_ : b_ = f := h_; first | omega | (show _ ∨ _; omega)))
  have B_5 := Lib.hid (BB.out)
  clear ee B_4 R_4 O_4 X_4 BB
  first | (refine bodyPost_ret (results_none rfl _ _ _) rfl ?_) | go_end0
  exact ⟨rfl, ⟨_, ⟨B_5.out, O_5.out, ORD.out.2.2, Nat.le_trans SZ.out X_5.out.size⟩⟩, R_5.out, X_5.out⟩
set_option maxRecDepth 100000 in
set_option maxHeartbeats 4000000 in
theorem F9_again (base f hb : Nat) (ws : List Int) (ow : Int) (q : Nat) (fi wo de : Int) (tries : Int) (v : Value) (W got : List Int) (had gen nn begun steps : Int) (w : World) (ho : RfAt w base f (⟨ow, q, fi, wo, de⟩ : Spot) tries v W ⟨0, 2, had, gen, nn, begun, steps⟩) (hr : Row w hb ws) (hi : RInv (⟨ow, q, fi, wo, de⟩ : Spot) tries ⟨0, 2, had, gen, nn, begun, steps⟩ got)
    (hf : ∀ y ∈ ws, 0 ≤ y ∧ y ≤ 18446744073709551615) (ne : f ≠ hb ∧ hb < base) (hin : q < ws.length) (hk : keptB (nth ws q) gen de = false) (hv2 : ¬ had + 1 = tries) :
    Calls Try.prog 15 #[.pointer (some ⟨f, 0, none⟩), .slice (some ⟨hb, 0, none⟩) ws.length ws.length] w fun e w' => e = .returned (.tuple #[]) ∧ (∃ v', RfAt w' base f (⟨ow, q, fi, wo, de⟩ : Spot) tries v' (W) ⟨0, 0, had + 1, gen, nn, begun, steps + 1⟩) ∧ Row w' hb ws ∧ Ex (fun k => k = f ∨ base ≤ k) w w' := by
  have hgn := hi.gen
  have hde := hi.right.2.1
  simp only at hgn hde
  have HGN := Lib.hid hgn
  have HDE := Lib.hid hde
  have HHAD := Lib.hid hi.had
  have HTR := Lib.hid hi.tr
  clear hgn hde
  have B0 := Lib.hid (show Blk w f 50 _ from ho.head)
  have R0 := Lib.hid hr
  have O0 := Lib.hid (show OwnR w base _ W from ho.own)
  have X0 := Lib.hid (Ex.refl (fun k => k = f ∨ base ≤ k) w)
  have HI := Lib.hid hi
  have ORD := Lib.hid (show f ≠ hb ∧ hb < base ∧ f < base from ⟨ne.1, ne.2, ho.lt.1⟩)
  have SZ := Lib.hid ho.lt.2
  have HFT := Lib.hid hf
  unfold frCs at B0
  simp only [show (0 : Int) + 1 = 1 from rfl, show (1 : Int) + 1 = 2 from rfl, show (2 : Int) + 1 = 3 from rfl] at B0
  have HIN := Lib.hid hin
  have HK := Lib.hid hk
  have HV2 := Lib.hid hv2
  have hst : wrap64 (steps + 1) = steps + 1 := hi.wst
  have hne9 : f ≠ hb := ne.1
  have hne8 : hb ≠ f := fun e => ne.1 e.symm
  clear ho hr hi ne hf hin hk hv2
  have Bq0 := (B0.out).cell 0
  have Bq1 := (B0.out).cell 1
  have Bq6 := (B0.out).cell 6
  have Bq11 := (B0.out).cell 11
  have Bq12 := (B0.out).cell 12
  simp only [List.getElem?_toArray, List.getElem?_cons_succ, List.getElem?_cons_zero] at Bq0 Bq1 Bq6 Bq11 Bq12
  have Bf12 := (B0.out).frozen 12
  have k1 : decide ((q : Int) < 0) = false := decide_eq_false (by omega)
  have kq0 : (0 : Int) ≤ (q : Int) := by omega
  have kq1 : (q : Int) < (ws.length : Int) := by have := HIN.out; omega
  have k2 : decide ((q : Int) ≥ (ws.length : Int)) = false := decide_eq_false (by omega)
  have kqn : q < ws.length := HIN.out
  go_enter Try.func15, Try.ntmps15
  go_upto_region 18 with fail
  clear Bq0 Bq1 Bq6 Bq11 Bq12 Bf12
  have bb := (B0.out.set_ 12 (.int .i64 (steps + 1)))
  simp only [List.setIfInBounds_toArray, List.set_cons_succ, List.set_cons_zero] at bb
  have BB := Lib.hid bb
  clear bb
  have ee : Ex (fun k => k = f) w (w.setCell ⟨f, 12, none⟩ (.int .i64 (steps + 1))) := ((Ex.refl (fun k => k = f) w).setCell (q := ⟨f, 12, none⟩) (.inl rfl) (.int .i64 (steps + 1)))
  have R_1 := Lib.hid (R0.out.ex ee (by have o_ := ORD.out; omega))
  have O_1 := Lib.hid (O0.out.ex ee (fun b_ h_ => by have o_ := ORD.out; have h_ : b_ = f := h_; first | omega | (show _ ∨ _; omega)))
  have X_1 := Lib.hid (X0.out.ex ee (fun b_ h_ => by have o_ := ORD.out; have h_ : b_ = f := h_; first | omega | (show _ ∨ _; omega)))
  have B_1 := Lib.hid (BB.out)
  clear ee B0 R0 O0 X0 BB
  generalize (w.setCell ⟨f, 12, none⟩ (.int .i64 (steps + 1))) = w2 at *
  have HRG := Lib.hid (HFT.out (nth ws q) (nth_mem HIN.out))
  have hne : Nonempty (Held (Below w2.heap.size w2)) := ⟨⟨w2, (Below.refl _ _)⟩⟩
  have rB0 : ∀ x : Held (Below w2.heap.size w2), x.w.cell? ⟨f, 0, none⟩ = some (.int .i64 ow) := fun x => (B_1.out.bl x.ok).cell 0
  have rB4 : ∀ x : Held (Below w2.heap.size w2), x.w.cell? ⟨f, 4, none⟩ = some (.int .i64 de) := fun x => (B_1.out.bl x.ok).cell 4
  have rB8 : ∀ x : Held (Below w2.heap.size w2), x.w.cell? ⟨f, 8, none⟩ = some (.int .u64 gen) := fun x => (B_1.out.bl x.ok).cell 8
  have pw : ∀ x : Held (Below w2.heap.size w2), x.w.cell? ⟨hb, q, none⟩ = some (.int .u64 (nth ws q)) := fun x => (R_1.out.bl x.ok).word HIN.out
  refine drawn_bars (S := (Below w2.heap.size w2)) [([0, 1, 2, 3, 4, 5, 6, 7, 8, 9, 10, 11, 12], 13)] [] (by kernel_rfl) (by kernel_rfl) (by kernel_rfl) rfl (Below.refl _ _).drew ?_
  refine Phased.go ?_
  simp only [pick, List.map_cons, List.map_nil, List.getElem?_cons_zero, List.getElem?_cons_succ, Option.getD_some]
  repeat (go_big_quiet_step (fail))
  refine wpQuiet_nil ?_
  go_wp2_with fail
  refine (r7Kept_any (nth ws q) gen de _ HRG.out HGN.out.1 HDE.out).mono ?_; rintro e w3 ⟨rfl, rfl⟩
  rw [HK.out]
  go_wp2_with fail
  refine behind_normal ⟨(Below w2.heap.size w2), fun W h => h, (Below.refl _ _).drew, ?_⟩
  refine Phased.end_ ?_
  have hne5 : Nonempty (Held (fun W => W = w2.drew)) := ⟨⟨_, rfl⟩⟩
  simp only [pick, List.map_cons, List.map_nil, List.getElem?_cons_zero, List.getElem?_cons_succ, Option.getD_some]
  repeat (go_big_quiet_step (fail))
  refine wpQuiet_nil ?_
  clear hne5 hne rB0 rB4 rB8 pw
  have ee : Ex (fun _ => False) w2 w2.drew := (Ex.refl _ w2).drew
  have B_2 := Lib.hid (B_1.out.ex ee (fun h => h))
  have R_2 := Lib.hid (R_1.out.ex ee (fun h => h))
  have O_2 := Lib.hid (O_1.out.ex ee (fun b_ h_ => h_.elim))
  have X_2 := Lib.hid (X_1.out.ex ee (fun b_ h_ => h_.elim))
  clear ee B_1 R_1 O_1 X_1
  generalize w2.drew = w4 at *
  have hw1 : wrap64 (had + 1) = had + 1 := wrap64_in _ (by have := HHAD.out; have := HTR.out; omega)
  have Bq0 := (B_2.out).cell 0
  have Bq6 := (B_2.out).cell 6
  have Bq7 := (B_2.out).cell 7
  simp only [List.getElem?_toArray, List.getElem?_cons_succ, List.getElem?_cons_zero] at Bq0 Bq6 Bq7
  have Bf6 := (B_2.out).frozen 6
  have Bf7 := (B_2.out).frozen 7
  go_upto_region 22 with fail
  clear Bq0 Bq6 Bq7 Bf6 Bf7
  have bb := ((B_2.out.set_ 7 (.int .i64 (had + 1))).set_ 6 (.int .i64 1))
  simp only [List.setIfInBounds_toArray, List.set_cons_succ, List.set_cons_zero] at bb
  have BB := Lib.hid bb
  clear bb
  have ee : Ex (fun k => k = f) w4 ((w4.setCell ⟨f, 7, none⟩ (.int .i64 (had + 1))).setCell ⟨f, 6, none⟩ (.int .i64 1)) := (((Ex.refl (fun k => k = f) w4).setCell (q := ⟨f, 7, none⟩) (.inl rfl) (.int .i64 (had + 1))).setCell (q := ⟨f, 6, none⟩) (.inl rfl) (.int .i64 1))
  have R_3 := Lib.hid (R_2.out.ex ee (by have o_ := ORD.out; omega))
  have O_3 := Lib.hid (O_2.out.ex ee (fun b_ h_ => by have o_ := ORD.out; have h_ : b_ = f := h_; first | omega | (show _ ∨ _; omega)))
  have X_3 := Lib.hid (X_2.out.ex ee (fun b_ h_ => by have o_ := ORD.out; have h_ : b_ = f := h_; first | omega | (show _ ∨ _; omega)))
  have B_3 := Lib.hid (BB.out)
  clear ee B_2 R_2 O_2 X_2 BB
  generalize ((w4.setCell ⟨f, 7, none⟩ (.int .i64 (had + 1))).setCell ⟨f, 6, none⟩ (.int .i64 1)) = w5 at *
  have kl : (had + 1 == tries) = false := beq_eq_false_iff_ne.2 HV2.out
  have hne : Nonempty (Held (fun W => W = w5.drew)) := ⟨⟨_, rfl⟩⟩
  have p0 : ∀ y : Held (fun W => W = w5.drew), y.w.cell? ⟨f, 0, none⟩ = some (.int .i64 ow) := fun y => by rw [y.ok]; exact B_3.out.cell 0
  have p5 : ∀ y : Held (fun W => W = w5.drew), y.w.cell? ⟨f, 5, none⟩ = some (.int .i64 tries) := fun y => by rw [y.ok]; exact B_3.out.cell 5
  have p7 : ∀ y : Held (fun W => W = w5.drew), y.w.cell? ⟨f, 7, none⟩ = some (.int .i64 (had + 1)) := fun y => by rw [y.ok]; exact B_3.out.cell 7
  refine drawn_bars (S := fun _ => True) [] [0, 1, 2, 3, 4, 5, 6, 7, 8] (by kernel_rfl) (by kernel_rfl) (by kernel_rfl) rfl trivial ?_
  refine Phased.end_ ?_
  simp only [pick, List.map_cons, List.map_nil, List.getElem?_cons_zero, List.getElem?_cons_succ, Option.getD_some]
  repeat (go_big_quiet_step (fail))
  refine wpQuiet_nil ?_
  clear hne p0 p5 p7
  have ee : Ex (fun _ => False) w5 w5.drew := (Ex.refl _ w5).drew
  have B_4 := Lib.hid (B_3.out.ex ee (fun h => h))
  have R_4 := Lib.hid (R_3.out.ex ee (fun h => h))
  have O_4 := Lib.hid (O_3.out.ex ee (fun b_ h_ => h_.elim))
  have X_4 := Lib.hid (X_3.out.ex ee (fun b_ h_ => h_.elim))
  clear ee B_3 R_3 O_3 X_3
  generalize w5.drew = w6 at *
  go_wp2_with fail
  first | (refine bodyPost_ret (results_none rfl _ _ _) rfl ?_) | go_end0
  exact ⟨rfl, ⟨_, ⟨B_4.out, O_4.out, ORD.out.2.2, Nat.le_trans SZ.out X_4.out.size⟩⟩, R_4.out, X_4.out⟩
end Go.Proofs.Ytihogagnjikghaa.Bank
