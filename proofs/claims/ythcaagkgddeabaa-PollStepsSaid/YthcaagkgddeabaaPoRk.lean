/-
  Law 12, the document's answer: Step. Printed by wip/tools/mkpork.py. Conditions stand at each. By an AI agent.
-/
import Derived.Test.YthcaagkgddeabaaPoRg
import Derived.Test.YthcaagkgddeabaaTail
namespace Go.Proofs.Ythcaagkgddeabaa.Bank
set_option linter.unusedVariables false
set_option linter.unusedSimpArgs false
open Go Go.RowKit Go.Proofs.Ythcaagkgddeabaa.Base Go.Deep Go.ChangeShapes Go.WideShapes Go.Proofs.Ythcaagkgddeabaa.Queue
/-- how the document's poll stands -/
structure RS where
  tries : Int
  how : Int
  steps : Int
  at_ : Int
  L : List Int
def rAt (T n : Nat) (l : Nat → Queue.Sub) (s : Nat → Spot) (od ix : Nat → Nat) (y : RS) : Int := nextR T n l s od (gensR n ix y.L) y.L.length
/-- how it stands when the next word, v, is loaded -/
def rTake (T n : Nat) (l : Nat → Queue.Sub) (s : Nat → Spot) (ix : Nat → Nat) (y : RS) (v : Int) : RS :=
  if y.L.length + 1 ≤ T then ⟨y.tries, 0, y.steps + 1, if y.L.length + 1 = T then y.steps + 1 else y.at_, y.L ++ [v]⟩
  else if (y.L.length : Int) + 1 ≤ (T : Int) + sizeR n l s (gensR n ix y.L) then ⟨y.tries, 0, y.steps + 1, y.at_, y.L ++ [v]⟩
  else if v / 2 = nth y.L ((y.L.length : Int) - T - sizeR n l s (gensR n ix y.L)).toNat / 2 then
    ⟨y.tries, if (y.L.length : Int) - T - sizeR n l s (gensR n ix y.L) = (T : Int) - 1 then 1 else 0, y.steps + 1, y.at_, y.L ++ [v]⟩
  else ⟨y.tries - 1, if y.tries - 1 = 0 then 2 else 0, y.steps + 1, y.at_, []⟩
def rStepF (T n : Nat) (l : Nat → Queue.Sub) (s : Nat → Spot) (od ix : Nat → Nat) (ws : List Int) (y : RS) : RS :=
  if y.how ≠ 0 then y else if ¬ inW ws (rAt T n l s od ix y) then ⟨y.tries, 3, y.steps, y.at_, y.L⟩ else rTake T n l s ix y (wordF ws (rAt T n l s od ix y))
def OwnL (w : World) (B : Nat) (v : Value) (L : List Int) : Prop := w.ownsRow B 32 1 v L.length (L.map (Value.int .u64))
theorem OwnL.form {w : World} {B : Nat} {v : Value} {L : List Int} (h : OwnL w B v L) : ∃ a c, v = .slice a L.length c := by
  rcases h.2 with ⟨rfl, h0⟩ | ⟨g, cap, cur, rfl, _⟩
  · exact ⟨none, 0, by rw [h0]⟩
  · exact ⟨_, _, rfl⟩
theorem OwnL.ex {T : Nat → Prop} {w w' : World} {B : Nat} {v : Value} {L : List Int} (h : OwnL w B v L) (p : Ex T w w') (hT : ∀ k, v.ownBlock = some k → B ≤ k → ¬ T k) : OwnL w' B v L := ownsRow_ex h p (fun k hk => hT k hk (World.ownsRow.lt h k hk).1)
theorem OwnL.nil (w : World) (B : Nat) : OwnL w B (.slice none 0 0) [] := ⟨rfl, .inl ⟨rfl, rfl⟩⟩
theorem OwnL.ints {w : World} {B : Nat} {v : Value} {L : List Int} (h : OwnL w B v L) (hl : L.length ≤ maxLen) : Ints w .u64 v L := ints_of_own h hl
/-- what a step leaves -/
def RPost (B f sb sc pb pc ob oc n T : Nat) (lv : Value) (w : World) (y : RS) (w' : World) : Prop :=
  ∃ lv', Blk w' f 86 (rocs sb sc pb pc ob oc n T y.tries lv' y.how y.steps y.at_) ∧ OwnL w' B lv' y.L ∧ (∀ k, lv'.ownBlock = some k → lv.ownBlock = some k ∨ w.heap.size ≤ k) ∧ Ex (fun k => k = f ∨ lv.ownBlock = some k) w w'
theorem gensR_push {n T : Nat} {ix : Nat → Nat} {L : List Int} (v : Int) (h : ∀ i, i < n → ix i < T) (hT : T ≤ L.length) : gensR n ix (L ++ [v]) = gensR n ix L := by
  refine eq_of_nth (by rw [gensR_len, gensR_len]) (fun j hj => ?_)
  rw [gensR_len] at hj
  have h1 := h j hj
  rw [gensR_nth _ _ hj, gensR_nth _ _ hj]
  unfold nth
  rw [List.getD_eq_getElem?_getD, List.getD_eq_getElem?_getD, List.getElem?_append_left (by omega)]
theorem wordF_nt {ws : List Int} {k : Nat} (h : k < ws.length) : wordF ws (k : Int) = nth ws k := by
  unfold wordF
  rw [if_pos ⟨by omega, by omega⟩, Int.toNat_natCast]
theorem nth_push_lt {L : List Int} (v : Int) {i : Nat} (h : i < L.length) : nth (L ++ [v]) i = nth L i := by
  unfold nth
  rw [List.getD_eq_getElem?_getD, List.getD_eq_getElem?_getD, List.getElem?_append_left h]
theorem nth_push_eq (L : List Int) (v : Int) : nth (L ++ [v]) L.length = v := by
  unfold nth
  rw [List.getD_eq_getElem?_getD]
  simp
theorem fit_push {L : List Int} {v : Int} (h : ∀ x ∈ L, 0 ≤ x ∧ x ≤ 18446744073709551615) (hv : 0 ≤ v ∧ v ≤ 18446744073709551615) : ∀ x ∈ L ++ [v], 0 ≤ x ∧ x ≤ 18446744073709551615 := by
  intro x hx
  rcases List.mem_append.1 hx with h1 | h1
  · exact h x h1
  · simp at h1; rw [h1]; exact hv
set_option maxRecDepth 100000 in
set_option maxHeartbeats 16000000 in
theorem RStep_mem (B f sb sc pb pc ob oc n T nb : Nat) (lv : Value) (tries steps at_ : Int) (l : Nat → Queue.Sub) (s : Nat → Spot) (od ix : Nat → Nat) (L ws : List Int) (w : World)
    (hbx : Blk w f 86 (rocs sb sc pb pc ob oc n T tries lv 0 steps at_)) (hs : SubsIn w sb n l) (hp : SpIn w pb n s) (ho : IdxIn w ob T od) (hown : OwnL w B lv L) (hnow : URow w nb ws) (ne : f ≠ sb ∧ f ≠ pb ∧ f ≠ ob ∧ f ≠ nb ∧ f < B ∧ sb < B ∧ pb < B ∧ ob < B ∧ nb < B) (hB : B ≤ w.heap.size) (hn : n ≤ 64) (hlen : L.length ≤ 1000) (hT : 1 ≤ T ∧ T ≤ 64)
    (hod : ∀ k, k < T → od k < n) (hix : ∀ i, i < n → ix i < T ∧ ∀ k, k < T → ((l (od k)).topic = (l i).topic ↔ k = ix i)) (hu : ∀ x ∈ L, 0 ≤ x ∧ x ≤ 18446744073709551615) (huw : ∀ x ∈ ws, 0 ≤ x ∧ x ≤ 18446744073709551615) (hrt : ∀ i, i < n → (l i).cur.Right ∧ (l i).Ok) (hat : ∀ i, i < n → (s i).AtOk)
    (hm : (L.length : Int) < 2 * T + sizeR n l s (gensR n ix L)) (hst : 0 ≤ steps ∧ steps ≤ 1099511627776) (htr : 0 ≤ tries ∧ tries ≤ 16) :
    Calls Try.prog 31 #[.pointer (some ⟨f, 0, none⟩), .slice (some ⟨nb, 0, none⟩) ws.length ws.length] w fun e w' => e = .returned (.bool (decide (inW ws (rAt T n l s od ix ⟨tries, 0, steps, at_, L⟩)))) ∧ RPost B f sb sc pb pc ob oc n T lv w (rStepF T n l s od ix ws ⟨tries, 0, steps, at_, L⟩) w' := by
  have NE := Lib.hid ne
  have SZ := Lib.hid hB
  have HNX := Lib.hid (RNext_any f sb sc pb pc ob oc n T lv tries 0 steps at_ l s od ix L w hbx hs hp ho (OwnL.ints hown (by unfold maxLen; omega)) hn (by omega) hT.2 hod hix hu hrt hat hm)
  have HPK := Lib.hid (fun (lv' : Value) (L' : List Int) (tr' st' a' : Int) (W : World) (h1 : Blk W f 86 (rocs sb sc pb pc ob oc n T tr' lv' 0 st' a')) (h2 : SubsIn W sb n l) (h3 : IdxIn W ob T od) (h4 : Ints W .u64 lv' L') (h5 : T ≤ L'.length) (h6 : ∀ x ∈ L', 0 ≤ x ∧ x ≤ 18446744073709551615) => RPick_any f sb sc pb pc ob oc n T lv' tr' 0 st' a' l od ix L' W h1 h2 h3 h4 hn ⟨h5, hT.2⟩ hod hix h6 hrt)
  have HN64 := Lib.hid hn
  have HT := Lib.hid hT
  have HIX := Lib.hid hix
  have HU := Lib.hid hu
  have HAT := Lib.hid hat
  have HMM := Lib.hid hm
  have HL0 := Lib.hid hlen
  have HSTP := Lib.hid (show wrap64 (steps + 1) = steps + 1 from wrap64_in _ (by omega))
  have HTRP := Lib.hid (show wrap64 (tries - 1) = tries - 1 from wrap64_in _ (by omega))
  have HW := Lib.hid huw
  have HPO : RowKit.Hid (∀ y w', RPost B f sb sc pb pc ob oc n T lv w y w' ↔ ∃ lv', Blk w' f 86 (rocs sb sc pb pc ob oc n T y.tries lv' y.how y.steps y.at_) ∧ OwnL w' B lv' y.L ∧ (∀ k, lv'.ownBlock = some k → lv.ownBlock = some k ∨ w.heap.size ≤ k) ∧ Ex (fun k => k = f ∨ lv.ownBlock = some k) w w') := Lib.hid (fun _ _ => Iff.rfl)
  have B0 := Lib.hid hbx
  have S0 := Lib.hid hs
  have P0 := Lib.hid hp
  have I0 := Lib.hid ho
  have O0 := Lib.hid hown
  have N0 := Lib.hid hnow
  have X0 := Lib.hid (Ex.refl (fun k => k = f ∨ lv.ownBlock = some k) w)
  have HOB := Lib.hid (show ∀ k, lv.ownBlock = some k → lv.ownBlock = some k ∨ w.heap.size ≤ k from fun k hk => .inl hk)
  have HOX := Lib.hid (show ∀ k, lv.ownBlock = some k → B ≤ k from fun k hk => (World.ownsRow.lt hown k hk).1)
  have HST0 := Lib.hid (show rStepF T n l s od ix ws ⟨tries, 0, steps, at_, L⟩ = if ¬ inW ws (rAt T n l s od ix ⟨tries, 0, steps, at_, L⟩) then ⟨tries, 3, steps, at_, L⟩ else rTake T n l s ix ⟨tries, 0, steps, at_, L⟩ (wordF ws (rAt T n l s od ix ⟨tries, 0, steps, at_, L⟩)) from if_neg (fun h => h rfl))
  obtain ⟨A0, c0, hlv⟩ := hown.form
  have HTK := Lib.hid (show ∀ v, rTake T n l s ix ⟨tries, 0, steps, at_, L⟩ v = (if L.length + 1 ≤ T then (⟨tries, 0, steps + 1, if L.length + 1 = T then steps + 1 else at_, L ++ [v]⟩ : RS)
    else if (L.length : Int) + 1 ≤ (T : Int) + sizeR n l s (gensR n ix L) then ⟨tries, 0, steps + 1, at_, L ++ [v]⟩
    else if v / 2 = nth L ((L.length : Int) - T - sizeR n l s (gensR n ix L)).toNat / 2 then
      ⟨tries, if (L.length : Int) - T - sizeR n l s (gensR n ix L) = (T : Int) - 1 then 1 else 0, steps + 1, at_, L ++ [v]⟩
    else ⟨tries - 1, if tries - 1 = 0 then 2 else 0, steps + 1, at_, []⟩) from fun _ => rfl)
  obtain ⟨a, ha⟩ : ∃ a, rAt T n l s od ix ⟨tries, 0, steps, at_, L⟩ = a := ⟨_, rfl⟩
  have ha2 : nextR T n l s od (gensR n ix L) L.length = a := ha
  rw [ha2] at HNX
  rw [ha] at HST0 ⊢
  generalize rStepF T n l s od ix ws ⟨tries, 0, steps, at_, L⟩ = Y at *
  obtain ⟨m, hmL⟩ : ∃ m, L.length = m := ⟨_, rfl⟩
  have HML := Lib.hid hmL
  rw [hmL] at hlv HL0 HMM HTK
  subst hlv
  obtain ⟨db, hdb⟩ : ∃ db, decide (inW ws a) = db := ⟨_, rfl⟩
  rw [hdb]
  have HDB := Lib.hid hdb
  clear hdb
  clear ha ha2 hbx hs hp ho hown hnow ne hB hn hlen hT hod hix hu huw hrt hat hm hst htr hmL
  go_enter Try.func31, Try.ntmps31
  have b0 := B0.out.cell 0
  have b5 := B0.out.cell 5
  simp only [rocs, List.getElem?_toArray, List.getElem?_cons_zero, List.getElem?_cons_succ] at b0 b5
  have kh : ((0 : Int) != 0) = false := rfl
  go_wp2_with fail
  refine HNX.out.mono ?_; rintro e w1 ⟨rfl, hb1⟩
  clear b0 b5 kh
  have ee : Ex (fun _ => False) w w1 := Ex.of_below hb1
  have B1 := Lib.hid (B0.out.ex ee (fun h => h))
  have S1 := Lib.hid (S0.out.ex ee (fun h => h))
  have P1 := Lib.hid (P0.out.ex ee (fun h => h))
  have I1 := Lib.hid (I0.out.ex ee (fun h => h))
  have O1 := Lib.hid (O0.out.ex ee (fun _ _ _ h => h))
  have N1 := Lib.hid (N0.out.ex ee (fun h => h))
  have X1 := Lib.hid (X0.out.trans (ee.mono (fun _ h => h.elim)))
  clear ee B0 S0 P0 I0 O0 N0 X0 hb1 HNX
  by_cases hin : inW ws a
  rotate_left
  · have HY := Lib.hid (show Y = ⟨tries, 3, steps, at_, L⟩ from by rw [HST0.out, if_pos hin])
    have HDI := Lib.hid (show Ending.returned (Value.bool false) = Ending.returned (Value.bool db) from by rw [← HDB.out, decide_eq_false hin])
    have hno : a < 0 ∨ (ws.length : Int) ≤ a := by
      unfold inW at hin
      omega
    clear hin HST0
    rcases hno with hno | hno
    · have k1 : decide (a < 0) = true := decide_eq_true hno
      clear hno
      have b0 := B1.out.cell 0
      have b5 := B1.out.cell 5
      simp only [rocs, List.getElem?_toArray, List.getElem?_cons_zero, List.getElem?_cons_succ] at b0 b5
      have z5 := B1.out.frozen 5
      go_wp2_with fail
      clear b0 b5 z5
      have bb : Blk (w1.setCell ⟨f, 5, none⟩ (.int .i64 3)) f 86 (rocs sb sc pb pc ob oc n T tries (.slice A0 m c0) 3 steps at_) := (B1.out.set_ 5 (.int .i64 3))
      have ee : Ex (fun k => k = f) w1 (w1.setCell ⟨f, 5, none⟩ (.int .i64 3)) := ((Ex.refl (fun k => k = f) w1).setCell (q := ⟨f, 5, none⟩) (.inl rfl) (.int .i64 3))
      have S2 := Lib.hid (S1.out.ex ee (by have o_ := NE.out; omega))
      have P2 := Lib.hid (P1.out.ex ee (by have o_ := NE.out; omega))
      have I2 := Lib.hid (I1.out.ex ee (by have o_ := NE.out; omega))
      have O2 := Lib.hid (O1.out.ex ee (fun k h1_ h2_ hT => by have hT : k = f := hT; have o_ := NE.out; omega))
      have N2 := Lib.hid (N1.out.ex ee (by have o_ := NE.out; omega))
      have X2 := Lib.hid (X1.out.trans (ee.mono (fun _ h => .inl h)))
      have B2 := Lib.hid (bb)
      clear ee B1 S1 P1 I1 O1 N1 X1 bb
      generalize (w1.setCell ⟨f, 5, none⟩ (.int .i64 3)) = w2 at *
      go_ret
      refine ⟨HDI.out, ?_⟩
      rw [HY.out]
      exact (HPO.out _ _).2 ⟨_, B2.out, O2.out, HOB.out, X2.out⟩
    · have hlt0 : ¬ a < 0 := by omega
      have k1 : decide (a < 0) = false := decide_eq_false hlt0
      have k2 : decide (a ≥ (ws.length : Int)) = true := decide_eq_true hno
      clear hlt0
      clear hno
      have b0 := B1.out.cell 0
      have b5 := B1.out.cell 5
      simp only [rocs, List.getElem?_toArray, List.getElem?_cons_zero, List.getElem?_cons_succ] at b0 b5
      have z5 := B1.out.frozen 5
      go_wp2_with fail
      clear b0 b5 z5
      have bb : Blk (w1.setCell ⟨f, 5, none⟩ (.int .i64 3)) f 86 (rocs sb sc pb pc ob oc n T tries (.slice A0 m c0) 3 steps at_) := (B1.out.set_ 5 (.int .i64 3))
      have ee : Ex (fun k => k = f) w1 (w1.setCell ⟨f, 5, none⟩ (.int .i64 3)) := ((Ex.refl (fun k => k = f) w1).setCell (q := ⟨f, 5, none⟩) (.inl rfl) (.int .i64 3))
      have S2 := Lib.hid (S1.out.ex ee (by have o_ := NE.out; omega))
      have P2 := Lib.hid (P1.out.ex ee (by have o_ := NE.out; omega))
      have I2 := Lib.hid (I1.out.ex ee (by have o_ := NE.out; omega))
      have O2 := Lib.hid (O1.out.ex ee (fun k h1_ h2_ hT => by have hT : k = f := hT; have o_ := NE.out; omega))
      have N2 := Lib.hid (N1.out.ex ee (by have o_ := NE.out; omega))
      have X2 := Lib.hid (X1.out.trans (ee.mono (fun _ h => .inl h)))
      have B2 := Lib.hid (bb)
      clear ee B1 S1 P1 I1 O1 N1 X1 bb
      generalize (w1.setCell ⟨f, 5, none⟩ (.int .i64 3)) = w2 at *
      go_ret
      refine ⟨HDI.out, ?_⟩
      rw [HY.out]
      exact (HPO.out _ _).2 ⟨_, B2.out, O2.out, HOB.out, X2.out⟩
  obtain ⟨p, rfl⟩ : ∃ p : Nat, a = p := ⟨a.toNat, by have := hin.1; omega⟩
  have HP := Lib.hid (show p < ws.length by have := hin.2; omega)
  have HY0 := Lib.hid (show Y = rTake T n l s ix ⟨tries, 0, steps, at_, L⟩ (nth ws p) from by rw [HST0.out, if_neg (fun h => h hin), wordF_nt HP.out])
  have HDI := Lib.hid (show Ending.returned (Value.bool true) = Ending.returned (Value.bool db) from by rw [← HDB.out, decide_eq_true hin])
  have HV := Lib.hid (HW.out _ (nth_mem (xs := ws) (i := p) HP.out))
  have kq0 : (0 : Int) ≤ (p : Int) := by omega
  have kq1 : (p : Int) < (ws.length : Int) := by have := HP.out; omega
  have k1 : decide ((p : Int) < 0) = false := decide_eq_false (by omega)
  have k2 : decide ((p : Int) ≥ (ws.length : Int)) = false := decide_eq_false (by omega)
  clear hin HST0
  go_upto_region 7 with fail
  clear k1 k2
  have hne : Nonempty (Held (Ex (fun k => (Value.slice A0 m c0).ownBlock = some k) w1)) := ⟨⟨w1, Ex.refl _ _⟩⟩
  have p0 : ∀ y : Held (Ex (fun k => (Value.slice A0 m c0).ownBlock = some k) w1), y.w.cell? ⟨f, 0, none⟩ = some (.slice (some ⟨sb, 0, none⟩) n sc) := fun y => (B1.out.ex y.ok (fun h => by have o_ := NE.out; have h9 := HOX.out _ h; omega)).cell 0
  have p4 : ∀ y : Held (Ex (fun k => (Value.slice A0 m c0).ownBlock = some k) w1), y.w.cell? ⟨f, 4, none⟩ = some (.slice A0 m c0) := fun y => (B1.out.ex y.ok (fun h => by have o_ := NE.out; have h9 := HOX.out _ h; omega)).cell 4
  have pw : ∀ y : Held (Ex (fun k => (Value.slice A0 m c0).ownBlock = some k) w1), y.w.cell? ⟨nb, p, none⟩ = some (.int .u64 (nth ws p)) := fun y => (N1.out.ex y.ok (fun h => by have o_ := NE.out; have h9 := HOX.out _ h; omega)).word HP.out
  obtain ⟨v, hv⟩ : ∃ v, nth ws p = v := ⟨_, rfl⟩
  rw [hv] at HY0 HV pw
  clear hv
  obtain ⟨i0_, hi0, hz0, hz1, hz2⟩ := info_parts word_info
  refine drawn_tail (S := (Ex (fun k => (Value.slice A0 m c0).ownBlock = some k) w1)) [13] [([0, 1, 2, 3, 4, 5, 6, 7, 8], 9), ([], 10), ([], 11), ([], 12), ([], 13)] (by kernel_rfl) (by kernel_rfl) (by kernel_rfl) rfl (Ex.refl _ _).drew ?_
  refine PhasedT.go ?_
  simp only [pick, List.map_cons, List.map_nil, List.getElem?_cons_zero, List.getElem?_cons_succ, Option.getD_some]
  repeat (go_big_quiet_step (fail))
  refine wpQuiet_nil ?_
  clear hne p4 pw kq0 kq1
  have ee : Ex (fun _ => False) w1 w1.drew := (Ex.refl _ w1).drew
  have B2 := Lib.hid (B1.out.ex ee (fun h => h))
  have S2 := Lib.hid (S1.out.ex ee (fun h => h))
  have P2 := Lib.hid (P1.out.ex ee (fun h => h))
  have I2 := Lib.hid (I1.out.ex ee (fun h => h))
  have O2 := Lib.hid (O1.out.ex ee (fun _ _ _ h => h))
  have N2 := Lib.hid (N1.out.ex ee (fun h => h))
  have X2 := Lib.hid (X1.out.trans (ee.mono (fun _ h => h.elim)))
  clear ee B1 S1 P1 I1 O1 N1 X1
  have EE0 := Lib.hid ((Ex.refl (fun k => (Value.slice A0 m c0).ownBlock = some k) w1).drew)
  generalize w1.drew = wa at *
  go_wp2_with fail
  refine behind_normal ⟨(Ex (fun k => (Value.slice A0 m c0).ownBlock = some k) w1), fun W h => h, by first | exact EE0.out.alloc _ | exact fun _ => EE0.out.alloc _, ?_⟩
  refine PhasedT.go ?_
  simp only [pick, List.map_cons, List.map_nil, List.getElem?_cons_zero, List.getElem?_cons_succ, Option.getD_some]
  repeat (go_big_quiet_step (fail))
  refine wpQuiet_nil ?_
  have HOA := Lib.hid (show wa.ownsRow B 32 1 (.slice A0 m c0) m (L.map (Value.int .u64)) from by have h := O2.out; unfold OwnL at h; rw [HML.out] at h; exact h)
  go_wp2_with (at_builtin; refine wpList_append_own_at _ rfl _ _ 26 rfl B 32 i0_ (.int .u64 0) 1 8 Try.underlying26 hi0 hz0 hz1 hz2 rfl (by decide) _ _ _ rfl (World.ownsRow.alloc HOA.out _) ⟨wa.heap.size, 0, none⟩ 1 1 [.int .u64 v] rfl rfl (one_new wa v) (one_oc v) ?c3 ?c4 ?c5 ?_)
  case c3 => have h1 := HL0.out; unfold maxLen; omega
  case c4 => have h1 := HL0.out; omega
  case c5 => have h1 := SZ.out; have h2 := X2.out.size; simp; omega
  intro v' wb hown' hgrow _ hat9
  have he : Ex (fun k => (Value.slice A0 m c0).ownBlock = some k) wa wb := ((Ex.refl _ wa).alloc (.cells #[.int .u64 v] 32)).trans (ex_grown hgrow (fun k hk => hk))
  have HO2 := Lib.hid (show OwnL wb B v' (L ++ [v]) from by
    unfold OwnL
    rw [List.map_append, List.length_append, HML.out]
    exact hown')
  obtain ⟨va, vc, hvf⟩ := HO2.out.form
  have hl9 : (L ++ [v]).length = m + 1 := by rw [List.length_append, HML.out]; rfl
  rw [hl9] at hvf
  subst hvf
  have HL9 := Lib.hid hl9
  have HOB2 := Lib.hid (show ∀ k, (Value.slice va (m + 1) vc).ownBlock = some k → (Value.slice A0 m c0).ownBlock = some k ∨ w.heap.size ≤ k from fun k hk => by
    rcases hat9 with e | e
    · exact .inl (e ▸ hk)
    · refine .inr ?_
      rw [e] at hk
      injection hk with hk
      have := X2.out.size
      try simp at hk
      omega)
  have B_9 := Lib.hid (B2.out.ex he (fun h => by have o_ := NE.out; have h9 := HOX.out _ h; omega))
  have S_9 := Lib.hid (S2.out.ex he (fun h => by have o_ := NE.out; have h9 := HOX.out _ h; omega))
  have P_9 := Lib.hid (P2.out.ex he (fun h => by have o_ := NE.out; have h9 := HOX.out _ h; omega))
  have I_9 := Lib.hid (I2.out.ex he (fun h => by have o_ := NE.out; have h9 := HOX.out _ h; omega))
  have X_9 := Lib.hid (X2.out.trans (he.mono (fun _ h => .inr h)))
  have EE1 := Lib.hid (EE0.out.trans he)
  clear hown' hgrow hat9 he hl9 B2 S2 P2 I2 O2 N2 X2 EE0 HOB HOA i0_ hi0 hz0 hz1 hz2
  refine behind_normal ⟨(Ex (fun k => (Value.slice A0 m c0).ownBlock = some k) w1), fun W h => h, by first | exact EE1.out | exact fun _ => EE1.out, ?_⟩
  refine PhasedT.go ?_
  simp only [pick, List.map_cons, List.map_nil, List.getElem?_cons_zero, List.getElem?_cons_succ, Option.getD_some]
  repeat (go_big_quiet_step (fail))
  refine wpQuiet_nil ?_
  have bq : wb.cell? ⟨f, 0, none⟩ = some (.slice (some ⟨sb, 0, none⟩) n sc) := B_9.out.cell 0
  go_wp2_with fail
  clear bq
  refine behind_normal ⟨(Ex (fun k => (Value.slice A0 m c0).ownBlock = some k) w1), fun W h => h, by first | exact EE1.out | exact fun _ => EE1.out, ?_⟩
  refine PhasedT.go ?_
  simp only [pick, List.map_cons, List.map_nil, List.getElem?_cons_zero, List.getElem?_cons_succ, Option.getD_some]
  repeat (go_big_quiet_step (fail))
  refine wpQuiet_nil ?_
  have bq : wb.cell? ⟨f, 0, none⟩ = some (.slice (some ⟨sb, 0, none⟩) n sc) := B_9.out.cell 0
  go_wp2_with fail
  clear bq
  have b4 := B_9.out.cell 4
  simp only [rocs, List.getElem?_toArray, List.getElem?_cons_zero, List.getElem?_cons_succ] at b4
  have z4 := B_9.out.frozen 4
  refine behind_normal ⟨(Ex (fun k => (Value.slice A0 m c0).ownBlock = some k) w1), fun W h => h, by first | exact EE1.out | exact fun _ => EE1.out, ?_⟩
  refine PhasedT.go ?_
  simp only [pick, List.map_cons, List.map_nil, List.getElem?_cons_zero, List.getElem?_cons_succ, Option.getD_some]
  repeat (go_big_quiet_step (fail))
  refine wpQuiet_nil ?_
  go_wp2_with fail
  refine behind_normal ⟨(Ex (fun k => (Value.slice A0 m c0).ownBlock = some k) w1), fun W h => h, by first | exact fun h => absurd h (by decide) | trivial | simp, ?_⟩
  refine PhasedT.end_ ?_
  clear p0 EE1
  clear b4 z4
  have bb : Blk (wb.setCell ⟨f, 4, none⟩ (.slice va (m + 1) vc)) f 86 (rocs sb sc pb pc ob oc n T tries (.slice va (m + 1) vc) 0 steps at_) := (B_9.out.set_ 4 (.slice va (m + 1) vc))
  have ee : Ex (fun k => k = f) wb (wb.setCell ⟨f, 4, none⟩ (.slice va (m + 1) vc)) := ((Ex.refl (fun k => k = f) wb).setCell (q := ⟨f, 4, none⟩) (.inl rfl) (.slice va (m + 1) vc))
  have S3 := Lib.hid (S_9.out.ex ee (by have o_ := NE.out; omega))
  have P3 := Lib.hid (P_9.out.ex ee (by have o_ := NE.out; omega))
  have I3 := Lib.hid (I_9.out.ex ee (by have o_ := NE.out; omega))
  have O3 := Lib.hid (HO2.out.ex ee (fun k h1_ h2_ hT => by have hT : k = f := hT; have o_ := NE.out; omega))
  have X3 := Lib.hid (X_9.out.trans (ee.mono (fun _ h => .inl h)))
  have B3 := Lib.hid (bb)
  clear ee B_9 S_9 P_9 I_9 HO2 X_9 bb
  generalize (wb.setCell ⟨f, 4, none⟩ (.slice va (m + 1) vc)) = w3 at *
  have b0 := B3.out.cell 0
  have b6 := B3.out.cell 6
  simp only [rocs, List.getElem?_toArray, List.getElem?_cons_zero, List.getElem?_cons_succ] at b0 b6
  have z6 := B3.out.frozen 6
  have hstp := HSTP.out
  go_upto_region 9 with fail
  clear b0 b6 z6 hstp
  have bb : Blk (w3.setCell ⟨f, 6, none⟩ (.int .i64 (steps + 1))) f 86 (rocs sb sc pb pc ob oc n T tries (.slice va (m + 1) vc) 0 (steps + 1) at_) := (B3.out.set_ 6 (.int .i64 (steps + 1)))
  have ee : Ex (fun k => k = f) w3 (w3.setCell ⟨f, 6, none⟩ (.int .i64 (steps + 1))) := ((Ex.refl (fun k => k = f) w3).setCell (q := ⟨f, 6, none⟩) (.inl rfl) (.int .i64 (steps + 1)))
  have S4 := Lib.hid (S3.out.ex ee (by have o_ := NE.out; omega))
  have P4 := Lib.hid (P3.out.ex ee (by have o_ := NE.out; omega))
  have I4 := Lib.hid (I3.out.ex ee (by have o_ := NE.out; omega))
  have O4 := Lib.hid (O3.out.ex ee (fun k h1_ h2_ hT => by have hT : k = f := hT; have o_ := NE.out; omega))
  have X4 := Lib.hid (X3.out.trans (ee.mono (fun _ h => .inl h)))
  have B4 := Lib.hid (bb)
  clear ee B3 S3 P3 I3 O3 X3 bb
  generalize (w3.setCell ⟨f, 6, none⟩ (.int .i64 (steps + 1))) = w4 at *
  have b0 := B4.out.cell 0
  have b2 := B4.out.cell 2
  have b4 := B4.out.cell 4
  simp only [rocs, List.getElem?_toArray, List.getElem?_cons_zero, List.getElem?_cons_succ] at b0 b2 b4
  by_cases h1 : m + 1 = T
  · have HY := Lib.hid (show Y = ⟨tries, 0, steps + 1, steps + 1, L ++ [v]⟩ from by rw [HY0.out, HTK.out, if_pos (by omega), if_pos h1])
    have kz : ((((m + 1 : Nat) : Int)) == (T : Int)) = true := beq_iff_eq.2 (by omega)
    have kz2 : (((m : Int) + 1) == (T : Int)) = true := beq_iff_eq.2 (by omega)
    have ky : decide ((((m + 1 : Nat) : Int)) ≤ (T : Int)) = true := decide_eq_true (by omega)
    have ky2 : decide (((m : Int) + 1) ≤ (T : Int)) = true := decide_eq_true (by omega)
    have ky3 : decide (m + 1 ≤ T) = true := decide_eq_true (by omega)
    have HMT := Lib.hid (show m + 1 ≤ T by omega)
    clear h1
    have b6 := B4.out.cell 6
    have b7 := B4.out.cell 7
    simp only [rocs, List.getElem?_toArray, List.getElem?_cons_zero, List.getElem?_cons_succ] at b6 b7
    have z7 := B4.out.frozen 7
    go_upto_region 12 with fail
    clear b0 b2 b4 kz kz2 ky ky2 ky3 b6 b7 z7
    have bb : Blk (w4.setCell ⟨f, 7, none⟩ (.int .i64 (steps + 1))) f 86 (rocs sb sc pb pc ob oc n T tries (.slice va (m + 1) vc) 0 (steps + 1) (steps + 1)) := (B4.out.set_ 7 (.int .i64 (steps + 1)))
    have ee : Ex (fun k => k = f) w4 (w4.setCell ⟨f, 7, none⟩ (.int .i64 (steps + 1))) := ((Ex.refl (fun k => k = f) w4).setCell (q := ⟨f, 7, none⟩) (.inl rfl) (.int .i64 (steps + 1)))
    have S5 := Lib.hid (S4.out.ex ee (by have o_ := NE.out; omega))
    have P5 := Lib.hid (P4.out.ex ee (by have o_ := NE.out; omega))
    have I5 := Lib.hid (I4.out.ex ee (by have o_ := NE.out; omega))
    have O5 := Lib.hid (O4.out.ex ee (fun k h1_ h2_ hT => by have hT : k = f := hT; have o_ := NE.out; omega))
    have X5 := Lib.hid (X4.out.trans (ee.mono (fun _ h => .inl h)))
    have B5 := Lib.hid (bb)
    clear ee B4 S4 P4 I4 O4 X4 bb
    generalize (w4.setCell ⟨f, 7, none⟩ (.int .i64 (steps + 1))) = w5 at *
    have ky : decide ((((m + 1 : Nat) : Int)) ≤ (T : Int)) = true := decide_eq_true (by have h := HMT.out; omega)
    have ky2 : decide (((m : Int) + 1) ≤ (T : Int)) = true := decide_eq_true (by have h := HMT.out; omega)
    have b0 := B5.out.cell 0
    have b4 := B5.out.cell 4
    simp only [rocs, List.getElem?_toArray, List.getElem?_cons_zero, List.getElem?_cons_succ] at b0 b4
    go_wp2_with fail
    go_ret
    refine ⟨HDI.out, ?_⟩
    rw [HY.out]
    exact (HPO.out _ _).2 ⟨_, B5.out, O5.out, HOB2.out, X5.out⟩
  have kz : ((((m + 1 : Nat) : Int)) == (T : Int)) = false := beq_eq_false_iff_ne.2 (by omega)
  have kz2 : (((m : Int) + 1) == (T : Int)) = false := beq_eq_false_iff_ne.2 (by omega)
  by_cases h2 : m + 1 ≤ T
  · have HY := Lib.hid (show Y = ⟨tries, 0, steps + 1, at_, L ++ [v]⟩ from by rw [HY0.out, HTK.out, if_pos h2, if_neg h1])
    have ky : decide ((((m + 1 : Nat) : Int)) ≤ (T : Int)) = true := decide_eq_true (by omega)
    have ky2 : decide (((m : Int) + 1) ≤ (T : Int)) = true := decide_eq_true (by omega)
    clear h1 h2
    go_wp2_with fail
    clear b0 b2 b4 kz kz2
    go_ret
    refine ⟨HDI.out, ?_⟩
    rw [HY.out]
    exact (HPO.out _ _).2 ⟨_, B4.out, O4.out, HOB2.out, X4.out⟩
  have HTM := Lib.hid (show T ≤ m by omega)
  have HGE := Lib.hid (gensR_push v (fun i hi => (HIX.out i hi).1) (show T ≤ L.length by rw [HML.out]; exact HTM.out))
  have HY1 := Lib.hid (show Y = if (m : Int) + 1 ≤ (T : Int) + sizeR n l s (gensR n ix L) then (⟨tries, 0, steps + 1, at_, L ++ [v]⟩ : RS)
    else if v / 2 = nth L ((m : Int) - T - sizeR n l s (gensR n ix L)).toNat / 2 then
      ⟨tries, if (m : Int) - T - sizeR n l s (gensR n ix L) = (T : Int) - 1 then 1 else 0, steps + 1, at_, L ++ [v]⟩
    else ⟨tries - 1, if tries - 1 = 0 then 2 else 0, steps + 1, at_, []⟩ from by rw [HY0.out, HTK.out, if_neg h2])
  have ky : decide ((((m + 1 : Nat) : Int)) ≤ (T : Int)) = false := decide_eq_false (by omega)
  have ky2 : decide (((m : Int) + 1) ≤ (T : Int)) = false := decide_eq_false (by omega)
  clear h1 h2 HY0 HTK
  go_wp2_with fail
  clear b0 b2 b4 kz kz2 ky ky2
  refine (HPK.out _ (L ++ [v]) tries (steps + 1) at_ w4 B4.out S4.out I4.out (O4.out.ints (by rw [HL9.out]; have h := HL0.out; unfold maxLen; omega)) (by rw [HL9.out]; have h := HTM.out; omega) (fit_push HU.out HV.out)).mono ?_; rintro e w5 ⟨rfl, hb5⟩
  rw [HGE.out]
  have ee : Ex (fun _ => False) w4 w5 := Ex.of_below hb5
  have B5 := Lib.hid (B4.out.ex ee (fun h => h))
  have S5 := Lib.hid (S4.out.ex ee (fun h => h))
  have P5 := Lib.hid (P4.out.ex ee (fun h => h))
  have I5 := Lib.hid (I4.out.ex ee (fun h => h))
  have O5 := Lib.hid (O4.out.ex ee (fun _ _ _ h => h))
  have X5 := Lib.hid (X4.out.trans (ee.mono (fun _ h => h.elim)))
  clear ee B4 S4 P4 I4 O4 X4 hb5 HPK
  have hrng := best_lt l (gensR n ix L) n
  have hpr : pickR n l (gensR n ix L) = (if best l (gensR n ix L) n < 0 then -1 else best l (gensR n ix L) n) := rfl
  have hsz : sizeR n l s (gensR n ix L) = (if best l (gensR n ix L) n < 0 then 0 else (s (best l (gensR n ix L) n).toNat).words) := rfl
  obtain ⟨pg, hpg⟩ : ∃ pg, pickG n l (gensR n ix L) = pg := ⟨_, rfl⟩
  rw [hpg]
  obtain ⟨pr, hpr2⟩ : ∃ pr, pickR n l (gensR n ix L) = pr := ⟨_, rfl⟩
  rw [hpr2] at hpr ⊢
  obtain ⟨sz, hsz2⟩ : ∃ sz, sizeR n l s (gensR n ix L) = sz := ⟨_, rfl⟩
  rw [hsz2] at hsz HMM HY1
  generalize best l (gensR n ix L) n = bx at *
  have HPR := Lib.hid hpr
  have HSZ := Lib.hid hsz
  have HRN := Lib.hid hrng
  have HSB := Lib.hid (show 0 ≤ sz ∧ sz ≤ 64 from by
    rw [hsz]
    split
    · omega
    · have h := (HAT.out bx.toNat (by omega)).1; omega)
  clear hpg hpr2 hsz2 hpr hsz hrng HGE
  go_upto_if 82 with fail
  go_cut [9] from 83 to 91 (fun v wx => v = .int .i64 sz ∧ wx = w5)
  case first =>
    by_cases hz : bx < 0
    · have h1 := HPR.out
      have h2 := HSZ.out
      rw [if_pos hz] at h1 h2
      subst h1
      subst h2
      have kz : decide ((-1 : Int) ≥ 0) = false := rfl
      clear hz
      go_wp2_with fail
      go_meet
      exact ⟨rfl, rfl⟩
    · have h1 := HPR.out
      have h2 := HSZ.out
      rw [if_neg hz] at h1 h2
      obtain ⟨k, hk⟩ : ∃ k : Nat, bx = (k : Int) := ⟨bx.toNat, (Int.toNat_of_nonneg (by omega)).symm⟩
      have hkn : k < n := by have := HRN.out.2; omega
      rw [hk] at h1 h2
      rw [Int.toNat_natCast] at h2
      subst h1
      subst h2
      have kz : decide ((k : Int) ≥ 0) = true := decide_eq_true (by omega)
      have ki0 : (0 : Int) ≤ (k : Int) := by omega
      have ki1 : (k : Int) < (n : Int) := by omega
      clear hz hk
      have b0 := B5.out.cell 0
      have b1 := B5.out.cell 1
      simp only [rocs, List.getElem?_toArray, List.getElem?_cons_zero, List.getElem?_cons_succ] at b0 b1
      have x3 := (P5.out.five hkn).2.2.2.1
      go_wp2_with fail
      go_meet
      exact ⟨rfl, rfl⟩
  case rest =>
    obtain ⟨rfl, hwc⟩ := hcut
    subst hwc
    clear HPR HSZ HRN
    have b0 := B5.out.cell 0
    have b4 := B5.out.cell 4
    simp only [rocs, List.getElem?_toArray, List.getElem?_cons_zero, List.getElem?_cons_succ] at b0 b4
    have hws : wrap64 ((T : Int) + sz) = (T : Int) + sz := wrap64_in _ (by have h1 := HSB.out; have h2 := HT.out; omega)
    by_cases h3 : (m : Int) + 1 ≤ (T : Int) + sz
    · have HY := Lib.hid (show Y = ⟨tries, 0, steps + 1, at_, L ++ [v]⟩ from by rw [HY1.out, if_pos h3])
      have ky : decide ((((m + 1 : Nat) : Int)) ≤ wrap64 ((T : Int) + sz)) = true := decide_eq_true (by rw [hws]; omega)
      have ky2 : decide (((m : Int) + 1) ≤ wrap64 ((T : Int) + sz)) = true := decide_eq_true (by rw [hws]; omega)
      clear h3 hws
      go_wp2_with fail
      clear b0 b4 ky ky2
      go_ret
      refine ⟨HDI.out, ?_⟩
      rw [HY.out]
      exact (HPO.out _ _).2 ⟨_, B5.out, O5.out, HOB2.out, X5.out⟩
    obtain ⟨i, hi⟩ : ∃ i : Nat, (m : Int) - T - sz = (i : Int) := ⟨((m : Int) - T - sz).toNat, by omega⟩
    have HI := Lib.hid (show i < T ∧ i < m from by have h1 := HMM.out; have h2 := HTM.out; have h3 := HSB.out; omega)
    have HY2 := Lib.hid (show Y = if v / 2 = nth L i / 2 then (⟨tries, if (i : Int) = (T : Int) - 1 then 1 else 0, steps + 1, at_, L ++ [v]⟩ : RS) else ⟨tries - 1, if tries - 1 = 0 then 2 else 0, steps + 1, at_, []⟩ from by rw [HY1.out, if_neg h3, hi, Int.toNat_natCast])
    have ky : decide ((((m + 1 : Nat) : Int)) ≤ wrap64 ((T : Int) + sz)) = false := decide_eq_false (by rw [hws]; omega)
    have ky2 : decide (((m : Int) + 1) ≤ wrap64 ((T : Int) + sz)) = false := decide_eq_false (by rw [hws]; omega)
    have hwi : wrap64 (wrap64 (wrap64 (((m : Int) + 1) - (T : Int)) - sz) - 1) = (i : Int) := by
      have h1 := HL0.out
      have h2 := HSB.out
      have h3 := HT.out
      rw [wrap64_in (((m : Int) + 1) - (T : Int)) (by omega), wrap64_in (((m : Int) + 1) - (T : Int) - sz) (by omega), wrap64_in _ (by omega)]
      omega
    have hwi2 : wrap64 (wrap64 (wrap64 ((((m + 1 : Nat) : Int)) - (T : Int)) - sz) - 1) = (i : Int) := by
      rw [show (((m + 1 : Nat) : Int)) = (m : Int) + 1 by omega]; exact hwi
    have hwm : wrap64 (((m : Int) + 1) - 1) = (m : Int) := by rw [wrap64_in _ (by have h1 := HL0.out; omega)]; omega
    have hwm2 : wrap64 ((((m + 1 : Nat) : Int)) - 1) = (m : Int) := by rw [wrap64_in _ (by have h1 := HL0.out; omega)]; omega
    have hwm3 : wrap64 (m : Int) = (m : Int) := wrap64_in _ (by have h1 := HL0.out; omega)
    clear h3 hws hi HY1
    go_upto_region 21 with fail
    clear b0 b4 ky ky2
    obtain ⟨A_, c_, hv_, _, hf5⟩ := (O5.out.ints (by rw [HL9.out]; have h := HL0.out; unfold maxLen; omega)).form
    obtain ⟨b5, o5, hA5, hb5, hc5⟩ := hf5 (by intro hz; have h1 := HL9.out; rw [hz] at h1; simp at h1)
    rw [HL9.out] at hc5 hv_
    simp only [Value.slice.injEq, true_and] at hv_
    obtain ⟨hva, hvc⟩ := hv_
    rw [← hva] at hA5
    subst hA5
    have x1 := hc5 m (by omega)
    have x2 := hc5 i (by have h := HI.out.2; omega)
    have hvm : nth (L ++ [v]) m = v := by have h := nth_push_eq L v; rw [HML.out] at h; exact h
    rw [hvm] at x1
    rw [nth_push_lt v (show i < L.length by rw [HML.out]; exact HI.out.2)] at x2
    have HU2 := Lib.hid (HU.out _ (nth_mem (xs := L) (i := i) (by rw [HML.out]; exact HI.out.2)))
    obtain ⟨u, hu⟩ : ∃ u, nth L i = u := ⟨_, rfl⟩
    rw [hu] at x2 HU2 HY2
    clear hvm hu hf5 hb5 hc5
    have hne : Nonempty (Held (fun W => W = wc.drew)) := ⟨⟨_, rfl⟩⟩
    have p0 : ∀ y : Held (fun W => W = wc.drew), y.w.cell? ⟨f, 0, none⟩ = some (.slice (some ⟨sb, 0, none⟩) n sc) := fun y => by rw [y.ok]; exact (B5.out.ex (Ex.refl (fun _ => False) wc).drew (fun h => h)).cell 0
    have p4 : ∀ y : Held (fun W => W = wc.drew), y.w.cell? ⟨f, 4, none⟩ = some (.slice (some ⟨b5, o5, none⟩) (m + 1) vc) := fun y => by rw [y.ok]; exact (B5.out.ex (Ex.refl (fun _ => False) wc).drew (fun h => h)).cell 4
    have q1 : ∀ y : Held (fun W => W = wc.drew), y.w.cell? ⟨b5, o5 + m, none⟩ = some (.int .u64 v) := fun y => by rw [y.ok]; exact x1
    have q2 : ∀ y : Held (fun W => W = wc.drew), y.w.cell? ⟨b5, o5 + i, none⟩ = some (.int .u64 u) := fun y => by rw [y.ok]; exact x2
    have ki0 : (0 : Int) ≤ (i : Int) := by omega
    have ki1 : (i : Int) < (((m + 1 : Nat) : Int)) := by have h := HI.out; omega
    have ki2 : (i : Int) < (m : Int) + 1 := by have h := HI.out; omega
    have km0 : (0 : Int) ≤ (m : Int) := by omega
    have km1 : (m : Int) < (((m + 1 : Nat) : Int)) := by omega
    clear x1 x2 hva hvc
    have hdv := u64_half HV.out
    have hdu := u64_half HU2.out
    obtain ⟨cv, hcv⟩ : ∃ cv, (v / 2 != u / 2) = cv := ⟨_, rfl⟩
    have kcv : (IntKind.u64.wrap (v.tdiv 2) != IntKind.u64.wrap (u.tdiv 2)) = cv := by rw [hdv, hdu, hcv]
    refine drawn_bars (S := fun _ => True) [] [0, 1, 2, 3, 4, 5, 6, 7, 8, 9, 10, 11, 12, 13, 14, 15, 16, 17, 18, 19, 20, 21] (by kernel_rfl) (by kernel_rfl) (by kernel_rfl) rfl trivial ?_
    refine Phased.end_ ?_
    simp only [pick, List.map_cons, List.map_nil, List.getElem?_cons_zero, List.getElem?_cons_succ, Option.getD_some]
    repeat (go_big_quiet_step (fail))
    refine wpQuiet_nil ?_
    clear hne p0 p4 q1 q2 ki0 ki1 ki2 km0 km1 hdv hdu hwm hwm2 hwm3
    have ee : Ex (fun _ => False) wc wc.drew := (Ex.refl _ wc).drew
    have B6 := Lib.hid (B5.out.ex ee (fun h => h))
    have S6 := Lib.hid (S5.out.ex ee (fun h => h))
    have P6 := Lib.hid (P5.out.ex ee (fun h => h))
    have I6 := Lib.hid (I5.out.ex ee (fun h => h))
    have O6 := Lib.hid (O5.out.ex ee (fun _ _ _ h => h))
    have X6 := Lib.hid (X5.out.trans (ee.mono (fun _ h => h.elim)))
    clear ee B5 S5 P5 I5 O5 X5
    generalize wc.drew = w6 at *
    cases cv with
    | true =>
      have HY := Lib.hid (show Y = ⟨tries - 1, if tries - 1 = 0 then 2 else 0, steps + 1, at_, []⟩ from by rw [HY2.out, if_neg (by simpa using hcv)])
      clear hcv HY2
      have b0 := B6.out.cell 0
      have b4 := B6.out.cell 4
      simp only [rocs, List.getElem?_toArray, List.getElem?_cons_zero, List.getElem?_cons_succ] at b0 b4
      have z4 := B6.out.frozen 4
      go_upto_region 23 with fail
      clear b0 b4 z4
      have bb : Blk (w6.setCell ⟨f, 4, none⟩ (.slice none 0 0)) f 86 (rocs sb sc pb pc ob oc n T tries (.slice none 0 0) 0 (steps + 1) at_) := (B6.out.set_ 4 (.slice none 0 0))
      have ee : Ex (fun k => k = f) w6 (w6.setCell ⟨f, 4, none⟩ (.slice none 0 0)) := ((Ex.refl (fun k => k = f) w6).setCell (q := ⟨f, 4, none⟩) (.inl rfl) (.slice none 0 0))
      have S7 := Lib.hid (S6.out.ex ee (by have o_ := NE.out; omega))
      have P7 := Lib.hid (P6.out.ex ee (by have o_ := NE.out; omega))
      have I7 := Lib.hid (I6.out.ex ee (by have o_ := NE.out; omega))
      have O7 := Lib.hid (O6.out.ex ee (fun k h1_ h2_ hT => by have hT : k = f := hT; have o_ := NE.out; omega))
      have X7 := Lib.hid (X6.out.trans (ee.mono (fun _ h => .inl h)))
      have B7 := Lib.hid (bb)
      clear ee B6 S6 P6 I6 O6 X6 bb
      generalize (w6.setCell ⟨f, 4, none⟩ (.slice none 0 0)) = w7 at *
      clear kcv
      have b0 := B7.out.cell 0
      have b3 := B7.out.cell 3
      simp only [rocs, List.getElem?_toArray, List.getElem?_cons_zero, List.getElem?_cons_succ] at b0 b3
      have z3 := B7.out.frozen 3
      have htrp := HTRP.out
      go_upto_region 24 with fail
      clear b0 b3 z3 htrp
      have bb : Blk (w7.setCell ⟨f, 3, none⟩ (.int .i64 (tries - 1))) f 86 (rocs sb sc pb pc ob oc n T (tries - 1) (.slice none 0 0) 0 (steps + 1) at_) := (B7.out.set_ 3 (.int .i64 (tries - 1)))
      have ee : Ex (fun k => k = f) w7 (w7.setCell ⟨f, 3, none⟩ (.int .i64 (tries - 1))) := ((Ex.refl (fun k => k = f) w7).setCell (q := ⟨f, 3, none⟩) (.inl rfl) (.int .i64 (tries - 1)))
      have S8 := Lib.hid (S7.out.ex ee (by have o_ := NE.out; omega))
      have P8 := Lib.hid (P7.out.ex ee (by have o_ := NE.out; omega))
      have I8 := Lib.hid (I7.out.ex ee (by have o_ := NE.out; omega))
      have O8 := Lib.hid (O7.out.ex ee (fun k h1_ h2_ hT => by have hT : k = f := hT; have o_ := NE.out; omega))
      have X8 := Lib.hid (X7.out.trans (ee.mono (fun _ h => .inl h)))
      have B8 := Lib.hid (bb)
      clear ee B7 S7 P7 I7 O7 X7 bb
      generalize (w7.setCell ⟨f, 3, none⟩ (.int .i64 (tries - 1))) = w8 at *
      have HON := Lib.hid (OwnL.nil w8 B)
      have HOB3 := Lib.hid (show ∀ k, (Value.slice none 0 0).ownBlock = some k → (Value.slice A0 m c0).ownBlock = some k ∨ w.heap.size ≤ k from fun k hk => by simp [Value.ownBlock] at hk)
      clear O8
      by_cases h4 : tries - 1 = 0
      · rw [if_pos h4] at HY
        have kt : ((tries - 1) == 0) = true := beq_iff_eq.2 h4
        clear h4
        have b0 := B8.out.cell 0
        have b3 := B8.out.cell 3
        have b5 := B8.out.cell 5
        simp only [rocs, List.getElem?_toArray, List.getElem?_cons_zero, List.getElem?_cons_succ] at b0 b3 b5
        have z5 := B8.out.frozen 5
        go_wp2_with fail
        clear b0 b3 b5 z5
        have bb : Blk (w8.setCell ⟨f, 5, none⟩ (.int .i64 2)) f 86 (rocs sb sc pb pc ob oc n T (tries - 1) (.slice none 0 0) 2 (steps + 1) at_) := (B8.out.set_ 5 (.int .i64 2))
        have ee : Ex (fun k => k = f) w8 (w8.setCell ⟨f, 5, none⟩ (.int .i64 2)) := ((Ex.refl (fun k => k = f) w8).setCell (q := ⟨f, 5, none⟩) (.inl rfl) (.int .i64 2))
        have S9 := Lib.hid (S8.out.ex ee (by have o_ := NE.out; omega))
        have P9 := Lib.hid (P8.out.ex ee (by have o_ := NE.out; omega))
        have I9 := Lib.hid (I8.out.ex ee (by have o_ := NE.out; omega))
        have O9 := Lib.hid (HON.out.ex ee (fun k h1_ h2_ hT => by have hT : k = f := hT; have o_ := NE.out; omega))
        have X9 := Lib.hid (X8.out.trans (ee.mono (fun _ h => .inl h)))
        have B9 := Lib.hid (bb)
        clear ee B8 S8 P8 I8 HON X8 bb
        generalize (w8.setCell ⟨f, 5, none⟩ (.int .i64 2)) = w9 at *
        go_ret
        refine ⟨HDI.out, ?_⟩
        rw [HY.out]
        exact (HPO.out _ _).2 ⟨_, B9.out, OwnL.nil _ B, HOB3.out, X9.out⟩
      · rw [if_neg h4] at HY
        have kt : ((tries - 1) == 0) = false := beq_eq_false_iff_ne.2 h4
        clear h4
        have b0 := B8.out.cell 0
        have b3 := B8.out.cell 3
        simp only [rocs, List.getElem?_toArray, List.getElem?_cons_zero, List.getElem?_cons_succ] at b0 b3
        go_wp2_with fail
        clear b0 b3
        go_ret
        refine ⟨HDI.out, ?_⟩
        rw [HY.out]
        exact (HPO.out _ _).2 ⟨_, B8.out, HON.out, HOB3.out, X8.out⟩
    | false =>
      have HY3 := Lib.hid (show Y = ⟨tries, if (i : Int) = (T : Int) - 1 then 1 else 0, steps + 1, at_, L ++ [v]⟩ from by rw [HY2.out, if_pos (by simpa using hcv)])
      clear hcv HY2
      have hwt : wrap64 ((T : Int) - 1) = (T : Int) - 1 := wrap64_in _ (by have h := HT.out; omega)
      by_cases h4 : (i : Int) = (T : Int) - 1
      · have HY := HY3
        rw [if_pos h4] at HY
        have kt : ((i : Int) == (T : Int) - 1) = true := beq_iff_eq.2 h4
        clear h4
        have b0 := B6.out.cell 0
        have b5 := B6.out.cell 5
        simp only [rocs, List.getElem?_toArray, List.getElem?_cons_zero, List.getElem?_cons_succ] at b0 b5
        have z5 := B6.out.frozen 5
        go_wp2_with fail
        clear b0 b5 z5
        have bb : Blk (w6.setCell ⟨f, 5, none⟩ (.int .i64 1)) f 86 (rocs sb sc pb pc ob oc n T tries (.slice (some ⟨b5, o5, none⟩) (m + 1) vc) 1 (steps + 1) at_) := (B6.out.set_ 5 (.int .i64 1))
        have ee : Ex (fun k => k = f) w6 (w6.setCell ⟨f, 5, none⟩ (.int .i64 1)) := ((Ex.refl (fun k => k = f) w6).setCell (q := ⟨f, 5, none⟩) (.inl rfl) (.int .i64 1))
        have S7 := Lib.hid (S6.out.ex ee (by have o_ := NE.out; omega))
        have P7 := Lib.hid (P6.out.ex ee (by have o_ := NE.out; omega))
        have I7 := Lib.hid (I6.out.ex ee (by have o_ := NE.out; omega))
        have O7 := Lib.hid (O6.out.ex ee (fun k h1_ h2_ hT => by have hT : k = f := hT; have o_ := NE.out; omega))
        have X7 := Lib.hid (X6.out.trans (ee.mono (fun _ h => .inl h)))
        have B7 := Lib.hid (bb)
        clear ee B6 S6 P6 I6 O6 X6 bb
        generalize (w6.setCell ⟨f, 5, none⟩ (.int .i64 1)) = w9 at *
        go_ret
        refine ⟨HDI.out, ?_⟩
        rw [HY.out]
        exact (HPO.out _ _).2 ⟨_, B7.out, O7.out, HOB2.out, X7.out⟩
      · have HY := HY3
        rw [if_neg h4] at HY
        have kt : ((i : Int) == (T : Int) - 1) = false := beq_eq_false_iff_ne.2 h4
        clear h4
        have b0 := B6.out.cell 0
        simp only [rocs, List.getElem?_toArray, List.getElem?_cons_zero, List.getElem?_cons_succ] at b0
        go_wp2_with fail
        clear b0
        go_ret
        refine ⟨HDI.out, ?_⟩
        rw [HY.out]
        exact (HPO.out _ _).2 ⟨_, B6.out, O6.out, HOB2.out, X6.out⟩
end Go.Proofs.Ythcaagkgddeabaa.Bank
