/-
  Law 12, the document's answer: Begin. Printed by wip/tools/mkporj.py. Conditions stand at each. By an AI agent.
  Law 12, the document's answer: Behind. Printed by wip/tools/mkporl.py. Conditions stand at each. By an AI agent.
-/
import Derived.Test.YthcaagkgddeabaaPoRg
import Derived.Test.YthcaagkgddeabaaPoRi
import Derived.Test.YthcaagkgddeabaaTail
namespace Go.Proofs.Ythcaagkgddeabaa.Bank
set_option linter.unusedVariables false
set_option linter.unusedSimpArgs false
open Go Go.RowKit Go.Proofs.Ythcaagkgddeabaa.Base Go.Deep Go.ChangeShapes Go.WideShapes Go.Proofs.Ythcaagkgddeabaa.Queue
/-- how many indices a poll's order has, read out of memory -/
def ordN (w : World) (f : Nat) : Nat := match w.cell? ⟨f, 2, none⟩ with | some (.slice _ m _) => m | _ => 0
/-- the order that is being made, a row of its own -/
def OrdR (w : World) (B : Nat) (v : Value) (ods : List Nat) : Prop := w.ownsRow B 3 1 v ods.length (ods.map fun k => Value.int .i64 (k : Nat))
theorem OrdR.form {w : World} {B : Nat} {v : Value} {ods : List Nat} (h : OrdR w B v ods) : ∃ a c, v = .slice a ods.length c := by
  rcases h.2 with ⟨rfl, h0⟩ | ⟨g, cap, cur, rfl, _⟩
  · exact ⟨none, 0, by rw [h0]⟩
  · exact ⟨_, _, rfl⟩
theorem OrdR.ex {T : Nat → Prop} {w w' : World} {B : Nat} {v : Value} {ods : List Nat} (h : OrdR w B v ods) (p : Ex T w w') (hT : ∀ k, B ≤ k → ¬ T k) : OrdR w' B v ods := ownsRow_ex h p (fun k hk => hT k (World.ownsRow.lt h k hk).1)
theorem OrdR.idx {w : World} {B : Nat} {v : Value} {ods : List Nat} (h : OrdR w B v ods) (hn : 0 < ods.length) : ∃ r c, v = .slice (some ⟨r, 0, none⟩) ods.length c ∧ B ≤ r ∧ IdxIn w r ods.length (nthN ods) := by
  rcases h.2 with ⟨rfl, h0⟩ | ⟨g, cap, cur, rfl, hbg, hh, _⟩
  · omega
  · refine ⟨g, cap, rfl, hbg, (World.ownsRow.lt h g rfl).2, fun k hk => ?_⟩
    have := World.ownsRow.cells h (g := g) rfl k (.int .i64 (nthN ods k : Nat)) (by
      rw [List.getElem?_map, List.getElem?_eq_getElem hk]
      unfold nthN
      rw [List.getD_eq_getElem?_getD, List.getElem?_eq_getElem hk]
      rfl)
    rw [Addr.add_lit] at this
    rwa [Nat.zero_add] at this
/-- two rows of one meaning -/
theorem ucells_eq (l : Nat → Queue.Sub) (n : Nat) : ucells l n = subCs l n := by
  unfold ucells subCs
  refine congrArg (fun f => (List.range (6 * n)).map f) (funext fun t => ?_)
  rcases (show t % 6 = 0 ∨ t % 6 = 1 ∨ t % 6 = 2 ∨ t % 6 = 3 ∨ t % 6 = 4 ∨ t % 6 = 5 by omega) with e | e | e | e | e | e <;> rw [e] <;> rfl
theorem rscells_eq (l : Nat → Spot) (n : Nat) : rscells l n = scells l n := by
  unfold rscells scells
  refine congrArg (fun f => (List.range (5 * n)).map f) (funext fun t => ?_)
  rcases (show t % 5 = 0 ∨ t % 5 = 1 ∨ t % 5 = 2 ∨ t % 5 = 3 ∨ t % 5 = 4 by omega) with e | e | e | e | e <;> rw [e] <;> rfl
/-- the cells of a poll of the document that has just begun, with its order as it is so far -/
def begC (sb sc pb pc n : Nat) (tries : Int) (ov : Value) : Array Value :=
  #[.slice (some ⟨sb, 0, none⟩) n sc, .slice (some ⟨pb, 0, none⟩) n pc, ov, .int .i64 tries, .slice none 0 0, .int .i64 0, .int .i64 0, .int .i64 0]
set_option maxRecDepth 100000 in
set_option maxHeartbeats 16000000 in
theorem RBegin_any (r1 c1 r2 c2 n m : Nat) (l : Nat → Queue.Sub) (s : Nat → Spot) (tries : Int) (w : World) (h1 : SubsIn w r1 n l) (h2 : SpIn w r2 n s) (hf : Fits n m l s) (hn : n ≤ 8) (hr : ∀ i, i < n → (l i).Ok) :
    Calls Try.prog 30 #[.slice (some ⟨r1, 0, none⟩) n c1, .slice (some ⟨r2, 0, none⟩) n c2, .int .i64 tries] w fun e w' => ∃ (f sb sc pb pc ob oc : Nat) (od : Nat → Nat), e = .returned (.pointer (some ⟨f, 0, none⟩)) ∧ Blk w' f 86 (rocs sb sc pb pc ob oc n (cOf n l s).T tries (.slice none 0 0) 0 0 0) ∧ SubsIn w' sb n l ∧ SpIn w' pb n s ∧ IdxIn w' ob (cOf n l s).T od ∧ (∀ k, k < (cOf n l s).T → od k < n ∧ (l (od k)).topic = ((cOf n l s).tp k).n) ∧ (w.heap.size ≤ sb ∧ sb < pb ∧ pb < f ∧ f < ob) ∧ Below w.heap.size w w' := by
  have H1 := Lib.hid h1
  have H2 := Lib.hid h2
  have H8 := Lib.hid hn
  have HCO := Lib.hid (cOf_ok hf (by omega) hr)
  have HPOS := Lib.hid (show 0 < n by have h := hf.1; omega)
  have HT8 := Lib.hid (show (cOf n l s).T ≤ 8 by have h := HCO.out.tn; have h2 : (cOf n l s).n = n := rfl; omega)
  have HT1 := Lib.hid HCO.out.t1
  obtain ⟨T, hT⟩ : ∃ T, (cOf n l s).T = T := ⟨_, rfl⟩
  have HT := Lib.hid hT
  have L0 := Lib.hid (Below.refl w.heap.size w)
  rw [hT] at HT8 HT1 ⊢
  clear h1 h2 hn hT hf hr
  have HN1 := Lib.hid (subs_news (w := w) (b := r1) (off := 0) (n := n) (l := l) (ob := .cells #[] 127) (fun i hi => by
    have h := H1.out.six hi
    simpa using h))
  obtain ⟨i0, hi0, hz0, hz1, hz2⟩ := info_parts rsub_info
  go_enter Try.func30, Try.ntmps30
  go_wp2_with (at_builtin; refine wpList_append_own _ rfl _ _ 74 rfl w.heap.size 127 i0 (.agg #[.int .i64 0, .int .i64 0, .int .u64 0, .int .i64 0, .int .u64 0, .int .u64 0]) 6 48 Try.underlying74 hi0 hz0 hz1 hz2 rfl (by decide) _ _ _ rfl (World.ownsRow_made w #[] 0 (Nat.le_refl _) (Nat.zero_le _) rfl) ⟨r1, 0, none⟩ n c1 (subCs l n) rfl ?qc1 HN1.out (subCs_one l n) ?qc4 ?qc5 ?qc6 ?_)
  case qc1 => rw [subCs_len]; omega
  case qc4 => have h := H8.out; unfold maxLen; omega
  case qc5 => have h := H8.out; omega
  case qc6 => simp
  intro v' w5 hown hgrow _
  obtain ⟨hown2, hbl⟩ := made_own (t := 74) hown hgrow
  obtain ⟨sb, sc, rfl, _, hrl, hsin⟩ := subsIn_of_own (show w5.ownsRow w.heap.size 127 6 v' n (subCs l n) from by simpa using hown2) HPOS.out
  clear hown hgrow hown2 i0 hi0 hz0 hz1 hz2 HN1
  obtain ⟨i1, hi1, hy0, hy1, hy2⟩ := info_parts rspot_info
  have ORD0 := Lib.hid (show w.heap.size ≤ sb from hrl)
  have ee : Ex (fun _ => False) w w5 := Ex.of_below hbl
  have L1 := Lib.hid (Ex.below L0.out ee (fun k hk => hk.elim))
  have S1 := Lib.hid (hsin)
  clear ee L0 hbl hrl hsin
  have HN2 := Lib.hid (spots_news (w := w5) (b := r2) (off := 0) (n := n) (l := s) (ob := .cells #[] 128) (fun i hi => by
    have h := (H2.out.bl L1.out).cells i hi
    simp only [Nat.zero_add]
    exact ⟨h 0 (by decide), h 1 (by decide), h 2 (by decide), h 3 (by decide), h 4 (by decide)⟩))
  go_wp2_with (at_builtin; refine wpList_append_own _ rfl _ _ 75 rfl w5.heap.size 128 i1 (.agg #[.int .i64 0, .int .i64 0, .int .i64 0, .int .i64 0, .int .i64 0]) 5 40 Try.underlying75 hi1 hy0 hy1 hy2 rfl (by decide) _ _ _ rfl (World.ownsRow_made w5 #[] 0 (Nat.le_refl _) (Nat.zero_le _) rfl) ⟨r2, 0, none⟩ n c2 (scells s n) rfl ?qd1 HN2.out (scells_one s n) ?qd4 ?qd5 ?qd6 ?_)
  case qd1 => rw [scells_len]; omega
  case qd4 => have h := H8.out; unfold maxLen; omega
  case qd5 => have h := H8.out; omega
  case qd6 => simp
  intro v' w6 hown hgrow _
  obtain ⟨hown2, hbl⟩ := made_own (t := 75) hown hgrow
  obtain ⟨pb, pc, rfl, hrp, hpin⟩ := spIn_of_own (show w6.ownsRow w5.heap.size 128 5 v' n (scells s n) from by simpa using hown2) HPOS.out
  clear hown hgrow hown2 i1 hi1 hy0 hy1 hy2 HN2
  have hlt1 : sb < pb := Nat.lt_of_lt_of_le S1.out.lt hrp
  have ORD2 := Lib.hid (show w.heap.size ≤ sb ∧ sb < pb from by have o_ := ORD0.out; omega)
  clear ORD0
  have ee : Ex (fun _ => False) w5 w6 := Ex.of_below hbl
  have L3 := Lib.hid (Ex.below L1.out ee (fun k hk => hk.elim))
  have S3 := Lib.hid (S1.out.ex ee (fun h => h))
  have T3 := Lib.hid (hpin)
  clear ee L1 S1 hbl hrp hpin hlt1
  go_upto_region 2 with fail
  have hn := Blk.new w6 86 #[.slice (some ⟨sb, 0, none⟩) n sc, .slice (some ⟨pb, 0, none⟩) n pc, .slice none 0 0, .int .i64 tries, .slice none 0 0, .int .i64 0, .int .i64 0, .int .i64 0]
  obtain ⟨f, hnb⟩ : ∃ f, w6.heap.size = f := ⟨_, rfl⟩
  have hlt_sb : sb < f := hnb ▸ S3.out.lt
  have hlt_pb : pb < f := hnb ▸ T3.out.lt
  have hlo_ : w.heap.size ≤ f := hnb ▸ L3.out.size
  simp only [hnb] at hn ⊢
  have ORD4 := Lib.hid (show w.heap.size ≤ sb ∧ sb < pb ∧ sb < f ∧ pb < f ∧ w.heap.size ≤ f from by have o_ := ORD2.out; omega)
  clear ORD2
  have ee : Ex (fun _ => False) w6 (w6.alloc (.cells #[.slice (some ⟨sb, 0, none⟩) n sc, .slice (some ⟨pb, 0, none⟩) n pc, .slice none 0 0, .int .i64 tries, .slice none 0 0, .int .i64 0, .int .i64 0, .int .i64 0] 86)) := (Ex.refl _ w6).alloc (.cells #[.slice (some ⟨sb, 0, none⟩) n sc, .slice (some ⟨pb, 0, none⟩) n pc, .slice none 0 0, .int .i64 tries, .slice none 0 0, .int .i64 0, .int .i64 0, .int .i64 0] 86)
  have L5 := Lib.hid (Ex.below L3.out ee (fun k hk => hk.elim))
  have S5 := Lib.hid (S3.out.ex ee (fun h => h))
  have T5 := Lib.hid (T3.out.ex ee (fun h => h))
  have B5 := Lib.hid (hn)
  clear ee L3 S3 T3 hn hnb hlt_sb hlt_pb hlo_
  generalize w6.alloc (.cells #[.slice (some ⟨sb, 0, none⟩) n sc, .slice (some ⟨pb, 0, none⟩) n pc, .slice none 0 0, .int .i64 tries, .slice none 0 0, .int .i64 0, .int .i64 0, .int .i64 0] 86) = w7 at *
  have HB0 := Lib.hid (show Blk w7 f 86 (begC sb sc pb pc n tries (.slice none 0 0)) from B5.out)
  have HBL := Lib.hid (show f + 1 ≤ w7.heap.size from B5.out.lt)
  have HO0 := Lib.hid (show OrdR w7 (f + 1) (.slice none 0 0) [] from ⟨rfl, .inl ⟨rfl, rfl⟩⟩)
  clear B5
  go_wp2_with fail
  go_loopw [8, 9, 10] (fun s8 s9 s10 wr => ∃ (ods : List Nat) (last : Int) (ov : Value), s8 = .int .i64 last ∧ OrdL n l s ods last ∧ Blk wr f 86 (begC sb sc pb pc n tries ov) ∧ OrdR wr (f + 1) ov ods ∧ SubsIn wr sb n l ∧ SpIn wr pb n s ∧ Below w.heap.size w wr) (fun _ _ _ wr => T - ordN wr f)
  case atStart => exact ⟨[], 0, .slice none 0 0, rfl, OrdL.nil _ _ _ _, HB0.out, HO0.out, S5.out, T5.out, L5.out⟩
  case round =>
    clear S5 T5 L5 HB0 HO0
    obtain ⟨ods, last, ov, rfl, hol, hb, ho, hs, ht, hl⟩ := hrel
    have OL := Lib.hid hol
    have B0 := Lib.hid hb
    have O0 := Lib.hid ho
    have S0 := Lib.hid hs
    have T0 := Lib.hid ht
    have LL := Lib.hid hl
    have HJT := Lib.hid (show ods.length ≤ T from by have h := OL.out.len; rw [HT.out] at h; exact h)
    obtain ⟨oa, oc, hov⟩ := ho.form
    subst hov
    obtain ⟨j, hj⟩ : ∃ j, ods.length = j := ⟨_, rfl⟩
    have HJ := Lib.hid hj
    have HON := Lib.hid (show ordN wr f = ods.length from by
      unfold ordN
      have h := hb.cell 2
      simp only [begC, List.getElem?_toArray, List.getElem?_cons_succ, List.getElem?_cons_zero] at h
      rw [h])
    rw [hj] at HON HJT B0 O0
    clear hol hb ho hs ht hl hj
    obtain ⟨wq, rfl⟩ : ∃ W : World, W = wr := ⟨_, rfl⟩
    go_wp2_with fail
    have V0 := Lib.hid (Ex.refl (fun _ => False) wq)
    go_loopw [9, 10] (fun s9 s10 wr => ∃ i : Nat, i ≤ n ∧ s10 = .int .i64 i ∧ s9 = .int .i64 (nextG l j last i) ∧ Ex (fun _ => False) wq wr) (fun s9 s10 _ => n - (intOf s10).toNat)
    case atStart => exact ⟨0, by omega, rfl, rfl, V0.out⟩
    case round =>
      clear V0
      obtain ⟨i, hi, rfl, rfl, hv⟩ := hrel
      have V1 := Lib.hid hv
      clear hv
      by_cases hlt : i < n
      · have kd : decide ((i : Int) < (n : Int)) = true := decide_eq_true (by omega)
        have ki0 : (0 : Int) ≤ (i : Int) := by omega
        have ki1 : (i : Int) < (n : Int) := by omega
        have HI := Lib.hid hlt
        have HM := Lib.hid (turn_no i n hlt (by have h1 := H8.out; unfold maxLen; omega))
        clear hi hlt
        go_upto_region 7 with fail
        clear kd
        have hne : Nonempty (Held (fun W => W = wr.drew)) := ⟨⟨_, rfl⟩⟩
        have VD := Lib.hid V1.out.drew
        have LD := Lib.hid (Ex.below LL.out VD.out (fun k hk => hk.elim))
        have p2 : ∀ y : Held (fun W => W = wr.drew), y.w.cell? ⟨f, 2, none⟩ = some (.slice oa j oc) := fun y => by rw [y.ok]; exact (B0.out.ex VD.out (fun h => h)).cell 2
        have p0 : ∀ y : Held (fun W => W = wr.drew), y.w.cell? ⟨r1, i * 6, none⟩ = some (.int .i64 (l i).topic) := fun y => by rw [y.ok]; exact ((H1.out.bl LD.out).six HI.out).1
        obtain ⟨ti, hti⟩ : ∃ ti, (l i).topic = ti := ⟨_, rfl⟩
        have hstep : nextG l j last (i + 1) = if (j = 0 ∨ last < (l i).topic) ∧ (nextG l j last i < 0 ∨ (l i).topic < (l (nextG l j last i).toNat).topic) then (i : Int) else nextG l j last i := rfl
        have hglt := nextG_lt l j last i
        obtain ⟨gv, hgv⟩ : ∃ gv, nextG l j last i = gv := ⟨_, rfl⟩
        rw [hgv] at hstep hglt
        rw [hti] at hstep p0
        rw [hgv]
        have HST := Lib.hid hstep
        clear hgv hti hstep
        by_cases hj0 : j = 0
        · have kj : ((j : Int) == 0) = true := by simpa using hj0
          have kj2 : (j == 0) = true := by simpa using hj0
          have HJ0 := Lib.hid hj0
          clear hj0
          rcases hglt with rfl | ⟨k, rfl, hk⟩
          · have HS2 := Lib.hid (show nextG l j last (i + 1) = (i : Int) from by rw [HST.out, if_pos ⟨.inl HJ0.out, .inl (by decide)⟩])
            have kz : decide ((-1 : Int) < 0) = true := rfl
            clear HST
            refine drawn_bars (S := fun _ => True) [] [0, 1, 2, 3, 4, 5, 6, 7, 8, 9, 10, 11, 12, 13, 14, 15, 16, 17, 18, 19, 20, 21, 22, 23, 24, 25, 26, 27, 28, 29, 30, 31] (by kernel_rfl) (by kernel_rfl) (by kernel_rfl) rfl trivial ?_
            refine Phased.end_ ?_
            simp only [pick, List.map_cons, List.map_nil, List.getElem?_cons_zero, List.getElem?_cons_succ, Option.getD_some]
            repeat (go_big_quiet_step (fail))
            refine wpQuiet_nil ?_
            clear hne p0 p2 kz
            generalize wr.drew = wy at *
            go_wp2_with fail
            go_roundw
            case rel => exact ⟨i + 1, HI.out, HM.out.1, by rw [HS2.out], VD.out⟩
            case measure => exact HM.out.2
          have HK := Lib.hid (show k < n from by have h := HI.out; omega)
          have kk0 : (0 : Int) ≤ (k : Int) := by omega
          have kk1 : (k : Int) < (n : Int) := by have h := HI.out; omega
          have kz : decide ((k : Int) < 0) = false := decide_eq_false (by omega)
          have p1 : ∀ y : Held (fun W => W = wr.drew), y.w.cell? ⟨r1, k * 6, none⟩ = some (.int .i64 (l k).topic) := fun y => by rw [y.ok]; exact ((H1.out.bl LD.out).six HK.out).1
          have HST2 := HST.out
          rw [Int.toNat_natCast] at HST2
          obtain ⟨tk, htk⟩ : ∃ tk, (l k).topic = tk := ⟨_, rfl⟩
          rw [htk] at HST2 p1
          clear htk hk HST
          by_cases ht : ti < tk
          · have HS2 := Lib.hid (show nextG l j last (i + 1) = (i : Int) from by rw [HST2, if_pos ⟨.inl HJ0.out, .inr ht⟩])
            have kt : decide (ti < tk) = true := decide_eq_true ht
            clear HST2 ht
            refine drawn_bars (S := fun _ => True) [] [0, 1, 2, 3, 4, 5, 6, 7, 8, 9, 10, 11, 12, 13, 14, 15, 16, 17, 18, 19, 20, 21, 22, 23, 24, 25, 26, 27, 28, 29, 30, 31] (by kernel_rfl) (by kernel_rfl) (by kernel_rfl) rfl trivial ?_
            refine Phased.end_ ?_
            simp only [pick, List.map_cons, List.map_nil, List.getElem?_cons_zero, List.getElem?_cons_succ, Option.getD_some]
            repeat (go_big_quiet_step (fail))
            refine wpQuiet_nil ?_
            clear hne p0 p2 kz kt p1
            generalize wr.drew = wy at *
            go_wp2_with fail
            go_roundw
            case rel => exact ⟨i + 1, HI.out, HM.out.1, by rw [HS2.out], VD.out⟩
            case measure => exact HM.out.2

          · have HS2 := Lib.hid (show nextG l j last (i + 1) = (k : Int) from by rw [HST2, if_neg (fun h => h.2.elim (fun h => by omega) ht)])
            have kt : decide (ti < tk) = false := decide_eq_false ht
            clear HST2 ht
            refine drawn_bars (S := fun _ => True) [] [0, 1, 2, 3, 4, 5, 6, 7, 8, 9, 10, 11, 12, 13, 14, 15, 16, 17, 18, 19, 20, 21, 22, 23, 24, 25, 26, 27, 28, 29, 30, 31] (by kernel_rfl) (by kernel_rfl) (by kernel_rfl) rfl trivial ?_
            refine Phased.end_ ?_
            simp only [pick, List.map_cons, List.map_nil, List.getElem?_cons_zero, List.getElem?_cons_succ, Option.getD_some]
            repeat (go_big_quiet_step (fail))
            refine wpQuiet_nil ?_
            clear hne p0 p2 kz kt p1
            generalize wr.drew = wy at *
            go_wp2_with fail
            go_roundw
            case rel => exact ⟨i + 1, HI.out, HM.out.1, by rw [HS2.out], VD.out⟩
            case measure => exact HM.out.2
        have kj : ((j : Int) == 0) = false := by have : (j : Int) ≠ 0 := by omega
                                                 simpa using this
        have kj2 : (j == 0) = false := by simpa using hj0
        have HJ0 := Lib.hid hj0
        clear hj0
        by_cases hl0 : last < ti
        · have kl : decide (last < ti) = true := decide_eq_true hl0
          have HL0 := Lib.hid hl0
          clear hl0
          rcases hglt with rfl | ⟨k, rfl, hk⟩
          · have HS2 := Lib.hid (show nextG l j last (i + 1) = (i : Int) from by rw [HST.out, if_pos ⟨.inr HL0.out, .inl (by decide)⟩])
            have kz : decide ((-1 : Int) < 0) = true := rfl
            clear HST
            refine drawn_bars (S := fun _ => True) [] [0, 1, 2, 3, 4, 5, 6, 7, 8, 9, 10, 11, 12, 13, 14, 15, 16, 17, 18, 19, 20, 21, 22, 23, 24, 25, 26, 27, 28, 29, 30, 31] (by kernel_rfl) (by kernel_rfl) (by kernel_rfl) rfl trivial ?_
            refine Phased.end_ ?_
            simp only [pick, List.map_cons, List.map_nil, List.getElem?_cons_zero, List.getElem?_cons_succ, Option.getD_some]
            repeat (go_big_quiet_step (fail))
            refine wpQuiet_nil ?_
            clear hne p0 p2 kz
            generalize wr.drew = wy at *
            go_wp2_with fail
            go_roundw
            case rel => exact ⟨i + 1, HI.out, HM.out.1, by rw [HS2.out], VD.out⟩
            case measure => exact HM.out.2
          have HK := Lib.hid (show k < n from by have h := HI.out; omega)
          have kk0 : (0 : Int) ≤ (k : Int) := by omega
          have kk1 : (k : Int) < (n : Int) := by have h := HI.out; omega
          have kz : decide ((k : Int) < 0) = false := decide_eq_false (by omega)
          have p1 : ∀ y : Held (fun W => W = wr.drew), y.w.cell? ⟨r1, k * 6, none⟩ = some (.int .i64 (l k).topic) := fun y => by rw [y.ok]; exact ((H1.out.bl LD.out).six HK.out).1
          have HST2 := HST.out
          rw [Int.toNat_natCast] at HST2
          obtain ⟨tk, htk⟩ : ∃ tk, (l k).topic = tk := ⟨_, rfl⟩
          rw [htk] at HST2 p1
          clear htk hk HST
          by_cases ht : ti < tk
          · have HS2 := Lib.hid (show nextG l j last (i + 1) = (i : Int) from by rw [HST2, if_pos ⟨.inr HL0.out, .inr ht⟩])
            have kt : decide (ti < tk) = true := decide_eq_true ht
            clear HST2 ht
            refine drawn_bars (S := fun _ => True) [] [0, 1, 2, 3, 4, 5, 6, 7, 8, 9, 10, 11, 12, 13, 14, 15, 16, 17, 18, 19, 20, 21, 22, 23, 24, 25, 26, 27, 28, 29, 30, 31] (by kernel_rfl) (by kernel_rfl) (by kernel_rfl) rfl trivial ?_
            refine Phased.end_ ?_
            simp only [pick, List.map_cons, List.map_nil, List.getElem?_cons_zero, List.getElem?_cons_succ, Option.getD_some]
            repeat (go_big_quiet_step (fail))
            refine wpQuiet_nil ?_
            clear hne p0 p2 kz kt p1
            generalize wr.drew = wy at *
            go_wp2_with fail
            go_roundw
            case rel => exact ⟨i + 1, HI.out, HM.out.1, by rw [HS2.out], VD.out⟩
            case measure => exact HM.out.2

          · have HS2 := Lib.hid (show nextG l j last (i + 1) = (k : Int) from by rw [HST2, if_neg (fun h => h.2.elim (fun h => by omega) ht)])
            have kt : decide (ti < tk) = false := decide_eq_false ht
            clear HST2 ht
            refine drawn_bars (S := fun _ => True) [] [0, 1, 2, 3, 4, 5, 6, 7, 8, 9, 10, 11, 12, 13, 14, 15, 16, 17, 18, 19, 20, 21, 22, 23, 24, 25, 26, 27, 28, 29, 30, 31] (by kernel_rfl) (by kernel_rfl) (by kernel_rfl) rfl trivial ?_
            refine Phased.end_ ?_
            simp only [pick, List.map_cons, List.map_nil, List.getElem?_cons_zero, List.getElem?_cons_succ, Option.getD_some]
            repeat (go_big_quiet_step (fail))
            refine wpQuiet_nil ?_
            clear hne p0 p2 kz kt p1
            generalize wr.drew = wy at *
            go_wp2_with fail
            go_roundw
            case rel => exact ⟨i + 1, HI.out, HM.out.1, by rw [HS2.out], VD.out⟩
            case measure => exact HM.out.2
        have kl : decide (last < ti) = false := decide_eq_false hl0
        have HS2 := Lib.hid (show nextG l j last (i + 1) = gv from by rw [HST.out, if_neg (fun h => h.1.elim HJ0.out hl0)])
        clear HST hl0 hglt
        refine drawn_bars (S := fun _ => True) [] [0, 1, 2, 3, 4, 5, 6, 7, 8, 9, 10, 11, 12, 13, 14, 15, 16, 17, 18, 19, 20, 21, 22, 23, 24, 25, 26, 27, 28, 29, 30, 31] (by kernel_rfl) (by kernel_rfl) (by kernel_rfl) rfl trivial ?_
        refine Phased.end_ ?_
        simp only [pick, List.map_cons, List.map_nil, List.getElem?_cons_zero, List.getElem?_cons_succ, Option.getD_some]
        repeat (go_big_quiet_step (fail))
        refine wpQuiet_nil ?_
        clear hne p0 p2 kl
        generalize wr.drew = wy at *
        go_wp2_with fail
        go_roundw
        case rel => exact ⟨i + 1, HI.out, HM.out.1, by rw [HS2.out], VD.out⟩
        case measure => exact HM.out.2
      · obtain rfl : n = i := by omega
        have kd : decide ((n : Int) < (n : Int)) = false := decide_eq_false (by omega)
        clear hi hlt
        have hE := V1.out
        clear V1
        have B1 := Lib.hid (B0.out.ex hE (fun h => h))
        have S1 := Lib.hid (S0.out.ex hE (fun h => h))
        have T1 := Lib.hid (T0.out.ex hE (fun h => h))
        have O1 := Lib.hid (O0.out.ex hE (fun _ _ h => h))
        have L1 := Lib.hid (Ex.below LL.out hE (fun k hk => hk.elim))
        clear B0 S0 T0 O0 LL hE
        rcases hgx : nextG_lt l j last n with hgv | ⟨k, hgv, hk⟩
        · have HGV := Lib.hid hgv
          rw [hgv]
          have kz : decide ((-1 : Int) < 0) = true := rfl
          clear hgv hgx
          go_wp2_with fail
          go_ret
          have hjT : j = T := by
            have h := OL.out.end_ HCO.out (by rw [HJ.out]; exact HGV.out)
            rw [HT.out, HJ.out] at h
            exact h
          have hj0 : 0 < ods.length := by have h := HT1.out; rw [HJ.out]; omega
          have ho : OrdR wr (f + 1) (.slice oa j oc) ods := O1.out
          obtain ⟨ob, oc2, e1, hob, hidx⟩ := ho.idx hj0
          rw [HJ.out] at e1 hidx
          rw [e1] at B1
          subst hjT
          refine ⟨f, sb, sc, pb, pc, ob, oc2, nthN ods, rfl, B1.out, S1.out, T1.out, hidx, fun k hk => OL.out.at_ k (by rw [HJ.out]; exact hk), ?_, L1.out⟩
          have o_ := ORD4.out
          omega
        have HGV := Lib.hid hgv
        rw [hgv]
        have kz : decide ((k : Int) < 0) = false := decide_eq_false (by omega)
        have HK := Lib.hid hk
        have kk0 : (0 : Int) ≤ (k : Int) := by omega
        have kk1 : (k : Int) < (n : Int) := by omega
        obtain ⟨_, hpT, hpush⟩ := OL.out.push HCO.out (by rw [HJ.out]; exact HGV.out)
        rw [HT.out, HJ.out] at hpT
        have HPT := Lib.hid hpT
        have HPU := Lib.hid hpush
        clear hgv hgx hk hpT hpush
        have b2 : wr.cell? ⟨f, 2, none⟩ = some (.slice oa j oc) := B1.out.cell 2
        obtain ⟨i0, hi0, hz0, hz1, hz2⟩ := info_parts int_info
        go_wp2_with (at_builtin; refine wpList_append_own _ rfl _ _ 55 rfl (f + 1) 3 i0 (.int .i64 0) 1 8 Try.underlying55 hi0 hz0 hz1 hz2 rfl (by decide) _ _ _ rfl (World.ownsRow.alloc (show wr.ownsRow (f + 1) 3 1 (.slice oa j oc) j (ods.map fun k => Value.int .i64 (k : Nat)) from by have h := O1.out; unfold OrdR at h; rw [HJ.out] at h; exact h) _) ⟨wr.heap.size, 0, none⟩ 1 1 [.int .i64 (k : Nat)] rfl rfl (onei_new wr (k : Nat)) (onei_oc (k : Nat)) ?c3 ?c4 ?c5 ?_)
        case c3 => have h1 := HPT.out; have h2 := HT8.out; unfold maxLen; omega
        case c4 => have h1 := HPT.out; have h2 := HT8.out; omega
        case c5 => have h1 := B1.out.lt; simp; omega
        intro v' w3 hown' hgrow _
        have HOB := Lib.hid (show ∀ b, (Value.slice oa j oc).ownBlock = some b → f + 1 ≤ b from fun b hb => (World.ownsRow.lt O1.out b hb).1)
        have B3 := Lib.hid ((B1.out.alloc (.cells #[.int .i64 (k : Nat)] 3)).grown hgrow (fun e => by have h1 := HOB.out f e.symm; omega))
        have ee : Ex (fun b => f + 1 ≤ b) wr w3 := ((Ex.refl (fun b => f + 1 ≤ b) wr).alloc _).trans (ex_grown hgrow (fun b hb => HOB.out b hb))
        have S3 := Lib.hid (S1.out.ex ee (by have o_ := ORD4.out; omega))
        have T3 := Lib.hid (T1.out.ex ee (by have o_ := ORD4.out; omega))
        have L3 := Lib.hid (Ex.below L1.out ee (fun b hb => by have o_ := ORD4.out; have hb : f + 1 ≤ b := hb; omega))
        have O3 := Lib.hid (show OrdR w3 (f + 1) v' (ods ++ [k]) from by
          unfold OrdR
          rw [List.map_append, List.length_append, HJ.out]
          exact hown')
        clear hown' hgrow ee i0 hi0 hz0 hz1 hz2 b2 B1 S1 T1 L1 O1 HOB
        obtain ⟨va, vc, hvf⟩ := O3.out.form
        have hl9 : (ods ++ [k]).length = j + 1 := by rw [List.length_append, HJ.out]; rfl
        rw [hl9] at hvf
        subst hvf
        have HL9 := Lib.hid hl9
        clear hl9
        have b2 : w3.cell? ⟨f, 2, none⟩ = some (.slice oa j oc) := B3.out.cell 2
        have z2 := B3.out.frozen 2
        go_upto_region 12 with fail
        clear b2 z2
        have bb : Blk (w3.setCell ⟨f, 2, none⟩ (.slice va (j + 1) vc)) f 86 (begC sb sc pb pc n tries (.slice va (j + 1) vc)) := B3.out.set_ 2 (.slice va (j + 1) vc)
        have ee : Ex (fun b => b = f) w3 (w3.setCell ⟨f, 2, none⟩ (.slice va (j + 1) vc)) := (Ex.refl (fun b => b = f) w3).setCell (q := ⟨f, 2, none⟩) (.inl rfl) _
        have B4 := Lib.hid bb
        have S4 := Lib.hid (S3.out.ex ee (by have o_ := ORD4.out; omega))
        have T4 := Lib.hid (T3.out.ex ee (by have o_ := ORD4.out; omega))
        have O4 := Lib.hid (O3.out.ex ee (fun b hb => by show ¬ b = f; omega))
        have L4 := Lib.hid (Ex.below L3.out ee (fun b hb => by have o_ := ORD4.out; have hb : b = f := hb; omega))
        clear bb ee B3 S3 T3 O3 L3
        generalize w3.setCell ⟨f, 2, none⟩ (.slice va (j + 1) vc) = w4 at *
        have x0 : w4.cell? ⟨r1, k * 6, none⟩ = some (.int .i64 (l k).topic) := ((H1.out.bl L4.out).six HK.out).1
        go_wp2_with fail
        clear x0
        go_roundw
        case rel => exact ⟨ods ++ [k], (l k).topic, _, rfl, HPU.out, B4.out, O4.out, S4.out, T4.out, L4.out⟩
        case measure =>
          have e1 : ordN w4 f = j + 1 := by
            unfold ordN
            have h := B4.out.cell 2
            simp only [begC, List.getElem?_toArray, List.getElem?_cons_succ, List.getElem?_cons_zero] at h
            rw [h]
          show T - ordN w4 f < T - ordN _ f
          rw [e1, HON.out]
          have h1 := HPT.out
          omega
end Go.Proofs.Ythcaagkgddeabaa.Bank
namespace Go.Proofs.Ythcaagkgddeabaa.Bank
set_option linter.unusedVariables false
set_option linter.unusedSimpArgs false
open Go Go.RowKit Go.Proofs.Ythcaagkgddeabaa.Base Go.Deep Go.ChangeShapes Go.WideShapes Go.Proofs.Ythcaagkgddeabaa.Queue
/-- what stays of subscriptions -/
def cL (n : Nat) (l : Nat → Queue.Sub) : PC := ⟨n, 0, fun i => (l i).topic, fun i => (l i).rank, fun _ => default, fun _ => 0⟩
def bumpR (c : Cur) : Cur := ⟨IntKind.u64.wrap (c.next + 1), c.cap, IntKind.u64.wrap (c.got + 1), c.lost⟩
/-- the cursors behind a poll that is done, as the document has them -/
def behR (n : Nat) (l : Nat → Queue.Sub) (gs : List Int) (i : Nat) : Cur := if (i : Int) = pickR n l gs then bumpR (Queue.seen (l i).cur (nth gs i)) else Queue.seen (l i).cur (nth gs i)
theorem SubsIn.setNx {w : World} {r n : Nat} {c : PC} {cu : Nat → Cur} (h : SubsIn w r n (c.sub cu)) {i : Nat} (hi : i < n) (a : Int) {cu' : Nat → Cur} (e : ∀ j, j < n → cu' j = if j = i then ⟨a, (cu j).cap, (cu j).got, (cu j).lost⟩ else cu j) :
    SubsIn (w.setCell ⟨r, i * 6 + 2, none⟩ (.int .u64 a)) r n (c.sub cu') := by
  have h0 := h.cells i hi 2 (by decide)
  refine ⟨by simpa [World.setCell] using h.lt, fun k hk j hj => ?_, fun a => by simp only [setCell_fro]; exact h.fro a⟩
  have hcj := h.cells k hk j hj
  have ek := e k hk
  rw [cell_set h0]
  by_cases hki : k = i
  · subst hki
    rw [if_pos rfl] at ek
    have hj6 : j = 0 ∨ j = 1 ∨ j = 2 ∨ j = 3 ∨ j = 4 ∨ j = 5 := by omega
    rcases hj6 with rfl | rfl | rfl | rfl | rfl | rfl
    · rw [if_neg (by omega)]; exact hcj
    · rw [if_neg (by omega)]; exact hcj
    · rw [if_pos rfl]; simp only [subC, PC.sub, ek]
    · rw [if_neg (by omega), hcj]; simp only [subC, PC.sub, ek]
    · rw [if_neg (by omega), hcj]; simp only [subC, PC.sub, ek]
    · rw [if_neg (by omega), hcj]; simp only [subC, PC.sub, ek]
  · rw [if_neg hki] at ek
    rw [if_neg (by omega), hcj]
    show some (subC (c.sub cu k) j) = some (subC (c.sub cu' k) j)
    simp only [PC.sub, ek]
theorem SubsIn.setGt {w : World} {r n : Nat} {c : PC} {cu : Nat → Cur} (h : SubsIn w r n (c.sub cu)) {i : Nat} (hi : i < n) (a : Int) {cu' : Nat → Cur} (e : ∀ j, j < n → cu' j = if j = i then ⟨(cu j).next, (cu j).cap, a, (cu j).lost⟩ else cu j) :
    SubsIn (w.setCell ⟨r, i * 6 + 4, none⟩ (.int .u64 a)) r n (c.sub cu') := by
  have h0 := h.cells i hi 4 (by decide)
  refine ⟨by simpa [World.setCell] using h.lt, fun k hk j hj => ?_, fun a => by simp only [setCell_fro]; exact h.fro a⟩
  have hcj := h.cells k hk j hj
  have ek := e k hk
  rw [cell_set h0]
  by_cases hki : k = i
  · subst hki
    rw [if_pos rfl] at ek
    have hj6 : j = 0 ∨ j = 1 ∨ j = 2 ∨ j = 3 ∨ j = 4 ∨ j = 5 := by omega
    rcases hj6 with rfl | rfl | rfl | rfl | rfl | rfl
    · rw [if_neg (by omega)]; exact hcj
    · rw [if_neg (by omega)]; exact hcj
    · rw [if_neg (by omega), hcj]; simp only [subC, PC.sub, ek]
    · rw [if_neg (by omega), hcj]; simp only [subC, PC.sub, ek]
    · rw [if_pos rfl]; simp only [subC, PC.sub, ek]
    · rw [if_neg (by omega), hcj]; simp only [subC, PC.sub, ek]
  · rw [if_neg hki] at ek
    rw [if_neg (by omega), hcj]
    show some (subC (c.sub cu k) j) = some (subC (c.sub cu' k) j)
    simp only [PC.sub, ek]
theorem upto_step {α : Type} (f g : Nat → α) (i : Nat) : ∀ j, (if j < i + 1 then f j else g j) = if j = i then f i else (if j < i then f j else g j) := by
  intro j
  by_cases e : j = i
  · subst e; rw [if_pos (by omega), if_pos rfl]
  · rw [if_neg e]
    by_cases h : j < i
    · rw [if_pos (by omega), if_pos h]
    · rw [if_neg (by omega), if_neg h]
set_option maxRecDepth 100000 in
set_option maxHeartbeats 16000000 in
theorem RBehind_any (o sb sc pb pc ob oc n T : Nat) (lv : Value) (tries how steps at_ : Int) (l : Nat → Queue.Sub) (od ix : Nat → Nat) (L : List Int) (w : World) (hbx : Blk w o 86 (rocs sb sc pb pc ob oc n T tries lv how steps at_))
    (hs : SubsIn w sb n l) (ho : IdxIn w ob T od) (hL : Ints w .u64 lv L) (hn : n ≤ 64) (hn1 : 0 < n) (hT : T ≤ L.length ∧ T ≤ 64) (hod : ∀ k, k < T → od k < n) (hix : ∀ i, i < n → ix i < T ∧ ∀ k, k < T → ((l (od k)).topic = (l i).topic ↔ k = ix i)) (hu : ∀ x ∈ L, 0 ≤ x ∧ x ≤ 18446744073709551615)
    (hrt : ∀ i, i < n → (l i).cur.Right ∧ (l i).Ok) :
    Calls Try.prog 34 #[.pointer (some ⟨o, 0, none⟩)] w fun e w' => ∃ r c, e = .returned (.slice (some ⟨r, 0, none⟩) n c) ∧ SubsIn w' r n ((cL n l).sub (behR n l (gensR n ix L))) ∧ w.heap.size ≤ r ∧ Below w.heap.size w w' := by
  have HGE := Lib.hid (RGens_any o sb sc pb pc ob oc n T lv tries how steps at_ l od ix L w hbx hs ho hL hn hT hod hix hu)
  have HPK := Lib.hid (fun W (hb : Below w.heap.size w W) => RPick_any o sb sc pb pc ob oc n T lv tries how steps at_ l od ix L W (hbx.bl hb) (hs.bl hb) (ho.bl hb) (hL.below hb) hn hT hod hix hu hrt)
  have B0 := Lib.hid hbx
  have S0 := Lib.hid hs
  have N64 := Lib.hid hn
  have HN1 := Lib.hid hn1
  have HRT := Lib.hid hrt
  have HGL := Lib.hid (gensR_len n ix L)
  have HGB := Lib.hid (show ∀ x ∈ gensR n ix L, 0 ≤ x ∧ x < 9223372036854775808 from fun x hx => by
    obtain ⟨i, hi, rfl⟩ := List.mem_map.1 hx
    have hi2 : i < n := by simpa using hi
    have := hu _ (nth_mem (xs := L) (i := ix i) (by have h1 := (hix i hi2).1; have h2 := hT.1; omega))
    omega)
  obtain ⟨gs, hgs⟩ : ∃ gs, gensR n ix L = gs := ⟨_, rfl⟩
  rw [hgs] at HGE HGL HGB HPK ⊢
  clear hbx hs ho hL hn hT hod hix hu hrt hgs hn1
  go_enter Try.func34, Try.ntmps34
  go_wp2_with fail
  refine HGE.out.mono ?_; rintro e w1 ⟨r, rfl, hr, hur, hb1⟩
  have U1 := Lib.hid hur
  have L1 := Lib.hid hb1
  clear hr hur hb1 HGE
  go_wp2_with fail
  refine (HPK.out w1 L1.out).mono ?_; rintro e w2 ⟨rfl, hb2⟩
  have U2 := Lib.hid (U1.out.bl hb2)
  have L2 := Lib.hid (bl L1.out hb2)
  clear hb2 HPK U1 L1
  obtain ⟨pr, hpr⟩ : ∃ pr, pickR n l gs = pr := ⟨_, rfl⟩
  rw [hpr]
  have HPR := Lib.hid hpr
  clear hpr
  obtain ⟨i0, hi0, hz0, hz1, hz2⟩ := info_parts rsub_info
  have HNS := Lib.hid (subs_news (w := w2) (b := sb) (off := 0) (n := n) (l := l) (ob := .cells #[] 127) (fun i hi => by
    have h := (S0.out.bl L2.out).six hi
    simpa using h))
  have b0 := (B0.out.bl L2.out).cell 0
  simp only [rocs, List.getElem?_toArray, List.getElem?_cons_zero, List.getElem?_cons_succ] at b0
  have b0a : (w2.alloc (.cells #[] 127)).cell? ⟨o, 0, none⟩ = some (.slice (some ⟨sb, 0, none⟩) n sc) := Lib.cell?_alloc_some _ b0
  go_wp2_with (at_builtin; refine wpList_append_own _ rfl _ _ 74 rfl w2.heap.size 127 i0 (.agg #[.int .i64 0, .int .i64 0, .int .u64 0, .int .i64 0, .int .u64 0, .int .u64 0]) 6 48 Try.underlying74 hi0 hz0 hz1 hz2 rfl (by decide) _ _ _ rfl (World.ownsRow_made w2 #[] 0 (Nat.le_refl _) (Nat.zero_le _) rfl) ⟨sb, 0, none⟩ n sc (subCs l n) rfl ?qc1 HNS.out (subCs_one l n) ?qc4 ?qc5 ?qc6 ?_)
  case qc1 => rw [subCs_len]; omega
  case qc4 => have h := N64.out; unfold maxLen; omega
  case qc5 => have h := N64.out; omega
  case qc6 => simp
  intro v' w3 hown hgrow _
  obtain ⟨hown2, hbl⟩ := made_own (t := 74) hown hgrow
  obtain ⟨rl, cl, rfl, hcl, hrl, hsin⟩ := subsIn_of_own (show w3.ownsRow w2.heap.size 127 6 v' n (subCs l n) from by simpa using hown2) HN1.out
  have U3 := Lib.hid (U2.out.bl hbl)
  have OR := Lib.hid (show r < rl ∧ w.heap.size ≤ rl from ⟨Nat.lt_of_lt_of_le U2.out.lt hrl, Nat.le_trans L2.out.size hrl⟩)
  have L3 := Lib.hid (bl L2.out hbl)
  have V3 := Lib.hid (show SubsIn w3 rl n ((cL n l).sub (fun j => if j < 0 then behR n l gs j else (l j).cur)) from by
    have e : ((cL n l).sub (fun j => if j < 0 then behR n l gs j else (l j).cur)) = l := by
      funext j
      show (⟨(l j).topic, (l j).rank, if j < 0 then behR n l gs j else (l j).cur⟩ : Queue.Sub) = l j
      rw [if_neg (by omega)]
    rw [e]
    exact hsin)
  have HCL := Lib.hid hcl
  clear hown hgrow hown2 hbl hrl hsin hcl i0 hi0 hz0 hz1 hz2 HNS b0 b0a U2 L2
  go_wp2_with fail
  go_loopw [7] (fun s7 wr => ∃ i : Nat, i ≤ n ∧ s7 = .int .i64 i ∧ SubsIn wr rl n ((cL n l).sub (fun j => if j < i then behR n l gs j else (l j).cur)) ∧ URow wr r gs ∧ Below w.heap.size w wr) (fun s7 _ => n - (intOf s7).toNat)
  case atStart => exact ⟨0, by omega, rfl, V3.out, U3.out, L3.out⟩
  case round =>
    clear V3 U3 L3
    obtain ⟨i, hi, rfl, hv, hu, hl⟩ := hrel
    have V0 := Lib.hid hv
    have U0 := Lib.hid hu
    have L0 := Lib.hid hl
    clear hv hu hl
    by_cases hlt : i < n
    rotate_left
    · obtain rfl : n = i := by omega
      have kd : decide ((n : Int) < (n : Int)) = false := decide_eq_false (by omega)
      clear hi hlt
      go_wp2_with fail
      go_ret
      exact ⟨rl, cl, rfl, V0.out.congr (fun j hj => by
        show (⟨(l j).topic, (l j).rank, if j < n then behR n l gs j else (l j).cur⟩ : Queue.Sub) = ⟨(l j).topic, (l j).rank, behR n l gs j⟩
        rw [if_pos hj]), OR.out.2, L0.out⟩
    have kd : decide ((i : Int) < (n : Int)) = true := decide_eq_true (by omega)
    have ki0 : (0 : Int) ≤ (i : Int) := by omega
    have ki1 : (i : Int) < (n : Int) := by omega
    have HI := Lib.hid hlt
    have HM := Lib.hid (turn_no i n hlt (by have := N64.out; unfold maxLen; omega))
    have hgk := HGB.out _ (nth_mem (xs := gs) (i := i) (by rw [HGL.out]; exact hlt))
    have HSE := Lib.hid (fun W => refSee_any (l i).cur (nth gs i) (HRT.out i hlt).2.cur hgk.1 (HRT.out i hlt).1 hgk.2 W)
    unfold Cur.val at HSE
    clear hi hlt hgk
    obtain ⟨wq, rfl⟩ : ∃ W : World, W = wr := ⟨_, rfl⟩
    go_upto_region 7 with fail
    clear kd
    have hne : Nonempty (Held (Ex (fun _ => False) wq)) := ⟨⟨wq, Ex.refl _ _⟩⟩
    have hq := fun y : Held (Ex (fun _ => False) wq) => (V0.out.ex y.ok (fun h => h)).six HI.out
    simp only [PC.sub, Nat.lt_irrefl, if_false] at hq
    have q2 := fun y => (hq y).2.2.1
    have q3 := fun y => (hq y).2.2.2.1
    have q4 := fun y => (hq y).2.2.2.2.1
    have q5 := fun y => (hq y).2.2.2.2.2
    have q6 : ∀ y : Held (Ex (fun _ => False) wq), y.w.cell? ⟨r, i, none⟩ = some (.int .u64 (nth gs i)) := fun y => (U0.out.ex y.ok (fun h => h)).word (by rw [HGL.out]; exact HI.out)
    clear hq
    refine drawn_tail (S := (Ex (fun _ => False) wq)) [14] [([0, 1, 2, 3, 4, 5, 6, 7, 8, 9, 10], 11), ([], 12), ([], 13), ([], 14)] (by kernel_rfl) (by kernel_rfl) (by kernel_rfl) rfl (Ex.refl _ _).drew ?_
    refine PhasedT.go ?_
    simp only [pick, List.map_cons, List.map_nil, List.getElem?_cons_zero, List.getElem?_cons_succ, Option.getD_some]
    repeat (go_big_quiet_step (fail))
    refine wpQuiet_nil ?_
    have VD := Lib.hid (Ex.refl (fun _ => False) wq).drew
    generalize wq.drew = wa at *
    go_wp2_with fail
    refine (HSE.out _).mono ?_; rintro e wb ⟨rfl, hb⟩
    have VE := Lib.hid (VD.out.trans (Ex.of_below hb))
    have L4 := Lib.hid (Ex.below L0.out VE.out (fun _ h => h.elim))
    have U4 := Lib.hid (U0.out.ex VE.out (fun h => h))
    have V4 := Lib.hid (V0.out.ex VE.out (fun h => h))
    clear hb VD V0 U0 L0 HSE
    obtain ⟨d, hd⟩ : ∃ d, Queue.seen (l i).cur (nth gs i) = d := ⟨_, rfl⟩
    rw [hd]
    have HD := Lib.hid hd
    clear hd
    go_wp2_with fail
    refine behind_normal ⟨(Ex (fun _ => False) wq), fun W h => h, by first | exact VE.out | exact fun _ => VE.out, ?_⟩
    refine PhasedT.go ?_
    simp only [pick, List.map_cons, List.map_nil, List.getElem?_cons_zero, List.getElem?_cons_succ, Option.getD_some]
    repeat (go_big_quiet_step (fail))
    refine wpQuiet_nil ?_
    go_wp2_with fail
    refine behind_normal ⟨(Ex (fun _ => False) wq), fun W h => h, by first | exact VE.out | exact fun _ => VE.out, ?_⟩
    refine PhasedT.go ?_
    simp only [pick, List.map_cons, List.map_nil, List.getElem?_cons_zero, List.getElem?_cons_succ, Option.getD_some]
    repeat (go_big_quiet_step (fail))
    refine wpQuiet_nil ?_
    go_wp2_with fail
    refine behind_normal ⟨(Ex (fun _ => False) wq), fun W h => h, by first | exact VE.out | exact fun _ => VE.out, ?_⟩
    refine PhasedT.go ?_
    simp only [pick, List.map_cons, List.map_nil, List.getElem?_cons_zero, List.getElem?_cons_succ, Option.getD_some]
    repeat (go_big_quiet_step (fail))
    refine wpQuiet_nil ?_
    clear hne q2 q3 q4 q5 q6
    have x2 : wb.cell? ⟨rl, i * 6 + 2, none⟩ = _ := V4.out.cells i HI.out 2 (by decide)
    have x3 : wb.cell? ⟨rl, i * 6 + 3, none⟩ = _ := V4.out.cells i HI.out 3 (by decide)
    have x4 : wb.cell? ⟨rl, i * 6 + 4, none⟩ = _ := V4.out.cells i HI.out 4 (by decide)
    have x5 : wb.cell? ⟨rl, i * 6 + 5, none⟩ = _ := V4.out.cells i HI.out 5 (by decide)
    simp only [subC, PC.sub] at x2 x3 x4 x5
    have z2 := V4.out.fro (i * 6 + 2)
    have z3 := V4.out.fro (i * 6 + 3)
    have z4 := V4.out.fro (i * 6 + 4)
    have z5 := V4.out.fro (i * 6 + 5)
    go_wp2_with fail
    clear x2 x3 x4 x5 z2 z3 z4 z5
    have hss : SubsIn ((((wb.setCell ⟨rl, i * 6 + 2, none⟩ (.int .u64 d.next)).setCell ⟨rl, i * 6 + 3, none⟩ (.int .i64 d.cap)).setCell ⟨rl, i * 6 + 4, none⟩ (.int .u64 d.got)).setCell ⟨rl, i * 6 + 5, none⟩ (.int .u64 d.lost)) rl n ((cL n l).sub (fun j => if j = i then d else (if j < i then behR n l gs j else (l j).cur))) := V4.out.setCur HI.out d (fun j hj => rfl)
    have ee : Ex (fun k => k = rl) wb ((((wb.setCell ⟨rl, i * 6 + 2, none⟩ (.int .u64 d.next)).setCell ⟨rl, i * 6 + 3, none⟩ (.int .i64 d.cap)).setCell ⟨rl, i * 6 + 4, none⟩ (.int .u64 d.got)).setCell ⟨rl, i * 6 + 5, none⟩ (.int .u64 d.lost)) := ((((Ex.refl (fun k => k = rl) wb).setCell (q := ⟨rl, i * 6 + 2, none⟩) (.inl rfl) _).setCell (q := ⟨rl, i * 6 + 3, none⟩) (.inl rfl) _).setCell (q := ⟨rl, i * 6 + 4, none⟩) (.inl rfl) _).setCell (q := ⟨rl, i * 6 + 5, none⟩) (.inl rfl) _
    have V5 := Lib.hid hss
    have U5 := Lib.hid (U4.out.ex ee (by have o_ := OR.out; omega))
    have L5 := Lib.hid (Ex.below L4.out ee (fun k hk => by have hk : k = rl := hk; have o_ := OR.out; omega))
    clear hss ee V4 U4 L4 VE
    refine behind_normal ⟨(Ex (fun _ => False) wq), fun W h => h, by first | exact fun h => absurd h (by decide) | trivial | simp, ?_⟩
    refine PhasedT.end_ ?_
    generalize ((((wb.setCell ⟨rl, i * 6 + 2, none⟩ (.int .u64 d.next)).setCell ⟨rl, i * 6 + 3, none⟩ (.int .i64 d.cap)).setCell ⟨rl, i * 6 + 4, none⟩ (.int .u64 d.got)).setCell ⟨rl, i * 6 + 5, none⟩ (.int .u64 d.lost)) = wc at *
    by_cases hp : (i : Int) = pr
    rotate_left
    · have kp : ((i : Int) == pr) = false := beq_eq_false_iff_ne.2 hp
      have HB := Lib.hid (show behR n l gs i = d from by unfold behR; rw [HPR.out, if_neg hp, HD.out])
      clear hp
      go_wp2_with fail
      go_roundw
      case rel => exact ⟨i + 1, HI.out, HM.out.1, V5.out.congr (fun j hj => by
        show (⟨(l j).topic, (l j).rank, if j = i then d else (if j < i then behR n l gs j else (l j).cur)⟩ : Queue.Sub) = ⟨(l j).topic, (l j).rank, if j < i + 1 then behR n l gs j else (l j).cur⟩
        rw [upto_step (behR n l gs) (fun j => (l j).cur) i j, HB.out]), U5.out, L5.out⟩
      case measure => exact HM.out.2
    · have kp : ((i : Int) == pr) = true := beq_iff_eq.2 hp
      have HB := Lib.hid (show behR n l gs i = bumpR d from by unfold behR; rw [HPR.out, if_pos hp, HD.out])
      clear hp
      have x2 : wc.cell? ⟨rl, i * 6 + 2, none⟩ = _ := V5.out.cells i HI.out 2 (by decide)
      simp only [subC, PC.sub, if_true] at x2
      have z2 := V5.out.fro (i * 6 + 2)
      go_upto_region 10 with fail
      clear x2 z2 kp
      have hss := V5.out.setNx HI.out (IntKind.u64.wrap (d.next + 1)) (cu' := fun j => if j = i then ⟨IntKind.u64.wrap (d.next + 1), d.cap, d.got, d.lost⟩ else (if j < i then behR n l gs j else (l j).cur)) (fun j hj => by
        by_cases e : j = i
        · simp only [if_pos e]
        · simp only [if_neg e])
      have ee : Ex (fun k => k = rl) wc (wc.setCell ⟨rl, i * 6 + 2, none⟩ (.int .u64 (IntKind.u64.wrap (d.next + 1)))) := (Ex.refl (fun k => k = rl) wc).setCell (q := ⟨rl, i * 6 + 2, none⟩) (.inl rfl) _
      have V6 := Lib.hid hss
      have U6 := Lib.hid (U5.out.ex ee (by have o_ := OR.out; omega))
      have L6 := Lib.hid (Ex.below L5.out ee (fun k hk => by have hk : k = rl := hk; have o_ := OR.out; omega))
      clear hss ee V5 U5 L5
      generalize wc.setCell ⟨rl, i * 6 + 2, none⟩ (.int .u64 (IntKind.u64.wrap (d.next + 1))) = wd at *
      have x4 : wd.cell? ⟨rl, i * 6 + 4, none⟩ = _ := V6.out.cells i HI.out 4 (by decide)
      simp only [subC, PC.sub, if_true] at x4
      have z4 := V6.out.fro (i * 6 + 4)
      go_wp2_with fail
      have hss := V6.out.setGt HI.out (IntKind.u64.wrap (d.got + 1)) (cu' := fun j => if j = i then bumpR d else (if j < i then behR n l gs j else (l j).cur)) (fun j hj => by
        by_cases e : j = i
        · simp only [if_pos e]; rfl
        · simp only [if_neg e])
      have ee : Ex (fun k => k = rl) wd (wd.setCell ⟨rl, i * 6 + 4, none⟩ (.int .u64 (IntKind.u64.wrap (d.got + 1)))) := (Ex.refl (fun k => k = rl) wd).setCell (q := ⟨rl, i * 6 + 4, none⟩) (.inl rfl) _
      have V7 := Lib.hid hss
      have U7 := Lib.hid (U6.out.ex ee (by have o_ := OR.out; omega))
      have L7 := Lib.hid (Ex.below L6.out ee (fun k hk => by have hk : k = rl := hk; have o_ := OR.out; omega))
      clear hss ee V6 U6 L6 x4 z4
      generalize wd.setCell ⟨rl, i * 6 + 4, none⟩ (.int .u64 (IntKind.u64.wrap (d.got + 1))) = we at *
      go_roundw
      case rel => exact ⟨i + 1, HI.out, HM.out.1, V7.out.congr (fun j hj => by
        show (⟨(l j).topic, (l j).rank, if j = i then bumpR d else (if j < i then behR n l gs j else (l j).cur)⟩ : Queue.Sub) = ⟨(l j).topic, (l j).rank, if j < i + 1 then behR n l gs j else (l j).cur⟩
        rw [upto_step (behR n l gs) (fun j => (l j).cur) i j, HB.out]), U7.out, L7.out⟩
      case measure => exact HM.out.2
end Go.Proofs.Ythcaagkgddeabaa.Bank
