/-
  Law 12, the document's answer: a poll in memory; Gens. Printed by wip/tools/mkpord.py. Conditions stand at each. By an AI agent.
-/
import Derived.Test.YthcaagkgddeabaaPoRc
import Derived.Test.YthcaagkgddeabaaPoW
namespace Go.Proofs.Ythcaagkgddeabaa.Bank
set_option linter.unusedVariables false
set_option linter.unusedSimpArgs false
open Go Go.RowKit Go.Proofs.Ythcaagkgddeabaa.Base Go.Deep Go.ChangeShapes Go.WideShapes Go.Proofs.Ythcaagkgddeabaa.Queue
/-- the cells of the document's poll -/
def rocs (sb sc pb pc ob oc n T : Nat) (tries : Int) (lv : Value) (how steps at_ : Int) : Array Value :=
  #[.slice (some ⟨sb, 0, none⟩) n sc, .slice (some ⟨pb, 0, none⟩) n pc, .slice (some ⟨ob, 0, none⟩) T oc, .int .i64 tries, lv, .int .i64 how, .int .i64 steps, .int .i64 at_]
/-- a row of indices -/
structure IdxIn (w : World) (ob T : Nat) (od : Nat → Nat) : Prop where
  lt : ob < w.heap.size
  cells : ∀ k, k < T → w.cell? ⟨ob, k, none⟩ = some (.int .i64 (od k : Nat))
theorem IdxIn.ex {T0 : Nat → Prop} {w w' : World} {ob T : Nat} {od : Nat → Nat} (h : IdxIn w ob T od) (p : Ex T0 w w') (hg : ¬ T0 ob) : IdxIn w' ob T od :=
  ⟨Nat.lt_of_lt_of_le h.lt p.size, fun k hk => p.cell (h.cells k hk) hg⟩
theorem IdxIn.bl {w w' : World} {ob T : Nat} {od : Nat → Nat} (h : IdxIn w ob T od) (hb : Below w.heap.size w w') : IdxIn w' ob T od := h.ex (T0 := fun _ => False) (Ex.of_below hb) (fun h => h)
def gensR (n : Nat) (ix : Nat → Nat) (L : List Int) : List Int := (List.range n).map fun i => nth L (ix i) / 2
theorem gensR_len (n : Nat) (ix : Nat → Nat) (L : List Int) : (gensR n ix L).length = n := by simp [gensR]
theorem gensR_nth {n : Nat} (ix : Nat → Nat) (L : List Int) {i : Nat} (hi : i < n) : nth (gensR n ix L) i = nth L (ix i) / 2 := by simp [gensR, nth, hi]
theorem u64_half {v : Int} (h : 0 ≤ v ∧ v ≤ 18446744073709551615) : IntKind.u64.wrap (v.tdiv 2) = v / 2 := by
  rw [Int.tdiv_eq_ediv_of_nonneg h.1]
  simp [IntKind.wrap, IntKind.bits, IntKind.signed]
  omega
set_option maxRecDepth 100000 in
set_option maxHeartbeats 16000000 in
theorem RGens_any (o sb sc pb pc ob oc n T : Nat) (lv : Value) (tries how steps at_ : Int) (l : Nat → Queue.Sub) (od ix : Nat → Nat) (L : List Int) (w : World) (hbx : Blk w o 86 (rocs sb sc pb pc ob oc n T tries lv how steps at_))
    (hs : SubsIn w sb n l) (ho : IdxIn w ob T od) (hL : Ints w .u64 lv L) (hn : n ≤ 64) (hT : T ≤ L.length ∧ T ≤ 64) (hod : ∀ k, k < T → od k < n) (hix : ∀ i, i < n → ix i < T ∧ ∀ k, k < T → ((l (od k)).topic = (l i).topic ↔ k = ix i)) (hu : ∀ x ∈ L, 0 ≤ x ∧ x ≤ 18446744073709551615) :
    Calls Try.prog 35 #[.pointer (some ⟨o, 0, none⟩)] w fun e w' => ∃ r, e = .returned (.slice (some ⟨r, 0, none⟩) n n) ∧ w.heap.size ≤ r ∧ URow w' r (gensR n ix L) ∧ Below w.heap.size w w' := by
  have B0 := Lib.hid hbx
  have S0 := Lib.hid hs
  have I0 := Lib.hid ho
  obtain ⟨A5, c5, rfl, _, hf5⟩ := hL.form
  have N64 := Lib.hid hn
  have HT := Lib.hid hT
  have HOD := Lib.hid hod
  have HIX := Lib.hid hix
  have HU := Lib.hid hu
  have HF5 := Lib.hid hf5
  clear hbx hs ho hL hn hT hod hix hu hf5
  have hmk := make_words n (by have := N64.out; omega) w
  have b0 := B0.out.cell 0
  simp only [rocs, List.getElem?_toArray, List.getElem?_cons_zero, List.getElem?_cons_succ] at b0
  have b0a : (w.alloc (.cells ((zeros n).map (Value.int .u64)).toArray 32)).cell? ⟨o, 0, none⟩ = some (.slice (some ⟨sb, 0, none⟩) n sc) := Lib.cell?_alloc_some _ b0
  go_enter Try.func35, Try.ntmps35
  go_upto_region 2 with fail
  clear hmk b0 b0a
  have hn := Blk.new w 32 ((zeros n).map (Value.int .u64)).toArray
  have hb := (Below.refl w.heap.size w).alloc (Nat.le_refl _) (.cells ((zeros n).map (Value.int .u64)).toArray 32)
  obtain ⟨r, hr⟩ : ∃ r, w.heap.size = r := ⟨_, rfl⟩
  have HR := Lib.hid hr
  simp only [hr] at hn ⊢
  clear hr
  generalize w.alloc (.cells ((zeros n).map (Value.int .u64)).toArray 32) = w1 at *
  have U1 := Lib.hid (show URow w1 r (zeros n) from hn)
  have L1 := Lib.hid hb
  clear hn hb
  go_wp2_with fail
  go_loopw [4, 5] (fun s4 s5 wr => ∃ i : Nat, i ≤ n ∧ s4 = .int .i64 i ∧ (∃ X, URow wr r X ∧ X.length = n ∧ ∀ j, j < i → nth X j = nth L (ix j) / 2) ∧ Below w.heap.size w wr) (fun s4 s5 _ => n - (intOf s4).toNat)
  case atStart => exact ⟨0, by omega, rfl, ⟨_, U1.out, by simp [zeros], fun j hj => absurd hj (by omega)⟩, L1.out⟩
  case round =>
    obtain ⟨i, hi, rfl, ⟨X, hu, hlen, hX⟩, hl⟩ := hrel
    have HX := Lib.hid hX
    have HLEN := Lib.hid hlen
    have U0 := Lib.hid hu
    have L0 := Lib.hid hl
    clear hX hlen hu hl
    have b0 := (B0.out.bl L0.out).cell 0
    simp only [rocs, List.getElem?_toArray, List.getElem?_cons_zero, List.getElem?_cons_succ] at b0
    by_cases hlt : i < n
    rotate_left
    · obtain rfl : n = i := by omega
      have kd : decide ((n : Int) < (n : Int)) = false := decide_eq_false (by omega)
      have hXX : X = gensR n ix L := eq_of_nth (by rw [HLEN.out, gensR_len]) (fun j hj => by
        rw [HLEN.out] at hj
        rw [HX.out j hj, gensR_nth ix L hj])
      have HXX := Lib.hid hXX
      clear hXX
      go_wp2_with fail
      go_ret
      exact ⟨r, rfl, Nat.le_of_eq HR.out, HXX.out ▸ U0.out, L0.out⟩
    have kd : decide ((i : Int) < (n : Int)) = true := decide_eq_true (by omega)
    have ki0 : (0 : Int) ≤ (i : Int) := by omega
    have ki1 : (i : Int) < (n : Int) := by omega
    have HI := Lib.hid hlt
    have HM := Lib.hid (turn_no i n hlt (by have := N64.out; unfold maxLen; omega))
    clear hi hlt
    go_wp2_with fail
    clear kd b0
    go_loopw [5] (fun s5 wr => ∃ k : Nat, k ≤ T ∧ s5 = .int .i64 k ∧ (∃ X, URow wr r X ∧ X.length = n ∧ (∀ j, j < i → nth X j = nth L (ix j) / 2) ∧ (ix i < k → nth X i = nth L (ix i) / 2)) ∧ Below w.heap.size w wr) (fun s5 _ => T - (intOf s5).toNat)
    case atStart => exact ⟨0, by omega, rfl, ⟨_, U0.out, HLEN.out, HX.out, fun h => absurd h (by omega)⟩, L0.out⟩
    case round =>
      clear HX HLEN U0 L0
      obtain ⟨k, hk, rfl, ⟨X, hu, hlen, hX, hXi⟩, hl⟩ := hrel
      have HX := Lib.hid hX
      have HXI := Lib.hid hXi
      have HLEN := Lib.hid hlen
      have U0 := Lib.hid hu
      have L0 := Lib.hid hl
      clear hX hlen hu hl hXi
      obtain ⟨wq, rfl⟩ : ∃ W : World, W = wr := ⟨_, rfl⟩
      have b2 := (B0.out.bl L0.out).cell 2
      simp only [rocs, List.getElem?_toArray, List.getElem?_cons_zero, List.getElem?_cons_succ] at b2
      by_cases hlt : k < T
      rotate_left
      · obtain rfl : T = k := by omega
        have kd : decide ((T : Int) < (T : Int)) = false := decide_eq_false (by omega)
        clear hk hlt
        go_wp2_with fail
        go_roundw
        case rel => exact ⟨i + 1, HI.out, HM.out.1, ⟨_, U0.out, HLEN.out, fun j hj => by
          by_cases e : j = i
          · rw [e]; exact HXI.out (HIX.out i HI.out).1
          · exact HX.out j (by omega)⟩, L0.out⟩
        case measure => exact HM.out.2
      have kd : decide ((k : Int) < (T : Int)) = true := decide_eq_true (by omega)
      have kk0 : (0 : Int) ≤ (k : Int) := by omega
      have kk1 : (k : Int) < (T : Int) := by omega
      have HK := Lib.hid hlt
      have HM2 := Lib.hid (turn_no k T hlt (by have := HT.out.2; unfold maxLen; omega))
      have HDK := Lib.hid (HOD.out k hlt)
      clear hk hlt
      go_upto_region 8 with fail
      clear b2
      obtain ⟨dk, hdk⟩ : ∃ dk, od k = dk := ⟨_, rfl⟩
      have HDD := Lib.hid hdk
      have hne : Nonempty (Held (fun W => W = wq.drew)) := ⟨⟨_, rfl⟩⟩
      have LD := Lib.hid L0.out.drew
      have p0 : ∀ y : Held (fun W => W = wq.drew), y.w.cell? ⟨o, 0, none⟩ = some (.slice (some ⟨sb, 0, none⟩) n sc) := fun y => by rw [y.ok]; exact (B0.out.bl LD.out).cell 0
      have p2 : ∀ y : Held (fun W => W = wq.drew), y.w.cell? ⟨o, 2, none⟩ = some (.slice (some ⟨ob, 0, none⟩) T oc) := fun y => by rw [y.ok]; exact (B0.out.bl LD.out).cell 2
      have p3 : ∀ y : Held (fun W => W = wq.drew), y.w.cell? ⟨ob, k, none⟩ = some (.int .i64 (dk : Nat)) := fun y => by rw [y.ok, ← hdk]; exact (I0.out.bl LD.out).cells k HK.out
      have p4 : ∀ y : Held (fun W => W = wq.drew), y.w.cell? ⟨sb, dk * 6, none⟩ = some (.int .i64 (l dk).topic) := fun y => by rw [y.ok]; exact ((S0.out.bl LD.out).six (hdk ▸ HDK.out)).1
      have p5 : ∀ y : Held (fun W => W = wq.drew), y.w.cell? ⟨sb, i * 6, none⟩ = some (.int .i64 (l i).topic) := fun y => by rw [y.ok]; exact ((S0.out.bl LD.out).six HI.out).1
      have kd0 : (0 : Int) ≤ (dk : Int) := by omega
      have kd1 : (dk : Int) < (n : Int) := by have h1 := HDK.out; omega
      have hkix := (HIX.out i HI.out).2 k HK.out
      rw [hdk] at hkix
      have HKX := Lib.hid hkix
      clear hdk hkix
      by_cases ht : (l dk).topic = (l i).topic
      · have kt : ((l dk).topic == (l i).topic) = true := beq_iff_eq.2 ht
        have HE := Lib.hid (HKX.out.1 ht)
        clear ht
        refine drawn_bars (S := fun _ => True) [] [0, 1, 2, 3, 4, 5, 6, 7, 8, 9, 10, 11, 12, 13, 14, 15, 16, 17, 18, 19, 20, 21, 22] (by kernel_rfl) (by kernel_rfl) (by kernel_rfl) rfl trivial ?_
        refine Phased.end_ ?_
        simp only [pick, List.map_cons, List.map_nil, List.getElem?_cons_zero, List.getElem?_cons_succ, Option.getD_some]
        repeat (go_big_quiet_step (fail))
        refine wpQuiet_nil ?_
        clear hne p0 p2 p3 p4 p5
        have b4 := (B0.out.bl LD.out).cell 4
        simp only [rocs, List.getElem?_toArray, List.getElem?_cons_zero, List.getElem?_cons_succ] at b4
        obtain ⟨b5, o5, hA5, hb5, hc5⟩ := HF5.out (by intro hz; have h1 := HT.out.1; have h2 := HK.out; rw [hz] at h1; simp at h1; omega)
        subst hA5
        have hkL : k < L.length := by have h1 := HT.out.1; have h2 := HK.out; omega
        have c5k := (LD.out.cell (p := ⟨b5, o5 + k, none⟩) hb5).trans (hc5 k hkL)
        have hvf := HU.out _ (nth_mem (xs := L) (i := k) hkL)
        have kl1 : (k : Int) < (L.length : Int) := by omega
        have U3 := Lib.hid (U0.out.bl (Below.refl _ wq).drew)
        have hvv : nth L k = nth L (ix i) := by rw [HE.out]
        obtain ⟨vv, hv⟩ : ∃ vv, nth L k = vv := ⟨_, rfl⟩
        rw [hv] at c5k hvf hvv
        have HVV := Lib.hid hvv
        have HVF := Lib.hid (u64_half hvf)
        clear hvf hvv hb5 hc5 hkL hv
        generalize wq.drew = w3 at *
        have u1 := U3.out.word (i := i) (by rw [HLEN.out]; exact HI.out)
        have u2 := Blk.frozen U3.out i
        go_wp2_with fail
        rw [HVF.out]
        have hee := (Below.refl w.heap.size w3).setCell (p := ⟨r, i, none⟩) (Nat.le_of_eq HR.out) (.int .u64 (vv / 2))
        have L4 := Lib.hid (LD.out.trans hee)
        have U4 := Lib.hid (U3.out.stored i (vv / 2))
        clear b4 c5k u1 u2 hee
        generalize w3.setCell ⟨r, i, none⟩ (.int .u64 (vv / 2)) = w4 at *
        try go_wp2_with fail
        go_roundw
        case rel => exact ⟨k + 1, HK.out, HM2.out.1, ⟨_, U4.out, by rw [List.length_set]; exact HLEN.out, fun j hj => by
          rw [nth_set _ _ _ _ (by rw [HLEN.out]; exact HI.out), if_neg (by omega)]; exact HX.out j hj, fun _ => by
          rw [nth_set _ _ _ _ (by rw [HLEN.out]; exact HI.out), if_pos rfl, HVV.out]⟩, L4.out⟩
        case measure => exact HM2.out.2
      · have kt : ((l dk).topic == (l i).topic) = false := beq_eq_false_iff_ne.2 ht
        have HE := Lib.hid (show k ≠ ix i from fun e => ht (HKX.out.2 e))
        clear ht
        refine drawn_bars (S := fun _ => True) [] [0, 1, 2, 3, 4, 5, 6, 7, 8, 9, 10, 11, 12, 13, 14, 15, 16, 17, 18, 19, 20, 21, 22] (by kernel_rfl) (by kernel_rfl) (by kernel_rfl) rfl trivial ?_
        refine Phased.end_ ?_
        simp only [pick, List.map_cons, List.map_nil, List.getElem?_cons_zero, List.getElem?_cons_succ, Option.getD_some]
        repeat (go_big_quiet_step (fail))
        refine wpQuiet_nil ?_
        clear hne p0 p2 p3 p4 p5
        have U3 := Lib.hid (U0.out.bl (Below.refl _ wq).drew)
        generalize wq.drew = w3 at *
        go_wp2_with fail
        go_roundw
        case rel => exact ⟨k + 1, HK.out, HM2.out.1, ⟨_, U3.out, HLEN.out, HX.out, fun h => HXI.out (by have := HE.out; omega)⟩, LD.out⟩
        case measure => exact HM2.out.2
end Go.Proofs.Ythcaagkgddeabaa.Bank
