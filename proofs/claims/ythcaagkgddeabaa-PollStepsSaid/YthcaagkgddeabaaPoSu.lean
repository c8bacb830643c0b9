/-
  PollSteps, walked. Printed by wip/tools/mkpost.py. Conditions stand at each. By an AI agent.
  PollSteps' turns, opened. No condition. By an AI agent.
-/
import Derived.Test.YthcaagkgddeabaaPoRn
import Derived.Test.YthcaagkgddeabaaPoV
import Derived.Deep.CutRange
import Derived.Deep.CutBlock
namespace Go.Proofs.Ythcaagkgddeabaa.Bank
set_option linter.unusedVariables false
set_option linter.unusedSimpArgs false
open Go Go.RowKit Go.Proofs.Ythcaagkgddeabaa.Base Go.Deep Go.ChangeShapes Go.WideShapes Go.Proofs.Ythcaagkgddeabaa.Queue
structure Trn where
  st : Bool
  at_ : Int
  x : Int
instance : Inhabited Trn := ⟨⟨false, 0, 0⟩⟩
structure Trns (w : World) (v : Value) (n : Nat) (l : Nat → Trn) : Prop where
  form : ∃ A c, v = .slice A n c ∧ n ≤ maxLen ∧ (0 < n → ∃ b o, A = some ⟨b, o, none⟩ ∧ b < w.heap.size ∧ ∀ i : Nat, i < n →
    w.cell? ⟨b, o + i * 3, none⟩ = some (.bool (l i).st) ∧ w.cell? ⟨b, o + i * 3 + 1, none⟩ = some (.int .i64 (l i).at_) ∧ w.cell? ⟨b, o + i * 3 + 2, none⟩ = some (.int .u64 (l i).x))
  ok : ∀ i : Nat, i < n → (-9223372036854775808 ≤ (l i).at_ ∧ (l i).at_ ≤ 9223372036854775807) ∧ 0 ≤ (l i).x ∧ (l i).x ≤ 18446744073709551615
theorem PGood.more {c : PC} {cu0 : Nat → Cur} {x : PX} {M M' : Int} (h : PGood c cu0 x M) (e : M ≤ M') : PGood c cu0 x M' :=
  ⟨h.ok, h.cur, h.gl, h.glen, h.left, ⟨h.st.1, Int.le_trans h.st.2 e⟩, h.nx, h.how, h.not, h.way, h.fin⟩
/-- a part of a row -/
theorem ints_part {w : World} {A : Option Addr} {m c : Nat} {L : List Int} (h : Ints w .u64 (.slice A m c) L) (hl : L.length = m) {T k c' : Nat} (hT : T + k ≤ m) (hm : 0 < m) : ∃ b o, A = some ⟨b, o, none⟩ ∧ Ints w .u64 (.slice (some ⟨b, o + T, none⟩) k c') ((L.drop T).take k) := by
  obtain ⟨A_, c_, hv, hx, hf⟩ := h.form
  obtain ⟨b, o, e, hb, hc⟩ := hf (by intro h0; rw [h0] at hl; simp at hl; omega)
  simp only [Value.slice.injEq] at hv
  obtain ⟨rfl, _, rfl⟩ := hv
  refine ⟨b, o, e, ⟨⟨_, c', ?_, ?_, fun _ => ⟨b, o + T, rfl, hb, fun i hi => ?_⟩⟩⟩⟩
  · rw [List.length_take, List.length_drop]
    rw [show min k (L.length - T) = k by omega]
  · rw [List.length_take, List.length_drop]
    omega
  · rw [List.length_take, List.length_drop] at hi
    have := hc (T + i) (by omega)
    rw [Nat.add_assoc, this]
    unfold nth
    rw [List.getD_eq_getElem?_getD, List.getD_eq_getElem?_getD, List.getElem?_take_of_lt (by omega), List.getElem?_drop]
theorem Trns.cells {w w' : World} {v : Value} {n : Nat} {l : Nat → Trn} (h : Trns w v n l) (hb : Below w.heap.size w w') {i : Nat} (hi : i < n) : ∃ b o c, v = .slice (some ⟨b, o, none⟩) n c ∧
    w'.cell? ⟨b, o + i * 3, none⟩ = some (.bool (l i).st) ∧ w'.cell? ⟨b, o + i * 3 + 1, none⟩ = some (.int .i64 (l i).at_) ∧ w'.cell? ⟨b, o + i * 3 + 2, none⟩ = some (.int .u64 (l i).x) := by
  obtain ⟨A, c, rfl, _, hg⟩ := h.form
  obtain ⟨b, o, rfl, hb2, hc⟩ := hg (by omega)
  obtain ⟨h1, h2, h3⟩ := hc i hi
  exact ⟨b, o, c, rfl, (hb.cell (p := ⟨b, _, none⟩) hb2).trans h1, (hb.cell (p := ⟨b, _, none⟩) hb2).trans h2, (hb.cell (p := ⟨b, _, none⟩) hb2).trans h3⟩
theorem slot60 (a : Int) : ∃ k : Nat, (wrap64 (a.tmod 60 + 60)).tmod 60 = (k : Int) ∧ k < 60 := by
  have h1 : -60 < a.tmod 60 ∧ a.tmod 60 < 60 := by
    by_cases ha : 0 ≤ a
    · rw [Int.tmod_eq_emod_of_nonneg ha]; omega
    · have e : a.tmod 60 = -((-a).tmod 60) := by rw [Int.neg_tmod, Int.neg_neg]
      rw [e, Int.tmod_eq_emod_of_nonneg (by omega)]; omega
  rw [wrap64_in _ (by omega), Int.tmod_eq_emod_of_nonneg (by omega)]
  exact ⟨((a.tmod 60 + 60) % 60).toNat, by omega, by omega⟩
theorem i64_w (n : Int) : IntKind.i64.wrap n = wrap64 n := Go.IntWalk.i64_left n
theorem RLive.beside {w w' : World} {lam : Nat → Nat} {tag tag' f N n g h : Nat} {l : Nat → Queue.Sub} {s : Nat → Spot} {od : Nat → Nat} {y : RS} (p : RLive w lam tag' f N n l s od y) (hx : Ex (fun k => k = g ∨ k = h ∨ lam k = tag) w w') (hne : tag ≠ tag') (hg : lam g ≠ tag') (hh : lam h ≠ tag') : RLive w' (lamN lam w.heap.size tag) tag' f N n l s od y := by
  refine (p.relam (fun k hk => lamN_lt hk)).ex hx (fun k hk => ?_)
  rcases Nat.lt_or_ge k w.heap.size with h1 | h1
  · rw [lamN_lt h1]
    rcases hk with rfl | rfl | hk
    · exact hg
    · exact hh
    · rw [hk]; exact hne
  · rw [lamN_ge h1]; exact hne
theorem RB.beside {w w' : World} {lam : Nat → Nat} {tag tag' f N n g h B sb sc pb pc ob oc : Nat} {lv : Value} {l : Nat → Queue.Sub} {s : Nat → Spot} {od : Nat → Nat} {y : RS} (p : RB w lam tag' f N n l s od y B sb sc pb pc ob oc lv) (hx : Ex (fun k => k = g ∨ k = h ∨ lam k = tag) w w') (hne : tag ≠ tag') (hg : lam g ≠ tag') (hh : lam h ≠ tag') : RB w' (lamN lam w.heap.size tag) tag' f N n l s od y B sb sc pb pc ob oc lv := by
  refine (p.relam (fun k hk => lamN_lt hk)).ex hx (fun k hk => ?_)
  rcases Nat.lt_or_ge k w.heap.size with h1 | h1
  · rw [lamN_lt h1]
    rcases hk with rfl | rfl | hk
    · exact hg
    · exact hh
    · rw [hk]; exact hne
  · rw [lamN_ge h1]; exact hne
theorem OwnL.block {w : World} {B : Nat} {v : Value} {L : List Int} (h : OwnL w B v L) (hl : 0 < L.length) : ∃ g c, v = .slice (some ⟨g, 0, none⟩) L.length c ∧ L.length ≤ c := by
  rcases h.2 with ⟨rfl, h0⟩ | ⟨g, cap, cur, rfl, hbg, hh, hnc, _⟩
  · omega
  · exact ⟨g, cap, rfl, hnc⟩
theorem same_refl (v1 v2 : Value) (xs : List Int) (w : World) (h1 : Ints w .u64 v1 xs) (h2 : Ints w .u64 v2 xs) (hs : xs.length ≤ 1000) :
    Calls Try.prog 18 #[v1, v2] w fun e w' => e = .returned (.bool true) ∧ Below w.heap.size w w' :=
  (same_any v1 v2 xs xs w h1 h2 hs).mono (fun e w' ⟨h, hb⟩ => ⟨by rw [h, decide_eq_true rfl], hb⟩)
theorem did_tick {n m : Nat} {l : Nat → Queue.Sub} {s : Nat → Spot} {od : Nat → Nat} {x : PX} {y : RS} {M : Int} {ws : List Int} (hr : DocRel n l s x y) (hd : DocOk n m l s od) (hg : PGood (cOf n l s) (fun i => (l i).cur) x M) (t : Int) :
    pTickF (cOf n l s) ws x t = if rDid (cOf n l s).T n l s od (cOf n l s).ix ws y = true then wrap64 (t + 1) else t := by
  unfold pTickF rDid
  rw [hr.how]
  by_cases hh : x.how = 0
  · have h2 : ¬ x.how ≠ 0 := fun e => e hh
    rw [if_neg h2, (hr.at_ hd hg hh).1, decide_eq_true hh]
    unfold tickF
    by_cases hin : inW ws (pAtF (cOf n l s) x)
    · rw [if_pos hin, decide_eq_true hin, i64_w]; rfl
    · rw [if_neg hin, decide_eq_false hin]; rfl
  · rw [if_pos hh, decide_eq_false hh]; rfl
set_option maxRecDepth 100000 in
set_option maxHeartbeats 30000000 in
theorem PollSteps_walk (v0 v1 v2 : Value) (c : Cs) (ws0 : List Int) (y : Nat × (Nat → Trn)) (w : World) (hc : CsAt w v0 c) (hws : Ints w .u64 v1 ws0) (hfit : (∀ y ∈ ws0, 0 ≤ y ∧ y ≤ 18446744073709551615)) (hy : Trns w v2 y.1 y.2) :
    Calls Try.prog 6 #[v0, v1, v2] w fun e w' => e = .returned (.bool true) ∧ Below w.heap.size w w' := by
  obtain ⟨va, vb, n, m, l, s, tries⟩ := c
  obtain ⟨na, la⟩ := y
  obtain ⟨hv0, hsub, hsps, hcfit⟩ := hc
  simp only at hv0 hsub hsps hcfit hy
  subst hv0
  obtain ⟨A1, c1, rfl, hnc⟩ := hsub.cap
  obtain ⟨A2, c2, rfl, hm, _⟩ := hsps.form
  obtain ⟨A3, c3, rfl, hlen3, hf3⟩ := hws.form
  obtain ⟨A4, c4, rfl, _, _⟩ := hy.form
  have HSUB := Lib.hid hsub
  have HSPS := Lib.hid hsps
  have HCF := Lib.hid hcfit
  have HF3 := Lib.hid hf3
  have HFIT := Lib.hid hfit
  have HY := Lib.hid hy
  obtain ⟨len, hlen⟩ : ∃ len, ws0.length = len := ⟨_, rfl⟩
  have HLEN := Lib.hid hlen
  rw [hlen]
  clear hcfit hsub hsps hws hf3 hfit hnc hm hlen3 hlen hy
  have L0 := Lib.hid (Below.refl w.heap.size w)
  go_enter Try.func6, Try.ntmps6
  go_upto_region 1 with fail
  have hn := Blk.new w 25 #[.slice A1 n c1, .slice A2 m c2, .int .i64 tries]
  obtain ⟨cb, hnb⟩ : ∃ cb, w.heap.size = cb := ⟨_, rfl⟩
  have hlo_ : w.heap.size ≤ cb := hnb ▸ L0.out.size
  simp only [hnb] at hn ⊢
  have ORD1 := Lib.hid (show w.heap.size ≤ cb from by omega)
  have ee : Ex (fun _ => False) w (w.alloc (.cells #[.slice A1 n c1, .slice A2 m c2, .int .i64 tries] 25)) := (Ex.refl _ w).alloc (.cells #[.slice A1 n c1, .slice A2 m c2, .int .i64 tries] 25)
  have L2 := Lib.hid (Ex.below L0.out ee (fun k hk => hk.elim))
  have C2 := Lib.hid (hn)
  clear ee L0 hn hnb  hlo_
  generalize w.alloc (.cells #[.slice A1 n c1, .slice A2 m c2, .int .i64 tries] 25) = w1 at *
  go_wp2_with fail
  refine (New_in 60 (by decide) (by decide) w1).mono ?_; rintro e w2 ⟨rfl, hb, hl, hsz⟩
  have hb : BankAt w2 (w1.heap.size + 1) w1.heap.size (zeros 60) 0 := hb
  obtain ⟨h, hrr⟩ : ∃ h, w1.heap.size = h := ⟨_, rfl⟩
  have hlt_cb : cb < h := hrr ▸ C2.out.lt
  have hlo_ : w.heap.size ≤ h := hrr ▸ L2.out.size
  simp only [hrr] at hb ⊢
  obtain ⟨g, hg⟩ : ∃ g, h + 1 = g := ⟨_, rfl⟩
  simp only [hg] at hb ⊢
  have ORD3 := Lib.hid (show w.heap.size ≤ cb ∧ cb < h ∧ w.heap.size ≤ h ∧ h + 1 = g from by have o_ := ORD1.out; omega)
  clear ORD1
  have ee : Ex (fun _ => False) w1 w2 := Ex.of_below hl
  have L4 := Lib.hid (Ex.below L2.out ee (fun k hk => hk.elim))
  have C4 := Lib.hid (C2.out.ex ee (fun h => h))
  have K4 := Lib.hid (hb)
  clear ee L2 C2 hb hl hsz hrr hg hlt_cb hlo_
  by_cases h8 : n ≤ 8
  rotate_left
  · have kh8 : decide ((n : Int) > 8) = true := decide_eq_true (by omega)
    clear h8
    have cq0 := C4.out.cell 0
    have cq1 := C4.out.cell 1
    simp only [List.getElem?_toArray, List.getElem?_cons_succ, List.getElem?_cons_zero] at cq0 cq1
    go_wp2_with fail
    clear kh8
    clear cq0 cq1
    refine (awake_any w2).mono ?_; rintro e wz ⟨rfl, hbz⟩
    have ee : Ex (fun _ => False) w2 wz := Ex.of_below hbz
    have L5 := Lib.hid (Ex.below L4.out ee (fun k hk => hk.elim))
    have C5 := Lib.hid (C4.out.ex ee (fun h => h))
    have K5 := Lib.hid (K4.out.ex ee (fun h => h) (fun h => h))
    clear ee L4 C4 K4 hbz
    go_wp2_with fail
    go_ret
    exact ⟨rfl, L5.out⟩
  by_cases hm8 : m ≤ 8
  rotate_left
  · have kh8 : decide ((n : Int) > 8) = false := decide_eq_false (by omega)
    have khm8 : decide ((m : Int) > 8) = true := decide_eq_true (by omega)
    clear h8 hm8
    have cq0 := C4.out.cell 0
    have cq1 := C4.out.cell 1
    simp only [List.getElem?_toArray, List.getElem?_cons_succ, List.getElem?_cons_zero] at cq0 cq1
    go_wp2_with fail
    clear kh8 khm8
    clear cq0 cq1
    refine (awake_any w2).mono ?_; rintro e wz ⟨rfl, hbz⟩
    have ee : Ex (fun _ => False) w2 wz := Ex.of_below hbz
    have L5 := Lib.hid (Ex.below L4.out ee (fun k hk => hk.elim))
    have C5 := Lib.hid (C4.out.ex ee (fun h => h))
    have K5 := Lib.hid (K4.out.ex ee (fun h => h) (fun h => h))
    clear ee L4 C4 K4 hbz
    go_wp2_with fail
    go_ret
    exact ⟨rfl, L5.out⟩
  by_cases h300 : na ≤ 300
  rotate_left
  · have kh8 : decide ((n : Int) > 8) = false := decide_eq_false (by omega)
    have khm8 : decide ((m : Int) > 8) = false := decide_eq_false (by omega)
    have kh300 : decide ((na : Int) > 300) = true := decide_eq_true (by omega)
    clear h8 hm8 h300
    have cq0 := C4.out.cell 0
    have cq1 := C4.out.cell 1
    simp only [List.getElem?_toArray, List.getElem?_cons_succ, List.getElem?_cons_zero] at cq0 cq1
    go_wp2_with fail
    clear kh8 khm8 kh300
    clear cq0 cq1
    refine (awake_any w2).mono ?_; rintro e wz ⟨rfl, hbz⟩
    have ee : Ex (fun _ => False) w2 wz := Ex.of_below hbz
    have L5 := Lib.hid (Ex.below L4.out ee (fun k hk => hk.elim))
    have C5 := Lib.hid (C4.out.ex ee (fun h => h))
    have K5 := Lib.hid (K4.out.ex ee (fun h => h) (fun h => h))
    clear ee L4 C4 K4 hbz
    go_wp2_with fail
    go_ret
    exact ⟨rfl, L5.out⟩
  have kh8 : decide ((n : Int) > 8) = false := decide_eq_false (by omega)
  have khm8 : decide ((m : Int) > 8) = false := decide_eq_false (by omega)
  have kh300 : decide ((na : Int) > 300) = false := decide_eq_false (by omega)
  have H8 := Lib.hid h8
  have HM8 := Lib.hid hm8
  have H300 := Lib.hid h300
  have HPL := Lib.hid (fun W (hb : Below w.heap.size w W) => RPlain_any _ _ n m l s tries W (HSUB.out.below hb).subs (HSPS.out.below hb) h8 hm8)
  clear h8 hm8 h300
  have cq0 := C4.out.cell 0
  have cq1 := C4.out.cell 1
  have cq2 := C4.out.cell 2
  simp only [List.getElem?_toArray, List.getElem?_cons_succ, List.getElem?_cons_zero] at cq0 cq1 cq2
  by_cases hin : Fits n m l s ∧ 1 ≤ tries ∧ tries ≤ 16
  rotate_left
  · have HMF := Lib.hid (mayF_out hin)
    have HW := Lib.hid (fun W (hb : Below w.heap.size w W) => PNew_out _ _ n m l s tries W (HSUB.out.below hb) (HSPS.out.below hb) hin)
    clear hin
    go_wp2_with fail
    clear kh8 khm8 kh300 cq0 cq1 cq2
    refine (HW.out w2 L4.out).mono ?_; rintro e w3 ⟨rfl, hb⟩
    have ee : Ex (fun _ => False) w2 w3 := Ex.of_below hb
    have L5 := Lib.hid (Ex.below L4.out ee (fun k hk => hk.elim))
    have C5 := Lib.hid (C4.out.ex ee (fun h => h))
    have K5 := Lib.hid (K4.out.ex ee (fun h => h) (fun h => h))
    clear ee L4 C4 K4 hb
    clear HW
    have cq0 := C5.out.cell 0
    have cq1 := C5.out.cell 1
    have cq2 := C5.out.cell 2
    simp only [List.getElem?_toArray, List.getElem?_cons_succ, List.getElem?_cons_zero] at cq0 cq1 cq2
    go_wp2_with fail
    refine (HPL.out w3 L5.out).mono ?_; rintro e w4 ⟨u1, u2, rfl, hu1, hu2, hb⟩
    have HU := Lib.hid (show ∀ W, Below w4.heap.size w4 W → Queue.Subs W u1 n l ∧ Sps W u2 m s from fun W hW => ⟨subs_below (subs_of_own hu1 (by have h := H8.out; unfold maxLen; omega) (fun i hi => HSUB.out.subs.ok i hi)) hW, (sps_of_own hu2 (by have h := HM8.out; unfold maxLen; omega)).1.below hW⟩)
    clear cq0 cq1 cq2
    have ee : Ex (fun _ => False) w3 w4 := Ex.of_below hb
    have L6 := Lib.hid (Ex.below L5.out ee (fun k hk => hk.elim))
    have C6 := Lib.hid (C5.out.ex ee (fun h => h))
    have K6 := Lib.hid (K5.out.ex ee (fun h => h) (fun h => h))
    clear ee L5 C5 K5 hb hu1 hu2
    have V0 := Lib.hid (Below.refl w4.heap.size w4)
    have HMY := Lib.hid (fun W (hb : Below w4.heap.size w4 W) => RMay_any _ _ n m l s tries W (HU.out W hb).1 (HU.out W hb).2)
    have HRM := Lib.hid (fun W (hb : Below w4.heap.size w4 W) => RMost_any _ m s tries W (HU.out W hb).2 (by have h := HM8.out; omega))
    have HMO := Lib.hid (fun W (hb : Below w.heap.size w W) => Most_any _ m s tries W (HSPS.out.below hb) (by have h := HM8.out; omega))
    clear HU
    obtain ⟨mf, hmf⟩ : ∃ mf, mayF n m l s tries = mf := ⟨_, rfl⟩
    obtain ⟨mo, hmo⟩ : ∃ mo, mostF m s tries = mo := ⟨_, rfl⟩
    rw [hmf] at HMF HMY
    rw [hmo] at HRM HMO
    rw [hmf]
    clear hmo hmf
    have cq2 := C6.out.cell 2
    simp only [List.getElem?_toArray, List.getElem?_cons_succ, List.getElem?_cons_zero] at cq2
    go_wp2_with fail
    refine (HMY.out w4 V0.out).mono ?_; rintro e w5 ⟨rfl, hb⟩
    clear cq2
    have ee : Ex (fun _ => False) w4 w5 := Ex.of_below hb
    have L7 := Lib.hid (Ex.below L6.out ee (fun k hk => hk.elim))
    have C7 := Lib.hid (C6.out.ex ee (fun h => h))
    have K7 := Lib.hid (K6.out.ex ee (fun h => h) (fun h => h))
    have V7 := Lib.hid (Ex.below V0.out ee (fun k hk => hk.elim))
    clear ee L6 C6 K6 V0 hb
    have cq1 := C7.out.cell 1
    have cq2 := C7.out.cell 2
    simp only [List.getElem?_toArray, List.getElem?_cons_succ, List.getElem?_cons_zero] at cq1 cq2
    have kee : (mf != mf) = false := bne_self_eq_false _
    have kmm : (mo != mo) = false := bne_self_eq_false _
    go_upto_region 9 with fail
    clear cq1 cq2
    have hne : Nonempty (Held (Below w5.heap.size w5)) := ⟨⟨w5, Below.refl _ _⟩⟩
    have p1 : ∀ y : Held (Below w5.heap.size w5), y.w.cell? ⟨cb, 1, none⟩ = some (.slice A2 m c2) := fun y => (C7.out.bl y.ok).cell 1
    have p2 : ∀ y : Held (Below w5.heap.size w5), y.w.cell? ⟨cb, 2, none⟩ = some (.int .i64 tries) := fun y => (C7.out.bl y.ok).cell 2
    refine drawn_bars (S := (Below w5.heap.size w5)) [([0, 1, 2, 3, 4, 5, 6, 7, 9, 10, 11], 8), ([], 12)] [13, 14] (by kernel_rfl) (by kernel_rfl) (by kernel_rfl) rfl (Below.refl _ _).drew ?_
    refine Phased.go ?_
    simp only [pick, List.map_cons, List.map_nil, List.getElem?_cons_zero, List.getElem?_cons_succ, Option.getD_some]
    repeat (go_big_quiet_step (fail))
    refine wpQuiet_nil ?_
    go_wp2_with fail
    have hl0 := (Below.refl w5.heap.size w5).drew
    refine (HMO.out _ (bl L7.out hl0)).mono ?_; rintro e w6 ⟨rfl, hl4⟩
    have hl5 := bl hl0 hl4
    go_wp2_with fail
    refine behind_normal ⟨(Below w5.heap.size w5), fun W h => h, hl5, ?_⟩
    refine Phased.go ?_
    simp only [pick, List.map_cons, List.map_nil, List.getElem?_cons_zero, List.getElem?_cons_succ, Option.getD_some]
    repeat (go_big_quiet_step (fail))
    refine wpQuiet_nil ?_
    go_wp2_with fail
    refine (HRM.out _ (bl V7.out hl5)).mono ?_; rintro e w7 ⟨rfl, hl6⟩
    have hl7 := bl hl5 hl6
    go_wp2_with fail
    refine behind_normal ⟨(Below w5.heap.size w5), fun W h => h, hl7, ?_⟩
    refine Phased.end_ ?_
    have hne5 : Nonempty (Held (fun W => W = w7)) := ⟨⟨_, rfl⟩⟩
    simp only [pick, List.map_cons, List.map_nil, List.getElem?_cons_zero, List.getElem?_cons_succ, Option.getD_some]
    repeat (go_big_quiet_step (fail))
    refine wpQuiet_nil ?_
    clear hne5 hne p1 p2
    clear hl0 hl4 hl5 hl6 HRM HMO HMY HPL V7 kmm
    have ee : Ex (fun _ => False) w5 w7 := Ex.of_below hl7
    have L8 := Lib.hid (Ex.below L7.out ee (fun k hk => hk.elim))
    have C8 := Lib.hid (C7.out.ex ee (fun h => h))
    have K8 := Lib.hid (K7.out.ex ee (fun h => h) (fun h => h))
    clear ee L7 C7 K7 hl7
    clear kee
    have kne : (mf != 0) = true := by simpa using HMF.out
    go_wp2_with fail
    clear kne
    refine (awake_any w7).mono ?_; rintro e wz ⟨rfl, hbz⟩
    have ee : Ex (fun _ => False) w7 wz := Ex.of_below hbz
    have L9 := Lib.hid (Ex.below L8.out ee (fun k hk => hk.elim))
    have C9 := Lib.hid (C8.out.ex ee (fun h => h))
    have K9 := Lib.hid (K8.out.ex ee (fun h => h) (fun h => h))
    clear ee L8 C8 K8 hbz
    go_wp2_with fail
    go_ret
    exact ⟨rfl, L9.out⟩
  have HFT := Lib.hid hin.1
  have HTR := Lib.hid hin.2
  have HMF := Lib.hid (mayF_in hin.1 hin.2)
  have HW := Lib.hid (fun W (hb : Below w.heap.size w W) => LNew_in (fun _ => 0) 1 _ _ n m l s tries W (HSUB.out.below hb) (HSPS.out.below hb) (by have h := H8.out; omega) hin.1 hin.2)
  clear hin
  go_wp2_with fail
  clear kh8 khm8 kh300 cq0 cq1 cq2
  refine (HW.out w2 L4.out).mono ?_; rintro e w3 ⟨o, rfl, hp, ho, hb⟩
  obtain ⟨N, hN⟩ : ∃ N, w2.heap.size = N := ⟨_, rfl⟩
  have hlt_cb : cb < N := hN ▸ C4.out.lt
  have hlt_g : g < N := hN ▸ K4.out.head.lt
  have hlt_h : h < N := hN ▸ K4.out.row.lt
  have hlo_ : w.heap.size ≤ N := hN ▸ L4.out.size
  rw [hN] at hp ho
  have ORD5 := Lib.hid (show w.heap.size ≤ cb ∧ cb < h ∧ w.heap.size ≤ h ∧ h + 1 = g ∧ cb < N ∧ g < N ∧ h < N ∧ w.heap.size ≤ N ∧ N ≤ o from by have o_ := ORD3.out; omega)
  clear ORD3
  have ee : Ex (fun _ => False) w2 w3 := Ex.of_below hb
  have L6 := Lib.hid (Ex.below L4.out ee (fun k hk => hk.elim))
  have C6 := Lib.hid (C4.out.ex ee (fun h => h))
  have K6 := Lib.hid (K4.out.ex ee (fun h => h) (fun h => h))
  have A6 := Lib.hid (hp)
  clear ee L4 C4 K4 hb hp ho hN hlo_ hlt_cb hlt_g hlt_h
  clear HW
  have cq0 := C6.out.cell 0
  have cq1 := C6.out.cell 1
  have cq2 := C6.out.cell 2
  simp only [List.getElem?_toArray, List.getElem?_cons_succ, List.getElem?_cons_zero] at cq0 cq1 cq2
  go_wp2_with fail
  refine (HPL.out w3 L6.out).mono ?_; rintro e w4 ⟨u1, u2, rfl, hu1, hu2, hb⟩
  have HU := Lib.hid (show ∀ W, Below w4.heap.size w4 W → Queue.Subs W u1 n l ∧ Sps W u2 m s from fun W hW => ⟨subs_below (subs_of_own hu1 (by have h := H8.out; unfold maxLen; omega) (fun i hi => HSUB.out.subs.ok i hi)) hW, (sps_of_own hu2 (by have h := HM8.out; unfold maxLen; omega)).1.below hW⟩)
  have HMN := Lib.hid (show n = m from HFT.out.2.1)
  have hmn := HMN.out
  subst hmn
  have HPOS := Lib.hid (show 0 < n by have h := HFT.out.1; omega)
  rw [ucells_eq] at hu1
  rw [rscells_eq] at hu2
  obtain ⟨r1, d1, rfl, _, hr1, hs1⟩ := subsIn_of_own hu1 HPOS.out
  obtain ⟨r2, d2, rfl, hr2, hs2⟩ := spIn_of_own hu2 HPOS.out
  have hlt_o : o < w3.heap.size := A6.out.lt
  have ORD7 := Lib.hid (show w.heap.size ≤ cb ∧ cb < h ∧ w.heap.size ≤ h ∧ h + 1 = g ∧ cb < N ∧ g < N ∧ h < N ∧ w.heap.size ≤ N ∧ N ≤ o ∧ N ≤ r1 ∧ N ≤ r2 from by have o_ := ORD5.out; omega)
  clear ORD5
  clear hlt_o
  clear cq0 cq1 cq2
  have ee : Ex (fun _ => False) w3 w4 := Ex.of_below hb
  have L8 := Lib.hid (Ex.below L6.out ee (fun k hk => hk.elim))
  have C8 := Lib.hid (C6.out.ex ee (fun h => h))
  have K8 := Lib.hid (K6.out.ex ee (fun h => h) (fun h => h))
  have A8 := Lib.hid (A6.out.ex ee (fun _ h => h.elim))
  have U18 := Lib.hid (hs1)
  have U28 := Lib.hid (hs2)
  clear ee L6 C6 K6 A6 hb hu1 hu2 hs1 hs2 hr1 hr2
  have V0 := Lib.hid (Below.refl w4.heap.size w4)
  have HMY := Lib.hid (fun W (hb : Below w4.heap.size w4 W) => RMay_any _ _ n n l s tries W (HU.out W hb).1 (HU.out W hb).2)
  have HRM := Lib.hid (fun W (hb : Below w4.heap.size w4 W) => RMost_any _ n s tries W (HU.out W hb).2 (by have h := H8.out; omega))
  have HMO := Lib.hid (fun W (hb : Below w.heap.size w W) => Most_any _ n s tries W (HSPS.out.below hb) (by have h := H8.out; omega))
  clear HU
  obtain ⟨mf, hmf⟩ : ∃ mf, mayF n n l s tries = mf := ⟨_, rfl⟩
  obtain ⟨mo, hmo⟩ : ∃ mo, mostF n s tries = mo := ⟨_, rfl⟩
  rw [hmf] at HMF HMY
  rw [hmo] at HRM HMO

  clear hmo hmf
  have hmf0 := HMF.out
  subst hmf0
  have cq2 := C8.out.cell 2
  simp only [List.getElem?_toArray, List.getElem?_cons_succ, List.getElem?_cons_zero] at cq2
  go_wp2_with fail
  refine (HMY.out w4 V0.out).mono ?_; rintro e w5 ⟨rfl, hb⟩
  clear cq2
  have ee : Ex (fun _ => False) w4 w5 := Ex.of_below hb
  have L9 := Lib.hid (Ex.below L8.out ee (fun k hk => hk.elim))
  have C9 := Lib.hid (C8.out.ex ee (fun h => h))
  have K9 := Lib.hid (K8.out.ex ee (fun h => h) (fun h => h))
  have A9 := Lib.hid (A8.out.ex ee (fun _ h => h.elim))
  have U19 := Lib.hid (U18.out.ex ee (fun h => h))
  have U29 := Lib.hid (U28.out.ex ee (fun h => h))
  have V9 := Lib.hid (Ex.below V0.out ee (fun k hk => hk.elim))
  clear ee L8 C8 K8 A8 U18 U28 V0 hb
  have cq1 := C9.out.cell 1
  have cq2 := C9.out.cell 2
  simp only [List.getElem?_toArray, List.getElem?_cons_succ, List.getElem?_cons_zero] at cq1 cq2

  have kmm : (mo != mo) = false := bne_self_eq_false _
  go_upto_region 9 with fail
  clear cq1 cq2
  have hne : Nonempty (Held (Below w5.heap.size w5)) := ⟨⟨w5, Below.refl _ _⟩⟩
  have p1 : ∀ y : Held (Below w5.heap.size w5), y.w.cell? ⟨cb, 1, none⟩ = some (.slice A2 n c2) := fun y => (C9.out.bl y.ok).cell 1
  have p2 : ∀ y : Held (Below w5.heap.size w5), y.w.cell? ⟨cb, 2, none⟩ = some (.int .i64 tries) := fun y => (C9.out.bl y.ok).cell 2
  refine drawn_bars (S := (Below w5.heap.size w5)) [([0, 1, 2, 3, 4, 5, 6, 7, 9, 10, 11], 8), ([], 12)] [13, 14] (by kernel_rfl) (by kernel_rfl) (by kernel_rfl) rfl (Below.refl _ _).drew ?_
  refine Phased.go ?_
  simp only [pick, List.map_cons, List.map_nil, List.getElem?_cons_zero, List.getElem?_cons_succ, Option.getD_some]
  repeat (go_big_quiet_step (fail))
  refine wpQuiet_nil ?_
  go_wp2_with fail
  have hl0 := (Below.refl w5.heap.size w5).drew
  refine (HMO.out _ (bl L9.out hl0)).mono ?_; rintro e w6 ⟨rfl, hl4⟩
  have hl5 := bl hl0 hl4
  go_wp2_with fail
  refine behind_normal ⟨(Below w5.heap.size w5), fun W h => h, hl5, ?_⟩
  refine Phased.go ?_
  simp only [pick, List.map_cons, List.map_nil, List.getElem?_cons_zero, List.getElem?_cons_succ, Option.getD_some]
  repeat (go_big_quiet_step (fail))
  refine wpQuiet_nil ?_
  go_wp2_with fail
  refine (HRM.out _ (bl V9.out hl5)).mono ?_; rintro e w7 ⟨rfl, hl6⟩
  have hl7 := bl hl5 hl6
  go_wp2_with fail
  refine behind_normal ⟨(Below w5.heap.size w5), fun W h => h, hl7, ?_⟩
  refine Phased.end_ ?_
  have hne5 : Nonempty (Held (fun W => W = w7)) := ⟨⟨_, rfl⟩⟩
  simp only [pick, List.map_cons, List.map_nil, List.getElem?_cons_zero, List.getElem?_cons_succ, Option.getD_some]
  repeat (go_big_quiet_step (fail))
  refine wpQuiet_nil ?_
  clear hne5 hne p1 p2
  clear hl0 hl4 hl5 hl6 HRM HMO HMY HPL V9 kmm
  have ee : Ex (fun _ => False) w5 w7 := Ex.of_below hl7
  have L10 := Lib.hid (Ex.below L9.out ee (fun k hk => hk.elim))
  have C10 := Lib.hid (C9.out.ex ee (fun h => h))
  have K10 := Lib.hid (K9.out.ex ee (fun h => h) (fun h => h))
  have A10 := Lib.hid (A9.out.ex ee (fun _ h => h.elim))
  have U110 := Lib.hid (U19.out.ex ee (fun h => h))
  have U210 := Lib.hid (U29.out.ex ee (fun h => h))
  clear ee L9 C9 K9 A9 U19 U29 hl7
  have hmk := make_words 60 (by decide) w7
  rw [show ((60 : Nat) : Int) = (60 : Int) from rfl] at hmk
  go_upto_region 14 with fail
  clear hmk
  have hn : URow (w7.alloc (.cells ((zeros 60).map (Value.int .u64)).toArray 32)) w7.heap.size (zeros 60) := Blk.new w7 32 _
  obtain ⟨nb, hnb⟩ : ∃ nb, w7.heap.size = nb := ⟨_, rfl⟩
  have hlt_cb : cb < nb := hnb ▸ C10.out.lt
  have hlt_g : g < nb := hnb ▸ K10.out.head.lt
  have hlt_h : h < nb := hnb ▸ K10.out.row.lt
  have hlt_o : o < nb := hnb ▸ A10.out.lt
  have hlt_r1 : r1 < nb := hnb ▸ U110.out.lt
  have hlt_r2 : r2 < nb := hnb ▸ U210.out.lt
  have hlo_ : w.heap.size ≤ nb := hnb ▸ L10.out.size
  simp only [hnb] at hn ⊢
  have ORD11 := Lib.hid (show w.heap.size ≤ cb ∧ cb < h ∧ w.heap.size ≤ h ∧ h + 1 = g ∧ cb < N ∧ g < N ∧ h < N ∧ w.heap.size ≤ N ∧ N ≤ o ∧ N ≤ r1 ∧ N ≤ r2 ∧ cb < nb ∧ g < nb ∧ h < nb ∧ o < nb ∧ r1 < nb ∧ r2 < nb ∧ w.heap.size ≤ nb from by have o_ := ORD7.out; omega)
  clear ORD7
  have hp2 : PLive w7 (lamN (LB N) nb 0) 1 o (cOf n l s) (x0F n l s tries) := A10.out.relam (fun k hk => lamN_lt (by omega))
  have HLAM := Lib.hid (show (∀ k, k < N → lamN (LB N) nb 0 k = 0) ∧ lamN (LB N) nb 0 nb = 0 from ⟨fun k hk => by rw [lamN_lt (by have o_ := ORD11.out; omega), LB_lt hk], lamN_ge (Nat.le_refl _)⟩)
  obtain ⟨lam0, hlam0⟩ : ∃ lam0, lamN (LB N) nb 0 = lam0 := ⟨_, rfl⟩
  rw [hlam0] at HLAM hp2
  clear hlam0 A10
  have A_ := Lib.hid hp2
  clear hp2
  have ee : Ex (fun _ => False) w7 (w7.alloc (.cells ((zeros 60).map (Value.int .u64)).toArray 32)) := (Ex.refl _ w7).alloc (.cells ((zeros 60).map (Value.int .u64)).toArray 32)
  have L12 := Lib.hid (Ex.below L10.out ee (fun k hk => hk.elim))
  have C12 := Lib.hid (C10.out.ex ee (fun h => h))
  have K12 := Lib.hid (K10.out.ex ee (fun h => h) (fun h => h))
  have A12 := Lib.hid (A_.out.ex ee (fun _ h => h.elim))
  have U112 := Lib.hid (U110.out.ex ee (fun h => h))
  have U212 := Lib.hid (U210.out.ex ee (fun h => h))
  have R12 := Lib.hid (hn)
  clear ee L10 C10 K10 A_ U110 U210 hn hnb hlo_ hlt_cb hlt_g hlt_h hlt_o hlt_r1 hlt_r2
  generalize (w7.alloc (.cells ((zeros 60).map (Value.int .u64)).toArray 32)) = w8 at *
  go_wp2_with fail
  obtain ⟨wA, rfl⟩ : ∃ W : World, W = w8 := ⟨_, rfl⟩
  have Y0 := Lib.hid (Ex.refl (fun k => k = g ∨ k = h ∨ k = nb) wA)
  have HZ60 := Lib.hid (show (zeros 60).length = 60 from by simp [zeros])
  go_loopw [15] (fun s15 wr => ∃ i : Nat, i ≤ 60 ∧ s15 = .int .i64 i ∧ (∃ (WS : List Int) (t : Int), BankAt wr g h WS t ∧ URow wr nb WS ∧ WS.length = 60) ∧ Ex (fun k => k = g ∨ k = h ∨ k = nb) wA wr) (fun s15 _ => 60 - (intOf s15).toNat)
  case atStart => exact ⟨0, by omega, rfl, ⟨_, _, K12.out, R12.out, HZ60.out⟩, Y0.out⟩
  case round =>
    obtain ⟨i, hi, rfl, ⟨WS, t, hk, hr, hwl⟩, hy⟩ := hrel
    have KK := Lib.hid hk
    have RR := Lib.hid hr
    have HWL := Lib.hid hwl
    have Y1 := Lib.hid hy
    clear hk hr hwl
    have ee : Ex (fun k => k = g ∨ k = h ∨ k = nb) wA wr := hy
    have L13 := Lib.hid (Ex.below L12.out ee (fun k hk => by have hk : k = g ∨ k = h ∨ k = nb := hk; have o_ := ORD11.out; omega))
    have C13 := Lib.hid (C12.out.ex ee (fun hT => by have hT : cb = g ∨ cb = h ∨ cb = nb := hT; have o_ := ORD11.out; omega))
    have A13 := Lib.hid (A12.out.ex ee (fun k hk => by have hk : k = g ∨ k = h ∨ k = nb := hk; rcases hk with rfl | rfl | rfl <;> first | (rw [HLAM.out.2]; decide) | (rw [HLAM.out.1 _ (by have o_ := ORD11.out; omega)]; decide)))
    have U113 := Lib.hid (U112.out.ex ee (fun hT => by have hT : r1 = g ∨ r1 = h ∨ r1 = nb := hT; have o_ := ORD11.out; omega))
    have U213 := Lib.hid (U212.out.ex ee (fun hT => by have hT : r2 = g ∨ r2 = h ∨ r2 = nb := hT; have o_ := ORD11.out; omega))
    have K13 := Lib.hid (KK.out)
    have R13 := Lib.hid (RR.out)
    clear ee L12 C12 A12 U112 U212 hy KK RR
    go_upto_region 15 with fail

    obtain ⟨cf, hcf⟩ : ∃ cf, decide ((i < 60) ∧ (i < len)) = cf := ⟨_, rfl⟩
    have Hcf := Lib.hid hcf
    clear hcf
    obtain ⟨wq, rfl⟩ : ∃ W : World, W = wr := ⟨_, rfl⟩
    go_cut [100] from 93 to 100 (fun v wx => v = .bool cf ∧ wx = wq)
    case first =>
      by_cases t0 : i < 60
      · have u0_0 : decide ((i : Int) < 60) = true := by first | exact decide_eq_true (by omega) | simpa using t0
        have u0_1 : decide (i < 60) = true := by first | exact decide_eq_true (by omega) | simpa using t0
        by_cases t1 : i < len
        · have u1_0 : decide ((i : Int) < (len : Int)) = true := by first | exact decide_eq_true (by omega) | simpa using t1
          have u1_1 : decide (i < len) = true := by first | exact decide_eq_true (by omega) | simpa using t1
          have hh := Hcf.out
          rw [decide_eq_true (show (i < 60) ∧ (i < len) from ⟨t0, t1⟩)] at hh
          subst hh
          clear t0 t1
          go_wp2_with fail
          go_meet
          exact ⟨rfl, rfl⟩
        · have u1_0 : decide ((i : Int) < (len : Int)) = false := by first | exact decide_eq_false (by omega) | simpa using t1
          have u1_1 : decide (i < len) = false := by first | exact decide_eq_false (by omega) | simpa using t1
          have hh := Hcf.out
          rw [decide_eq_false (show ¬ ((i < 60) ∧ (i < len)) from fun h => t1 h.2)] at hh
          subst hh
          clear t0 t1
          go_wp2_with fail
          go_meet
          exact ⟨rfl, rfl⟩
      · have u0_0 : decide ((i : Int) < 60) = false := by first | exact decide_eq_false (by omega) | simpa using t0
        have u0_1 : decide (i < 60) = false := by first | exact decide_eq_false (by omega) | simpa using t0
        have hh := Hcf.out
        rw [decide_eq_false (show ¬ ((i < 60) ∧ (i < len)) from fun h => t0 h.1)] at hh
        subst hh
        clear t0
        go_wp2_with fail
        go_meet
        exact ⟨rfl, rfl⟩
    case rest =>
      obtain ⟨rfl, hwc⟩ := hcut
      subst hwc
      cases cf with
      | true =>
        have hh := of_decide_eq_true Hcf.out
        have HI := Lib.hid hh
        have ki0 : (0 : Int) ≤ (i : Int) := by omega
        have ki1 : (i : Int) < (len : Int) := by omega
        have ki2 : (i : Int) < 60 := by omega
        have HM := Lib.hid (turn_no i 60 hh.1 (by decide))
        obtain ⟨b3, o3, rfl, hb3, hc3⟩ := HF3.out (by intro hz; have h1 := HLEN.out; rw [hz] at h1; simp at h1; omega)
        have HCE := Lib.hid (show ∀ W, Below w.heap.size w W → W.cell? ⟨b3, o3 + i, none⟩ = some (.int .u64 (nth ws0 i)) from fun W hW => (hW.cell (p := ⟨b3, o3 + i, none⟩) hb3).trans (hc3 i (by rw [HLEN.out]; omega)))
        have hvf := HFIT.out _ (nth_mem (xs := ws0) (i := i) (by rw [HLEN.out]; omega))
        obtain ⟨vv, hvv⟩ : ∃ vv, nth ws0 i = vv := ⟨_, rfl⟩
        rw [hvv] at HCE hvf
        have HV := Lib.hid hvf
        have hcell := HCE.out wc L13.out
        clear hvf hvv hb3 hc3 hh
        go_wp2_with fail
        refine (Store_any g h WS t (i : Int) vv wc K13.out HV.out).mono ?_; rintro e wd ⟨rfl, hk, hx⟩
        clear hcell
        have hinw : inW WS (i : Int) := by unfold inW; rw [HWL.out]; have := HI.out; omega
        rw [errF_in hinw]
        rw [setF_in hinw, Int.toNat_natCast] at hk
        have hx9 := Ex.of_ex2 (T := fun k => k = g ∨ k = h) hx (.inl rfl) (.inr rfl)
        have YX := Lib.hid (Y1.out.trans (hx9.mono (fun k hk => by have hk : k = g ∨ k = h := hk; rcases hk with rfl | rfl; exact .inl rfl; exact .inr (.inl rfl))))
        have ee : Ex (fun k => k = g ∨ k = h) wc wd := hx9
        have L14 := Lib.hid (Ex.below L13.out ee (fun k hk => by have hk : k = g ∨ k = h := hk; have o_ := ORD11.out; omega))
        have C14 := Lib.hid (C13.out.ex ee (fun hT => by have hT : cb = g ∨ cb = h := hT; have o_ := ORD11.out; omega))
        have A14 := Lib.hid (A13.out.ex ee (fun k hk => by have hk : k = g ∨ k = h := hk; rw [HLAM.out.1 _ (by have o_ := ORD11.out; omega)]; decide))
        have U114 := Lib.hid (U113.out.ex ee (fun hT => by have hT : r1 = g ∨ r1 = h := hT; have o_ := ORD11.out; omega))
        have U214 := Lib.hid (U213.out.ex ee (fun hT => by have hT : r2 = g ∨ r2 = h := hT; have o_ := ORD11.out; omega))
        have R14 := Lib.hid (R13.out.ex ee (fun hT => by have hT : nb = g ∨ nb = h := hT; have o_ := ORD11.out; omega))
        have K14 := Lib.hid (hk)
        clear ee L13 C13 A13 U113 U213 K13 R13 hx9 hx hk hinw Y1
        have hcell := HCE.out wd L14.out
        have ke : ((0 : Int) != 0) = false := rfl
        have qw := R14.out.word (i := i) (by rw [HWL.out]; exact HI.out.1)
        have fw := Blk.frozen R14.out i
        go_wp2_with fail
        clear hcell qw fw ke
        have RB := Lib.hid (R14.out.stored i vv)
        have YZ := Lib.hid (YX.out.trans (((Ex.refl (fun k => k = g ∨ k = h ∨ k = nb) wd).setCell (q := ⟨nb, i, none⟩) (.inl (.inr (.inr rfl))) (.int .u64 vv))))
        have KB := Lib.hid (K14.out.ex ((Ex.refl (fun k => k = nb) wd).setCell (q := ⟨nb, i, none⟩) (.inl rfl) (.int .u64 vv)) (by have o_ := ORD11.out; omega) (by have o_ := ORD11.out; omega))
        go_roundw
        case rel => exact ⟨i + 1, by have := HI.out; omega, by go_num, ⟨_, _, KB.out, RB.out, by rw [List.length_set]; exact HWL.out⟩, YZ.out⟩
        case measure => have := HI.out; simp [intOf]; omega
      | false =>
        clear Hcf Y1 Y0
        have cq2 := C13.out.cell 2
        simp only [List.getElem?_toArray, List.getElem?_cons_succ, List.getElem?_cons_zero] at cq2
        go_wp2_with fail
        clear cq2
        refine (RBegin_any r1 d1 r2 d2 n n l s tries wc U113.out U213.out HFT.out H8.out (fun i hi => HSUB.out.subs.ok i hi)).mono ?_; rintro e wd ⟨f, sb, sc, pb, pc, ob, oc, od, rfl, hbx, hsb, hpb, hob, hod, hlo, hb⟩
        have HDO := Lib.hid (show DocOk n n l s od from ⟨HFT.out, H8.out, fun i hi => HSUB.out.subs.ok i hi, hod⟩)
        have hrl := RLive.begin f sb sc pb pc ob oc n lam0 2 hbx hsb hpb hob hlo
        obtain ⟨NR, hNR⟩ : ∃ NR, wc.heap.size = NR := ⟨_, rfl⟩
        have hltb : nb < NR := hNR ▸ R13.out.lt
        have hltf : NR ≤ f := by omega
        have hp2 : PLive wc (lamN lam0 NR 2) 1 o (cOf n l s) (x0F n l s tries) := A13.out.relam (fun k hk => lamN_lt (by omega))
        rw [hNR] at hrl
        have hp3 := hp2.bl hb
        have ORD14 := Lib.hid (show w.heap.size ≤ cb ∧ cb < h ∧ w.heap.size ≤ h ∧ h + 1 = g ∧ cb < N ∧ g < N ∧ h < N ∧ w.heap.size ≤ N ∧ N ≤ o ∧ N ≤ r1 ∧ N ≤ r2 ∧ cb < nb ∧ g < nb ∧ h < nb ∧ o < nb ∧ r1 < nb ∧ r2 < nb ∧ w.heap.size ≤ nb ∧ nb < NR ∧ NR ≤ f from by have o_ := ORD11.out; omega)
        clear ORD11
        have HLAM2 := Lib.hid (show (∀ k, k < N → lamN lam0 NR 2 k = 0) ∧ lamN lam0 NR 2 nb = 0 from ⟨fun k hk => by rw [lamN_lt (by have o_ := ORD14.out; omega)]; exact HLAM.out.1 k hk, by rw [lamN_lt (by have o_ := ORD14.out; omega)]; exact HLAM.out.2⟩)
        obtain ⟨lam1, hlam1⟩ : ∃ lam1, lamN lam0 NR 2 = lam1 := ⟨_, rfl⟩
        rw [hlam1] at HLAM2 hp3 hrl
        clear hlam1 hp2 hbx hsb hpb hob hod hlo hNR hltb hltf HLAM
        clear U113
        clear U213
        clear C13
        have ee : Ex (fun _ => False) wc wd := Ex.of_below hb
        have L15 := Lib.hid (Ex.below L13.out ee (fun k hk => hk.elim))
        have K15 := Lib.hid (K13.out.ex ee (fun h => h) (fun h => h))
        have R15 := Lib.hid (R13.out.ex ee (fun h => h))
        have A15 := Lib.hid (hp3)
        have F15 := Lib.hid (hrl)
        clear ee L13 A13 K13 R13 hb hp3 hrl
        go_wp2_with fail
        refine (Touches_any g h WS t wd K15.out).mono ?_; rintro e we ⟨rfl, rfl⟩
        go_wp2_with fail
        obtain ⟨cc, hcc⟩ : ∃ cc, cOf n l s = cc := ⟨_, rfl⟩
        have HPG := Lib.hid (x0F_good HFT.out (by have h := H8.out; omega) (fun i hi => HSUB.out.subs.ok i hi) HTR.out)
        have HDR := Lib.hid (show DocRel n l s (x0F n l s tries) ⟨tries, 0, 0, 0, []⟩ from DocRel.zero)
        have HCN := Lib.hid (show cc.n = n from by rw [← hcc]; rfl)
        have HCCX := Lib.hid hcc
        clear hcc
        obtain ⟨wB, rfl⟩ : ∃ W : World, W = wd := ⟨_, rfl⟩
        go_loopw [17, 18, 19, 20, 21, 22, 23, 24, 25, 26] (fun s17 s18 s19 s20 s21 s22 s23 s24 s25 s26 wr => ∃ (i : Nat) (lam : Nat → Nat) (WS : List Int) (t : Int) (x : PX) (y : RS), i ≤ na ∧ s18 = .int .i64 i ∧ s17 = .int .i64 t ∧ BankAt wr g h WS t ∧ URow wr nb WS ∧ WS.length = 60 ∧ PLive wr lam 1 o (cOf n l s) x ∧ RLive wr lam 2 f NR n l s od y ∧ PGood (cOf n l s) (fun i => (l i).cur) x (i : Int) ∧ DocRel n l s x y ∧ ((∀ k, k < N → lam k = 0) ∧ lam nb = 0) ∧ Below w.heap.size w wr) (fun s17 s18 s19 s20 s21 s22 s23 s24 s25 s26 _ => na - (intOf s18).toNat)
        case atStart => exact ⟨0, lam1, WS, t, _, _, by omega, rfl, rfl, K15.out, R15.out, HWL.out, A15.out, F15.out, HPG.out, HDR.out, HLAM2.out, L15.out⟩
        case round =>
          clear HPG HDR HLAM2 HWL L15 A15 K15 R15 F15
          obtain ⟨i, lam, WS, t, x, y, hi, rfl, rfl, hk, hr, hwl, hp, hrl, hpg, hdr, hlam, hl⟩ := hrel
          have K0 := Lib.hid hk
          have R0 := Lib.hid hr
          have HWL := Lib.hid hwl
          have A0 := Lib.hid hp
          have F0 := Lib.hid hrl
          have HPG := Lib.hid hpg
          have HDR := Lib.hid hdr
          have HLAM := Lib.hid hlam
          have LL := Lib.hid hl
          clear hk hr hwl hp hrl hpg hdr hlam hl
          obtain ⟨wC, rfl⟩ : ∃ W : World, W = wr := ⟨_, rfl⟩
          by_cases hlt : i < na
          · have kd : decide ((i : Int) < (na : Int)) = true := decide_eq_true (by omega)
            have kd2 : decide (i < na) = true := decide_eq_true hlt
            have ki0 : (0 : Int) ≤ (i : Int) := by omega
            have ki1 : (i : Int) < (na : Int) := by omega
            have HI := Lib.hid hlt
            have HM := Lib.hid (turn_no i na hlt (by have h1 := H300.out; unfold maxLen; omega))
            obtain ⟨bb, ob9, c9, hv9, _, _, _⟩ := HY.out.cells (Below.refl _ _) hlt
            have HTC := Lib.hid (show ∀ W, Below w.heap.size w W → W.cell? ⟨bb, ob9 + i * 3, none⟩ = some (.bool (la i).st) ∧ W.cell? ⟨bb, ob9 + i * 3 + 1, none⟩ = some (.int .i64 (la i).at_) ∧ W.cell? ⟨bb, ob9 + i * 3 + 2, none⟩ = some (.int .u64 (la i).x) from fun W hW => by
              obtain ⟨b2, o2, c2, hv2, h1, h2, h3⟩ := HY.out.cells hW hlt
              rw [hv9] at hv2
              simp only [Value.slice.injEq, Option.some.injEq, Addr.mk.injEq] at hv2
              obtain ⟨⟨rfl, rfl, _⟩, _, _⟩ := hv2
              exact ⟨h1, h2, h3⟩)
            have HTO := Lib.hid (HY.out.ok i hlt)
            simp only [Value.slice.injEq, true_and] at hv9
            obtain ⟨rfl, rfl⟩ := hv9
            clear hi hlt
            generalize la i = a at *
            obtain ⟨sst, aat, ax⟩ := a
            simp only at HTC HTO
            have x0 := (HTC.out wC LL.out).1
            cases sst with
            | true =>
              have x1 := (HTC.out wC LL.out).2.1
              go_upto_region 27 with fail
              clear x0 x1 kd kd2
              obtain ⟨kk, hkk, hk60⟩ := slot60 aat
              have HKK := Lib.hid hk60
              rw [hkk]
              clear hkk hk60
              have x2 := (HTC.out wC LL.out).2.2
              go_wp2_with fail
              refine (Store_any g h WS t (kk : Int) ax wC K0.out HTO.out.2).mono ?_; rintro e wd ⟨rfl, hk, hx⟩
              clear x2
              have hinw : inW WS (kk : Int) := by unfold inW; rw [HWL.out]; have := HKK.out; omega
              rw [errF_in hinw]
              rw [setF_in hinw, Int.toNat_natCast, tickF_in hinw, i64_w] at hk
              have hx9 := Ex.of_ex2 (T := fun k => k = g ∨ k = h) hx (.inl rfl) (.inr rfl)
              have ee : Ex (fun k => k = g ∨ k = h) wC wd := hx9
              have R16 := Lib.hid (R0.out.ex ee (fun hT => by have hT : nb = g ∨ nb = h := hT; have o_ := ORD14.out; omega))
              have A16 := Lib.hid (A0.out.ex ee (fun k hk => by have hk : k = g ∨ k = h := hk; rw [HLAM.out.1 _ (by have o_ := ORD14.out; omega)]; decide))
              have F16 := Lib.hid (F0.out.ex ee (fun k hk => by have hk : k = g ∨ k = h := hk; rw [HLAM.out.1 _ (by have o_ := ORD14.out; omega)]; decide))
              have L16 := Lib.hid (Ex.below LL.out ee (fun k hk => by have hk : k = g ∨ k = h := hk; have o_ := ORD14.out; omega))
              have K16 := Lib.hid (hk)
              clear ee K0 R0 A0 F0 LL hx9 hx hk hinw
              have x2 := (HTC.out wd L16.out).2.2
              have ke : ((0 : Int) != 0) = false := rfl
              have qw := R16.out.word (i := kk) (by rw [HWL.out]; exact HKK.out)
              have fw := Blk.frozen R16.out kk
              have kj0 : (0 : Int) ≤ (kk : Int) := by omega
              have kj1 : (kk : Int) < 60 := by have := HKK.out; omega
              go_upto_region 30 with fail
              clear x2 ke qw fw kj0 kj1
              have hst := R16.out.stored kk ax
              have ee : Ex (fun k => k = nb) wd (wd.setCell ⟨nb, kk, none⟩ (.int .u64 ax)) := (Ex.refl (fun k => k = nb) wd).setCell (q := ⟨nb, kk, none⟩) (.inl rfl) (.int .u64 ax)
              have K17 := Lib.hid (K16.out.ex ee (fun hT => by have hT : g = nb := hT; have o_ := ORD14.out; omega) (fun hT => by have hT : h = nb := hT; have o_ := ORD14.out; omega))
              have A17 := Lib.hid (A16.out.ex ee (fun k hk => by have hk : k = nb := hk; rw [hk, HLAM.out.2]; decide))
              have F17 := Lib.hid (F16.out.ex ee (fun k hk => by have hk : k = nb := hk; rw [hk, HLAM.out.2]; decide))
              have L17 := Lib.hid (Ex.below L16.out ee (fun k hk => by have hk : k = nb := hk; have o_ := ORD14.out; omega))
              have R17 := Lib.hid (hst)
              clear ee K16 R16 A16 F16 L16 hst
              generalize wd.setCell ⟨nb, kk, none⟩ (.int .u64 ax) = we at *
              go_wp2_with fail
              go_roundw
              case rel => exact ⟨i + 1, lam, WS.set kk ax, _, x, y, HI.out, HM.out.1, rfl, K17.out, R17.out, by rw [List.length_set]; exact HWL.out, A17.out, F17.out, HPG.out.more (by omega), HDR.out, HLAM.out, L17.out⟩
              case measure => exact HM.out.2
            | false =>
              have hsN : N ≤ wC.heap.size ∧ nb < wC.heap.size := ⟨by have h1 := A0.out.lt; have o_ := ORD14.out; omega, R0.out.lt⟩
              have HSN := Lib.hid hsN
              have HF := Lib.hid (RLStep_any lam 2 f NR nb n n l s od WS x y (i : Int) wC F0.out HDO.out HPG.out (by have h1 := H300.out; have h2 := HI.out; omega) HDR.out R0.out (by rw [HLAM.out.2]; decide) (by have o_ := ORD14.out; omega) K0.out.fit)
              rw [HWL.out] at HF
              have HTI := Lib.hid (did_tick (ws := WS) HDR.out HDO.out HPG.out t)
              have HDR1 := Lib.hid (HDR.out.step HDO.out HPG.out K0.out.fit)
              have HPG1 := Lib.hid (HPG.out.step K0.out.fit)
              have HGO := Lib.hid (fun h => HPG.out.inv (by have h1 := H300.out; have h2 := HI.out; omega) h)
              go_wp2_with fail
              clear x0 kd kd2 hsN
              refine HF.out.mono ?_; rintro e wd ⟨rfl, hrl, hx⟩
              clear HF
              obtain ⟨y1, hy1⟩ : ∃ y1, rStepF (cOf n l s).T n l s od (cOf n l s).ix WS y = y1 := ⟨_, rfl⟩
              obtain ⟨dd, hdd⟩ : ∃ dd, rDid (cOf n l s).T n l s od (cOf n l s).ix WS y = dd := ⟨_, rfl⟩
              rw [hy1] at hrl HDR1
              rw [hdd] at HTI ⊢
              have hp2 := A0.out.beside (g := g) (h := h) (hx.mono (fun k hk => .inr (.inr hk))) (by decide) (by rw [HLAM.out.1 _ (by have o_ := ORD14.out; omega)]; decide) (by rw [HLAM.out.1 _ (by have o_ := ORD14.out; omega)]; decide)
              have KN := Lib.hid (K0.out.ex hx (fun hT => by have hT : lam g = 2 := hT; rw [HLAM.out.1 _ (by have o_ := ORD14.out; omega)] at hT; exact absurd hT (by decide)) (fun hT => by have hT : lam h = 2 := hT; rw [HLAM.out.1 _ (by have o_ := ORD14.out; omega)] at hT; exact absurd hT (by decide)))
              have RN := Lib.hid (R0.out.ex hx (fun hT => by have hT : lam nb = 2 := hT; rw [HLAM.out.2] at hT; exact absurd hT (by decide)))
              have LN := Lib.hid (Ex.below LL.out hx (fun k hk => by
                have hk : lam k = 2 := hk
                rcases Nat.lt_or_ge k N with h1 | h1
                · rw [HLAM.out.1 k h1] at hk
                  exact absurd hk (by decide)
                · have o_ := ORD14.out; omega))
              have HLAM1 := Lib.hid (show (∀ k, k < N → lamN lam wC.heap.size 2 k = 0) ∧ lamN lam wC.heap.size 2 nb = 0 from ⟨fun k hk => by rw [lamN_lt (by have h1 := HSN.out; omega)]; exact HLAM.out.1 k hk, by rw [lamN_lt HSN.out.2]; exact HLAM.out.2⟩)
              obtain ⟨lam1, hlam1⟩ : ∃ lam1, lamN lam wC.heap.size 2 = lam1 := ⟨_, rfl⟩
              rw [hlam1] at hrl hp2 HLAM1
              have AN := Lib.hid hp2
              have FN := Lib.hid hrl
              have HSD := Lib.hid (show N ≤ wd.heap.size ∧ nb < wd.heap.size from ⟨Nat.le_trans HSN.out.1 hx.size, Nat.lt_of_lt_of_le HSN.out.2 hx.size⟩)
              clear hrl hp2 hx hlam1 HLAM hdd hy1 HDR HPG HSN K0 R0 A0 F0 LL
              obtain ⟨t1, ht1⟩ : ∃ t1, pTickF (cOf n l s) WS x t = t1 := ⟨_, rfl⟩
              rw [ht1] at HTI
              have HT1 := Lib.hid ht1
              clear ht1
              go_upto_if 165 with fail
              go_cut [17] from 166 to 167 (fun v wx => v = .int .i64 t1 ∧ wx = wd)
              case first =>
                have hti := HTI.out
                cases dd with
                | true =>
                  rw [if_pos rfl] at hti
                  go_wp2_with fail
                  go_meet
                  exact ⟨by rw [hti] <;> rfl, rfl⟩
                | false =>
                  rw [if_neg (by decide)] at hti
                  go_wp2_with fail
                  go_meet
                  exact ⟨by rw [hti] <;> rfl, rfl⟩
              case rest =>
                obtain ⟨rfl, hwc⟩ := hcut
                subst hwc
                clear HTI
                obtain ⟨wD, rfl⟩ : ∃ W : World, W = wc := ⟨_, rfl⟩
                go_upto_region 33 with fail
                obtain ⟨B, sb, sc, pb, pc, ob, oc, lv, hrb⟩ := FN.out
                have RBH := Lib.hid hrb
                clear hrb FN
                obtain ⟨x1, hx1⟩ : ∃ x1, pStepF (cOf n l s) WS x = x1 := ⟨_, rfl⟩
                have HX1 := Lib.hid hx1
                rw [hx1] at HDR1 HPG1
                clear hx1
                have HL01 := Lib.hid (show ∀ k, (k = g ∨ k = h ∨ lam1 k = 1) → lam1 k ≠ 2 from fun k hk => by
                  rcases hk with rfl | rfl | hk
                  · rw [HLAM1.out.1 _ (by have o_ := ORD14.out; omega)]; decide
                  · rw [HLAM1.out.1 _ (by have o_ := ORD14.out; omega)]; decide
                  · rw [hk]; decide)
                have HG0 := Lib.hid (show lam1 g = 0 ∧ lam1 h = 0 from ⟨HLAM1.out.1 _ (by have o_ := ORD14.out; omega), HLAM1.out.1 _ (by have o_ := ORD14.out; omega)⟩)
                have HYH := Lib.hid HDR1.out.how
                have HYS := Lib.hid HDR1.out.steps
                have HPOLL := Lib.hid (fun W (hk : BankAt W g h WS t) (hp : PLive W lam1 1 o (cOf n l s) x) => LStep_any lam1 1 g h o WS t (cOf n l s) x W hk hp HGO.out (by rw [HG0.out.1]; decide) (by rw [HG0.out.2]; decide))
                rw [HT1.out, HX1.out] at HPOLL
                have khh : (x1.how != x1.how) = false := bne_self_eq_false _
                have kss : (x1.steps != x1.steps) = false := bne_self_eq_false _
                have ktt : (t1 != t1) = false := bne_self_eq_false _
                have hne : Nonempty (Held (Ex (fun k => k = g ∨ k = h ∨ lam1 k = 1) wD)) := ⟨⟨wD, Ex.refl _ _⟩⟩
                have f0 : ∀ y : Held (Ex (fun k => k = g ∨ k = h ∨ lam1 k = 1) wD), y.w.cell? ⟨f, 0, none⟩ = some (.slice (some ⟨sb, 0, none⟩) n sc) := fun y => by
                  have e := (RBH.out.ex y.ok HL01.out).box.cell 0
                  simp only [rocs, List.getElem?_toArray, List.getElem?_cons_zero, List.getElem?_cons_succ] at e
  
                  exact e
                have f5 : ∀ y : Held (Ex (fun k => k = g ∨ k = h ∨ lam1 k = 1) wD), y.w.cell? ⟨f, 5, none⟩ = some (.int .i64 x1.how) := fun y => by
                  have e := (RBH.out.ex y.ok HL01.out).box.cell 5
                  simp only [rocs, List.getElem?_toArray, List.getElem?_cons_zero, List.getElem?_cons_succ] at e
                  rw [HYH.out] at e
                  exact e
                have f6 : ∀ y : Held (Ex (fun k => k = g ∨ k = h ∨ lam1 k = 1) wD), y.w.cell? ⟨f, 6, none⟩ = some (.int .i64 x1.steps) := fun y => by
                  have e := (RBH.out.ex y.ok HL01.out).box.cell 6
                  simp only [rocs, List.getElem?_toArray, List.getElem?_cons_zero, List.getElem?_cons_succ] at e
                  rw [HYS.out] at e
                  exact e
                refine drawn_bars (S := (Ex (fun k => k = g ∨ k = h ∨ lam1 k = 1) wD)) [([0, 1, 3, 4, 5, 6], 2), ([7, 8, 9, 11], 10), ([12, 13, 14, 15, 17, 18, 19, 20], 16)] [21, 22] (by kernel_rfl) (by kernel_rfl) (by kernel_rfl) rfl (Ex.refl _ _).drew ?_
                refine Phased.go ?_
                simp only [pick, List.map_cons, List.map_nil, List.getElem?_cons_zero, List.getElem?_cons_succ, Option.getD_some]
                repeat (go_big_quiet_step (fail))
                refine wpQuiet_nil ?_
                have YD := Lib.hid (show Ex (fun k => k = g ∨ k = h ∨ lam1 k = 1) wD wD.drew from (Ex.refl _ wD).drew)
                have HSE := Lib.hid (show N ≤ wD.drew.heap.size ∧ nb < wD.drew.heap.size from HSD.out)
                clear HSD
                have ee : Ex (fun _ => False) wD wD.drew := (Ex.refl (fun _ => False) wD).drew
                have K16 := Lib.hid (KN.out.ex ee (fun h => h) (fun h => h))
                have R16 := Lib.hid (RN.out.ex ee (fun h => h))
                have A16 := Lib.hid (AN.out.ex ee (fun _ h => h.elim))
                have L16 := Lib.hid (Ex.below LN.out ee (fun k hk => hk.elim))
                have B16 := Lib.hid (RBH.out.ex ee (fun _ h => h.elim))
                clear ee KN RN AN LN RBH
                generalize wD.drew = wE at *
                go_wp2_with fail
                refine (HPOLL.out wE K16.out A16.out).mono ?_; rintro e w8 ⟨rfl, hk8, hp8, hx8⟩
                have YE := Lib.hid (YD.out.trans hx8)
                have K8 := Lib.hid hk8
                have hr8 := B16.out.beside hx8 (by decide) (by rw [HG0.out.1]; decide) (by rw [HG0.out.2]; decide)
                have R8 := Lib.hid (R16.out.ex hx8 (fun hT => by
                  have hT : nb = g ∨ nb = h ∨ lam1 nb = 1 := hT
                  rw [HLAM1.out.2] at hT
                  have o_ := ORD14.out
                  omega))
                have L8 := Lib.hid (Ex.below L16.out hx8 (fun k hk => by
                  have hk : k = g ∨ k = h ∨ lam1 k = 1 := hk
                  have o_ := ORD14.out
                  rcases hk with rfl | rfl | hk
                  · omega
                  · omega
                  · rcases Nat.lt_or_ge k N with h1 | h1
                    · rw [HLAM1.out.1 k h1] at hk
                      exact absurd hk (by decide)
                    · omega))
                have HLAM2 := Lib.hid (show (∀ k, k < N → lamN lam1 wE.heap.size 1 k = 0) ∧ lamN lam1 wE.heap.size 1 nb = 0 from ⟨fun k hk => by rw [lamN_lt (by have h1 := HSE.out; omega)]; exact HLAM1.out.1 k hk, by rw [lamN_lt HSE.out.2]; exact HLAM1.out.2⟩)
                obtain ⟨lam2, hlam2⟩ : ∃ lam2, lamN lam1 wE.heap.size 1 = lam2 := ⟨_, rfl⟩
                rw [hlam2] at hr8 hp8 HLAM2
                have A8 := Lib.hid hp8
                have B8 := Lib.hid hr8
                clear hk8 hp8 hr8 hx8 hlam2 HPOLL YD A16 K16 R16 L16 B16 HSE HLAM1
                go_wp2_with fail
                refine behind_normal ⟨(Ex (fun k => k = g ∨ k = h ∨ lam1 k = 1) wD), fun W h => h, YE.out, ?_⟩
                refine Phased.go ?_
                simp only [pick, List.map_cons, List.map_nil, List.getElem?_cons_zero, List.getElem?_cons_succ, Option.getD_some]
                repeat (go_big_quiet_step (fail))
                refine wpQuiet_nil ?_
                go_wp2_with fail
                refine (Touches_any g h WS t1 w8 K8.out).mono ?_; rintro e w9 ⟨rfl, rfl⟩
                go_wp2_with fail
                refine behind_normal ⟨(Ex (fun k => k = g ∨ k = h ∨ lam1 k = 1) wD), fun W h => h, YE.out, ?_⟩
                refine Phased.go ?_
                simp only [pick, List.map_cons, List.map_nil, List.getElem?_cons_zero, List.getElem?_cons_succ, Option.getD_some]
                repeat (go_big_quiet_step (fail))
                refine wpQuiet_nil ?_
                go_wp2_with fail
                refine (LSteps_any lam2 1 o (cOf n l s) x1 w8 A8.out).mono ?_; rintro e w9 ⟨rfl, rfl⟩
                go_wp2_with fail
                refine behind_normal ⟨(Ex (fun k => k = g ∨ k = h ∨ lam1 k = 1) wD), fun W h => h, YE.out, ?_⟩
                refine Phased.end_ ?_
                have hne5 : Nonempty (Held (fun W => W = w8)) := ⟨⟨_, rfl⟩⟩
                simp only [pick, List.map_cons, List.map_nil, List.getElem?_cons_zero, List.getElem?_cons_succ, Option.getD_some]
                repeat (go_big_quiet_step (fail))
                refine wpQuiet_nil ?_
                clear hne5 hne f0 f5 f6
                clear YE HL01
                by_cases hh : x1.how = 1
                rotate_left
                · have HH := Lib.hid hh
                  have k1 : (x1.how != 1) = true := bne_iff_ne.2 hh
                  clear hh
                  have f0 := B8.out.box.cell 0
                  have f5 := B8.out.box.cell 5
                  simp only [rocs, List.getElem?_toArray, List.getElem?_cons_zero, List.getElem?_cons_succ] at f0 f5
                  rw [HYH.out] at f5
                  go_wp2_with fail
                  refine (LGot_not lam2 1 o (cOf n l s) x1 w8 A8.out HH.out).mono ?_; rintro e w9 ⟨rfl, rfl⟩
                  go_wp2_with fail
                  refine (LAt_any lam2 1 o (cOf n l s) x1 w8 A8.out).mono ?_; rintro e w9 ⟨rfl, rfl⟩
                  rw [if_neg HH.out]
                  go_wp2_with fail
                  refine (LSubs_not lam2 1 o (cOf n l s) x1 w8 A8.out HH.out).mono ?_; rintro e w9 ⟨rfl, rfl⟩
                  go_wp2_with fail
                  refine (LGens_not lam2 1 o (cOf n l s) x1 w8 A8.out HH.out).mono ?_; rintro e w9 ⟨rfl, rfl⟩
                  go_wp2_with fail
                  clear f0 f5
                  go_roundw
                  case rel => exact ⟨i + 1, lam2, WS, t1, x1, y1, HI.out, HM.out.1, rfl, K8.out, R8.out, HWL.out, A8.out, B8.out.live, HPG1.out, HDR1.out, HLAM2.out, L8.out⟩
                  case measure => exact HM.out.2
                have HH := Lib.hid hh
                have hdn := HDR1.out.done HDO.out HPG1.out hh
                have HL64 := Lib.hid (HPG1.out.len hh)
                have k1 : (x1.how != 1) = false := by rw [hh]; rfl
                obtain ⟨hd1, hd2, hd3, hd4, hd5, hd6, ⟨hd7, hd8⟩, hd9, hd10⟩ := hdn
                obtain ⟨TT, hTT⟩ : ∃ TT, (cOf n l s).T = TT := ⟨_, rfl⟩
                obtain ⟨ln, hln⟩ : ∃ ln, y1.L.length = ln := ⟨_, rfl⟩
                rw [hTT, hln] at hd5 hd7 hd9
                rw [hln] at hd6
                obtain ⟨k9, hk9⟩ : ∃ k9, ln - TT - TT = k9 := ⟨_, rfl⟩
                rw [hk9] at hd9
                have HNM := Lib.hid (show ln = TT + k9 + TT ∧ ln ≤ 100 ∧ 1 ≤ TT from ⟨by omega, hd6, by have h := HDO.out.T8; rw [hTT] at h; omega⟩)
                have HTT := Lib.hid hTT
                have HLN := Lib.hid hln
                have HAT := Lib.hid hd4
                have HWD := Lib.hid hd9
                clear hh hd1 hd2 hd3 hd4 hd5 hd6 hd7 hd8 hd9 hd10 hk9 hTT hln
                go_wp2_with fail
                refine (LGot_any lam2 1 o (cOf n l s) x1 w8 A8.out HH.out HL64.out).mono ?_; rintro e w9 ⟨v9, rfl, hown, hb⟩
                have I9 := Lib.hid (ints_of_own hown (by have h := HL64.out; unfold maxLen; omega))
                clear hown
                have ee : Ex (fun _ => False) w8 w9 := Ex.of_below hb
                have K17 := Lib.hid (K8.out.ex ee (fun h => h) (fun h => h))
                have R17 := Lib.hid (R8.out.ex ee (fun h => h))
                have A17 := Lib.hid (A8.out.ex ee (fun _ h => h.elim))
                have B17 := Lib.hid (B8.out.ex ee (fun _ h => h.elim))
                have L17 := Lib.hid (Ex.below L8.out ee (fun k hk => hk.elim))
                clear ee K8 R8 A8 B8 L8 hb
                have f0 := B17.out.box.cell 0
                have f5 := B17.out.box.cell 5
                simp only [rocs, List.getElem?_toArray, List.getElem?_cons_zero, List.getElem?_cons_succ] at f0 f5
                rw [HYH.out] at f5
                go_wp2_with fail
                clear k1
                refine (B17.out.pick HDO.out HPG1.out HDR1.out HH.out).mono ?_; rintro e w10 ⟨rfl, hb⟩
                have J10 := Lib.hid (I9.out.below hb)
                clear I9
                clear f0 f5
                have ee : Ex (fun _ => False) w9 w10 := Ex.of_below hb
                have K18 := Lib.hid (K17.out.ex ee (fun h => h) (fun h => h))
                have R18 := Lib.hid (R17.out.ex ee (fun h => h))
                have A18 := Lib.hid (A17.out.ex ee (fun _ h => h.elim))
                have B18 := Lib.hid (B17.out.ex ee (fun _ h => h.elim))
                have L18 := Lib.hid (Ex.below L17.out ee (fun k hk => hk.elim))
                clear ee K17 R17 A17 B17 L17 hb
                have f0 := B18.out.box.cell 0
                have f2 := B18.out.box.cell 2
                simp only [rocs, List.getElem?_toArray, List.getElem?_cons_zero, List.getElem?_cons_succ] at f0 f2
                rw [HTT.out] at f2
                go_upto_region 41 with fail
                clear f0 f2
                obtain ⟨gL, cL, hlv, hcL⟩ := B18.out.own.block (by rw [HLN.out]; have h := HNM.out; omega)
                rw [HLN.out] at hlv hcL
                subst hlv
                have hne : Nonempty (Held (fun W => W = w10.drew)) := ⟨⟨_, rfl⟩⟩
                have f0 : ∀ y : Held (fun W => W = w10.drew), y.w.cell? ⟨f, 0, none⟩ = some (.slice (some ⟨sb, 0, none⟩) n sc) := fun y => by rw [y.ok]; exact (B18.out.bl (Below.refl _ w10).drew).box.cell 0
                have f4 : ∀ y : Held (fun W => W = w10.drew), y.w.cell? ⟨f, 4, none⟩ = some (.slice (some ⟨gL, 0, none⟩) ln cL) := fun y => by rw [y.ok]; exact (B18.out.bl (Below.refl _ w10).drew).box.cell 4
                have hwl : wrap64 ((ln : Int) - (TT : Int)) = ((TT + k9 : Nat) : Int) := by have h := HNM.out; rw [wrap64_in _ (by omega)]; omega
                have kT0 : (0 : Int) ≤ (TT : Int) := by omega
                have kT1 : (TT : Int) ≤ ((TT + k9 : Nat) : Int) := by omega
                have kT2 : ((TT + k9 : Nat) : Int) ≤ (cL : Int) := by have h := HNM.out; omega
                have kT3 : TT ≤ TT + k9 := by omega
                have kT4 : TT + k9 ≤ cL := by have h := HNM.out; omega
                refine drawn_bars (S := fun _ => True) [] [0, 1, 2, 3, 4, 5, 6, 7, 8, 9, 10, 11, 12, 13] (by kernel_rfl) (by kernel_rfl) (by kernel_rfl) rfl trivial ?_
                refine Phased.end_ ?_
                simp only [pick, List.map_cons, List.map_nil, List.getElem?_cons_zero, List.getElem?_cons_succ, Option.getD_some]
                repeat (go_big_quiet_step (fail))
                refine wpQuiet_nil ?_
                rw [if_neg (show ¬ cL = TT from by have h := HNM.out; omega), show TT + k9 - TT = k9 from by omega]
                clear hne f0 f4 hwl kT0 kT1 kT2 kT3 kT4
                have J11 := Lib.hid (J10.out.below (Below.refl _ w10).drew)
                clear J10
                have ee : Ex (fun _ => False) w10 w10.drew := (Ex.refl (fun _ => False) w10).drew
                have K19 := Lib.hid (K18.out.ex ee (fun h => h) (fun h => h))
                have R19 := Lib.hid (R18.out.ex ee (fun h => h))
                have A19 := Lib.hid (A18.out.ex ee (fun _ h => h.elim))
                have B19 := Lib.hid (B18.out.ex ee (fun _ h => h.elim))
                have L19 := Lib.hid (Ex.below L18.out ee (fun k hk => hk.elim))
                clear ee K18 R18 A18 B18 L18
                generalize w10.drew = w11 at *
                have HPT := Lib.hid (show Ints w11 .u64 (.slice (some ⟨gL, TT, none⟩) k9 (cL - TT)) x1.words from by
                  have h9 := HNM.out
                  obtain ⟨b, o9, e1, hi⟩ := ints_part (T := TT) (k := k9) (c' := cL - TT) (B19.out.own.ints (by rw [HLN.out]; unfold maxLen; omega)) HLN.out (by omega) (by omega)
                  simp only [Option.some.injEq, Addr.mk.injEq, and_true] at e1
                  obtain ⟨rfl, rfl⟩ := e1
                  rw [Nat.zero_add, HWD.out] at hi
                  exact hi)
                have HSA := Lib.hid (fun W (hb : Below w11.heap.size w11 W) => same_refl v9 _ x1.words W (J11.out.below hb) (HPT.out.below hb) (by have h := HL64.out; omega))
                have HAA := Lib.hid (fun W (hb : Below w11.heap.size w11 W) => LAt_any lam2 1 o (cOf n l s) x1 W (A19.out.bl hb))
                have HSS := Lib.hid (fun W (hb : Below w11.heap.size w11 W) => LSubs_any lam2 1 o (cOf n l s) x1 W (A19.out.bl hb) HH.out HDO.out.c (fun i hi => (HPG1.out.behind HH.out i hi).2))
                have HBB := Lib.hid (fun W (hb : Below w11.heap.size w11 W) => (B19.out.bl hb).behind HDO.out HPG1.out HDR1.out HH.out)
                have HGG := Lib.hid (fun W (hb : Below w11.heap.size w11 W) => LGens_any lam2 1 o (cOf n l s) x1 W (A19.out.bl hb) HH.out HDO.out.c)
                have HRG := Lib.hid (fun W (hb : Below w11.heap.size w11 W) => (B19.out.bl hb).gens HDO.out HPG1.out HDR1.out HH.out)
                have HOKS := Lib.hid (show ∀ i, i < n → ((cOf n l s).sub x1.cu i).Ok from fun i hi => ⟨HDO.out.c.rk i hi, (HPG1.out.behind HH.out i hi).2⟩)
                have kpp : (x1.pick != x1.pick) = false := bne_self_eq_false _
                have kgg : (x1.gen != x1.gen) = false := bne_self_eq_false _
                have kbb : (x1.begun != x1.begun) = false := bne_self_eq_false _
                go_upto_region 42 with fail
                have hne : Nonempty (Held (Below w11.heap.size w11)) := ⟨⟨w11, Below.refl _ _⟩⟩
                have f0 : ∀ y : Held (Below w11.heap.size w11), y.w.cell? ⟨f, 0, none⟩ = some (.slice (some ⟨sb, 0, none⟩) n sc) := fun y => by
                  have e := (B19.out.bl y.ok).box.cell 0
                  simp only [rocs, List.getElem?_toArray, List.getElem?_cons_zero, List.getElem?_cons_succ] at e
  
                  exact e
                have f7 : ∀ y : Held (Below w11.heap.size w11), y.w.cell? ⟨f, 7, none⟩ = some (.int .i64 x1.begun) := fun y => by
                  have e := (B19.out.bl y.ok).box.cell 7
                  simp only [rocs, List.getElem?_toArray, List.getElem?_cons_zero, List.getElem?_cons_succ] at e
                  rw [HAT.out] at e
                  exact e
                refine drawn_bars (S := (Below w11.heap.size w11)) [([0, 1, 2, 3, 4, 5, 6, 7, 8, 9, 10], 11), ([12, 13, 14, 15, 17, 18, 19, 20], 16), ([21, 22, 23, 24, 26], 25), ([], 27), ([], 28), ([29, 30, 31, 32, 34], 33), ([], 35), ([], 36)] [37, 38] (by kernel_rfl) (by kernel_rfl) (by kernel_rfl) rfl (Below.refl _ _).drew ?_
                refine Phased.go ?_
                simp only [pick, List.map_cons, List.map_nil, List.getElem?_cons_zero, List.getElem?_cons_succ, Option.getD_some]
                repeat (go_big_quiet_step (fail))
                refine wpQuiet_nil ?_
                have q0 := (Below.refl w11.heap.size w11).drew
                go_wp2_with fail
                refine (HSA.out _ q0).mono ?_; rintro e wa ⟨rfl, hb⟩
                have q1 := bl q0 hb
                clear hb
                go_wp2_with fail
                refine behind_normal ⟨(Below w11.heap.size w11), fun W h => h, q1, ?_⟩
                refine Phased.go ?_
                simp only [pick, List.map_cons, List.map_nil, List.getElem?_cons_zero, List.getElem?_cons_succ, Option.getD_some]
                repeat (go_big_quiet_step (fail))
                refine wpQuiet_nil ?_
                go_wp2_with fail
                refine (HAA.out _ q1).mono ?_; rintro e wb ⟨rfl, rfl⟩
                rw [if_pos HH.out]
                go_wp2_with fail
                refine behind_normal ⟨(Below w11.heap.size w11), fun W h => h, q1, ?_⟩
                refine Phased.go ?_
                simp only [pick, List.map_cons, List.map_nil, List.getElem?_cons_zero, List.getElem?_cons_succ, Option.getD_some]
                repeat (go_big_quiet_step (fail))
                refine wpQuiet_nil ?_
                go_wp2_with fail
                refine (HSS.out _ q1).mono ?_; rintro e wb ⟨ra, ca, rfl, _, _, hs1, hb⟩
                have q2 := bl q1 hb
                clear hb
                go_wp2_with fail
                refine behind_normal ⟨(Below w11.heap.size w11), fun W h => h, q2, ?_⟩
                refine Phased.go ?_
                simp only [pick, List.map_cons, List.map_nil, List.getElem?_cons_zero, List.getElem?_cons_succ, Option.getD_some]
                repeat (go_big_quiet_step (fail))
                refine wpQuiet_nil ?_
                go_wp2_with fail
                refine (HBB.out _ q2).mono ?_; rintro e wc ⟨rb, cb9, rfl, hs2, _, hb⟩
                have q3 := bl q2 hb
                have hs3 := hs1.bl hb
                clear hb
                go_wp2_with fail
                refine behind_normal ⟨(Below w11.heap.size w11), fun W h => h, q3, ?_⟩
                refine Phased.go ?_
                simp only [pick, List.map_cons, List.map_nil, List.getElem?_cons_zero, List.getElem?_cons_succ, Option.getD_some]
                repeat (go_big_quiet_step (fail))
                refine wpQuiet_nil ?_
                go_wp2_with fail
                refine (Lsubs_any _ _ n ((cOf n l s).sub x1.cu) wc (hs3.subs (by have h := H8.out; have e : (cOf n l s).n = n := rfl; unfold maxLen; omega) HOKS.out) (hs2.subs (by have h := H8.out; unfold maxLen; omega) HOKS.out) (by have h := H8.out; omega)).mono ?_; rintro e we ⟨rfl, hb⟩
                have q4 := bl q3 hb
                clear hb hs1 hs2 hs3
                go_wp2_with fail
                refine behind_normal ⟨(Below w11.heap.size w11), fun W h => h, q4, ?_⟩
                refine Phased.go ?_
                simp only [pick, List.map_cons, List.map_nil, List.getElem?_cons_zero, List.getElem?_cons_succ, Option.getD_some]
                repeat (go_big_quiet_step (fail))
                refine wpQuiet_nil ?_
                go_wp2_with fail
                refine (HGG.out _ q4).mono ?_; rintro e wf ⟨rc, rfl, _, hu1, hb⟩
                have q5 := bl q4 hb
                clear hb
                go_wp2_with fail
                refine behind_normal ⟨(Below w11.heap.size w11), fun W h => h, q5, ?_⟩
                refine Phased.go ?_
                simp only [pick, List.map_cons, List.map_nil, List.getElem?_cons_zero, List.getElem?_cons_succ, Option.getD_some]
                repeat (go_big_quiet_step (fail))
                refine wpQuiet_nil ?_
                go_wp2_with fail
                refine (HRG.out _ q5).mono ?_; rintro e wg ⟨rd, rfl, _, hu2, hb⟩
                have q6 := bl q5 hb
                have hi1 := (hu1.bl hb).ints (c := (cOf n l s).n) (by rw [gensL_len]; have h := H8.out; have e : (cOf n l s).n = n := rfl; unfold maxLen; omega)
                have hi2 := hu2.ints (c := n) (by rw [gensL_len]; have h := H8.out; have e : (cOf n l s).n = n := rfl; unfold maxLen; omega)
                rw [gensL_len] at hi1 hi2
                clear hb hu1 hu2
                go_wp2_with fail
                refine behind_normal ⟨(Below w11.heap.size w11), fun W h => h, q6, ?_⟩
                refine Phased.go ?_
                simp only [pick, List.map_cons, List.map_nil, List.getElem?_cons_zero, List.getElem?_cons_succ, Option.getD_some]
                repeat (go_big_quiet_step (fail))
                refine wpQuiet_nil ?_
                go_wp2_with fail
                refine (same_refl _ _ _ wg hi1 hi2 (by rw [gensL_len]; have h := H8.out; have e : (cOf n l s).n = n := rfl; omega)).mono ?_; rintro e wh ⟨rfl, hb⟩
                have q7 := bl q6 hb
                clear hb hi1 hi2
                go_wp2_with fail
                refine behind_normal ⟨(Below w11.heap.size w11), fun W h => h, q7, ?_⟩
                refine Phased.end_ ?_
                have hne5 : Nonempty (Held (fun W => W = wh)) := ⟨⟨_, rfl⟩⟩
                simp only [pick, List.map_cons, List.map_nil, List.getElem?_cons_zero, List.getElem?_cons_succ, Option.getD_some]
                repeat (go_big_quiet_step (fail))
                refine wpQuiet_nil ?_
                clear hne5 hne f0 f7
                clear q0 q1 q2 q3 q4 q5 q6 HSA HAA HSS HBB HGG HRG HPT J11 kpp kgg kbb
                have ee : Ex (fun _ => False) w11 wh := Ex.of_below q7
                have K20 := Lib.hid (K19.out.ex ee (fun h => h) (fun h => h))
                have R20 := Lib.hid (R19.out.ex ee (fun h => h))
                have A20 := Lib.hid (A19.out.ex ee (fun _ h => h.elim))
                have B20 := Lib.hid (B19.out.ex ee (fun _ h => h.elim))
                have L20 := Lib.hid (Ex.below L19.out ee (fun k hk => hk.elim))
                clear ee K19 R19 A19 B19 L19 q7
                go_wp2_with fail
                go_roundw
                case rel => exact ⟨i + 1, lam2, WS, t1, x1, y1, HI.out, HM.out.1, rfl, K20.out, R20.out, HWL.out, A20.out, B20.out.live, HPG1.out, HDR1.out, HLAM2.out, L20.out⟩
                case measure => exact HM.out.2
          obtain rfl : i = na := by omega
          have kd : decide ((i : Int) < (i : Int)) = false := decide_eq_false (by omega)
          have kd2 : decide (i < i) = false := decide_eq_false (by omega)
          clear hi hlt
          go_wp2_with fail
          clear kd kd2
          clear A0 F0 HPG HDR HLAM
          have V0 := Lib.hid (Ex.refl (fun _ => False) wC)
          go_loopw [27] (fun s27 wr => ∃ j : Nat, j ≤ 60 ∧ s27 = .int .i64 j ∧ Ex (fun _ => False) wC wr) (fun s27 _ => 60 - (intOf s27).toNat)
          case atStart => exact ⟨0, by omega, rfl, V0.out⟩
          case round =>
            obtain ⟨j, hj, rfl, hv⟩ := hrel
            have V1 := Lib.hid hv
            clear V0
            have ee : Ex (fun _ => False) wC wr := hv
            have K16 := Lib.hid (K0.out.ex ee (fun h => h) (fun h => h))
            have R16 := Lib.hid (R0.out.ex ee (fun h => h))
            have L16 := Lib.hid (Ex.below LL.out ee (fun k hk => hk.elim))
            clear ee K0 R0 LL hv
            by_cases hlt : j < 60
            · have kd : decide ((j : Int) < 60) = true := decide_eq_true (by omega)
              have kd2 : decide (j < 60) = true := decide_eq_true hlt
              have kj0 : (0 : Int) ≤ (j : Int) := by omega
              have kj1 : (j : Int) < 60 := by omega
              have HJ := Lib.hid hlt
              clear hj hlt
              obtain ⟨uu, huu⟩ : ∃ uu, nth WS j = uu := ⟨_, rfl⟩
              have HUU := Lib.hid huu
              clear huu
              have kx : (uu != uu) = false := bne_self_eq_false _
              go_upto_region 47 with fail
              clear kd kd2
              have hne : Nonempty (Held (Below wr.heap.size wr)) := ⟨⟨wr, Below.refl _ _⟩⟩
              have pw : ∀ y : Held (Below wr.heap.size wr), y.w.cell? ⟨nb, j, none⟩ = some (.int .u64 uu) := fun y => by rw [← HUU.out]; exact (R16.out.bl y.ok).word (by rw [HWL.out]; exact HJ.out)
              refine drawn_bars (S := (Below wr.heap.size wr)) [([0, 1, 3, 4, 5, 6], 2)] [7] (by kernel_rfl) (by kernel_rfl) (by kernel_rfl) rfl (Below.refl _ _).drew ?_
              refine Phased.go ?_
              simp only [pick, List.map_cons, List.map_nil, List.getElem?_cons_zero, List.getElem?_cons_succ, Option.getD_some]
              repeat (go_big_quiet_step (fail))
              refine wpQuiet_nil ?_
              go_wp2_with fail
              have q0 := (Below.refl wr.heap.size wr).drew
              refine (Peek_any g h WS t (j : Int) wr.drew (K16.out.ex (T := fun _ => False) (Ex.of_below q0) (fun h => h) (fun h => h))).mono ?_; rintro e w9 ⟨rfl, hb⟩
              rw [wordF_nt (by rw [HWL.out]; exact HJ.out), HUU.out]
              have q1 := bl q0 hb
              clear hb
              go_wp2_with fail
              refine behind_normal ⟨(Below wr.heap.size wr), fun W h => h, q1, ?_⟩
              refine Phased.end_ ?_
              have hne5 : Nonempty (Held (fun W => W = w9)) := ⟨⟨_, rfl⟩⟩
              simp only [pick, List.map_cons, List.map_nil, List.getElem?_cons_zero, List.getElem?_cons_succ, Option.getD_some]
              repeat (go_big_quiet_step (fail))
              refine wpQuiet_nil ?_
              clear hne5 hne pw
              have VX := Lib.hid (V1.out.trans (Ex.of_below q1))
              clear q0 q1
              clear kj1
              go_wp2_with fail
              go_roundw
              case rel => exact ⟨j + 1, by have := HJ.out; omega, by first | go_num | (have := HJ.out; rw [wrap64_in _ (by omega)]; rfl), VX.out⟩
              case measure => have := HJ.out; first | (simp [intOf]; omega) | (rw [wrap64_in _ (by omega)]; simp [intOf]; omega)
            · obtain rfl : j = 60 := by omega
              have kd : decide (((60 : Nat) : Int) < 60) = false := by decide
              have kd2 : decide ((60 : Int) < 60) = false := by decide
              clear hj hlt
              go_wp2_with fail
              clear kd kd2
              refine (awake_any wr).mono ?_; rintro e wz ⟨rfl, hbz⟩
              have ee : Ex (fun _ => False) wr wz := Ex.of_below hbz
              have K17 := Lib.hid (K16.out.ex ee (fun h => h) (fun h => h))
              have R17 := Lib.hid (R16.out.ex ee (fun h => h))
              have L17 := Lib.hid (Ex.below L16.out ee (fun k hk => hk.elim))
              clear ee K16 R16 L16 hbz
              go_wp2_with fail
              go_ret
              exact ⟨rfl, L17.out⟩
end Go.Proofs.Ythcaagkgddeabaa.Bank
namespace Go.Proofs.Ythcaagkgddeabaa.Bank
set_option linter.unusedVariables false
set_option linter.unusedSimpArgs false
open Go Go.RowKit Go.Proofs.Ythcaagkgddeabaa.Base Go.ChangeShapes Go.WideShapes Go.Deep Go.Proofs.Ythcaagkgddeabaa.Queue
set_option maxRecDepth 100000 in
theorem turns_of_trod {H : Type} {enc : TypeId × Value → H} {W : World} {r : Reach} {b : Nat} {v : Value} {d : DataW H} {p : List MemPlace}
    (hv : Value.okWide Try.prog W r b 73 v) (h : DataW.Trod enc Try.prog W 0 (fun _ => true) true 73 v d p) : ∃ x : Nat × (Nat → Trn), Trns W v x.1 x.2 := by
  obtain ⟨n, f, hr, hf⟩ := recs_of_trod Try.underlying73 Try.underlying83 (by kernel_rfl) (by kernel_rfl) (by decide) hv h
  have hall : ∀ i, i < n → ∃ a : Trn, f i 0 = .bool a.st ∧ f i 1 = .int .i64 a.at_ ∧ f i 2 = .int .u64 a.x ∧ (-9223372036854775808 ≤ a.at_ ∧ a.at_ ≤ 9223372036854775807) ∧ 0 ≤ a.x ∧ a.x ≤ 18446744073709551615 := by
    intro i hi
    obtain ⟨m0, z0, h0⟩ := hf i hi 0 _ rfl
    obtain ⟨m1, z1, h1⟩ := hf i hi 1 _ rfl
    obtain ⟨m2, z2, h2⟩ := hf i hi 2 _ rfl
    obtain ⟨b0, e0, _⟩ := DataW.trod_bool Try.underlying4 h0
    obtain ⟨n1, e1, _, g1⟩ := DataW.trod_int Try.underlying3 h1
    obtain ⟨n2, e2, _, g2⟩ := DataW.trod_int Try.underlying32 h2
    exact ⟨⟨b0, n1, n2⟩, by simpa using e0, by simpa using e1, by simpa using e2, i64_bounds g1, u64_bounds g2⟩
  obtain ⟨l, hl, _⟩ := choose_ltB hall
  obtain ⟨A, c, rfl, hlen, hx⟩ := hr.form
  refine ⟨(n, l), ⟨⟨A, c, rfl, hlen, fun hn => ?_⟩, fun i hi => (hl i hi).2.2.2⟩⟩
  obtain ⟨b, o, rfl, hb, hc⟩ := hx hn
  refine ⟨b, o, rfl, hb, fun i hi => ?_⟩
  obtain ⟨l0, l1, l2, _⟩ := hl i hi
  have s0 := hc i 0 hi (by decide)
  have s1 := hc i 1 hi (by decide)
  have s2 := hc i 2 hi (by decide)
  rw [l0] at s0
  rw [l1] at s1
  rw [l2] at s2
  exact ⟨s0, s1, s2⟩
theorem PollSteps_law (v0 : Value) (c : Cs) (v1 : Value) (ws0 : List Int) (v2 : Value) (y : Nat × (Nat → Trn)) (w : World) (hc : CsAt w v0 c) (hws : Ints w .u64 v1 ws0) (hx : ∀ n ∈ ws0, (Lit.int .u64 n).wf = true) (hy : Trns w v2 y.1 y.2) :
    Calls Try.prog 6 #[v0, v1, v2] w fun e w' => e = .returned (.bool true) ∧ Below w.heap.size w w' :=
  PollSteps_walk v0 v1 v2 c ws0 y w hc hws (fun n hn => u64_bounds (hx n hn)) hy
end Go.Proofs.Ythcaagkgddeabaa.Bank
