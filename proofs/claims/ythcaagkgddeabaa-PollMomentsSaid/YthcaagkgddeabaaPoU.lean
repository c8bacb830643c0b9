/-
  Law 12: the chapter's example holds. Printed by wip/tools/mkpou.py. No condition. By an AI agent.
-/
import Derived.Test.YthcaagkgddeabaaPoT
namespace Go.Proofs.Ythcaagkgddeabaa.Bank
set_option linter.unusedVariables false
set_option linter.unusedSimpArgs false
open Go Go.RowKit Go.Proofs.Ythcaagkgddeabaa.Base Go.Deep Go.ChangeShapes Go.WideShapes Go.Proofs.Ythcaagkgddeabaa.Queue
/-- one poll above N, all else below -/
def LB (N : Nat) : Nat → Nat := lamN (fun _ => 0) N 1
theorem LB_lt {N k : Nat} (h : k < N) : LB N k = 0 := lamN_lt h
theorem LB_ge {N k : Nat} (h : N ≤ k) : LB N k = 1 := lamN_ge h
theorem LB_iff {N k : Nat} (h : LB N k = 1) : N ≤ k := by
  rcases Nat.lt_or_ge k N with h1 | h1
  · rw [LB_lt h1] at h; cases h
  · exact h1
theorem BStep_any (N g h o : Nat) (ws : List Int) (t : Int) (c : PC) (x : PX) (w : World) (hb : BankAt w g h ws t) (ho : PLive w (LB N) 1 o c x) (hi : x.how = 0 → PInv c x) (hN : N ≤ w.heap.size) (hg : g < N) (hh : h < N) :
    Calls Try.prog 9 #[.pointer (some ⟨o, 0, none⟩), .pointer (some ⟨g, 0, none⟩)] w fun e w' => e = .returned (.int .i64 (pStepF c ws x).how) ∧ BankAt w' g h ws (pTickF c ws x t) ∧ PLive w' (LB N) 1 o c (pStepF c ws x) ∧ Ex (fun k => k = g ∨ k = h ∨ N ≤ k) w w' := by
  refine (LStep_any (LB N) 1 g h o ws t c x w hb ho hi (by rw [LB_lt hg]; decide) (by rw [LB_lt hh]; decide)).mono ?_
  rintro e w' ⟨he, hk, hl, hx⟩
  refine ⟨he, hk, hl.relam (fun k hk => ?_), hx.mono (fun k hk => ?_)⟩
  · rcases Nat.lt_or_ge k w.heap.size with h1 | h1
    · rw [lamN_lt h1]
    · rw [lamN_ge h1]; exact LB_ge (by omega)
  · rcases hk with h1 | h1 | h1
    · exact .inl h1
    · exact .inr (.inl h1)
    · exact .inr (.inr (LB_iff h1))
theorem BNew_in (v1 v2 : Value) (n m : Nat) (l : Nat → Queue.Sub) (s : Nat → Spot) (tries : Int) (w : World) (hl : SubsC w v1 n l) (hs : Sps w v2 m s) (h64 : n * 48 ≤ 140737488351232) (hf : Fits n m l s) (ht : 1 ≤ tries ∧ tries ≤ 16) :
    Calls Try.prog 15 #[v1, v2, .int .i64 tries] w fun e w' => ∃ o, e = .returned (.tuple #[.pointer (some ⟨o, 0, none⟩), .int .i64 0]) ∧ PLive w' (LB w.heap.size) 1 o (cOf n l s) (x0F n l s tries) ∧ w.heap.size ≤ o ∧ Below w.heap.size w w' :=
  LNew_in (fun _ => 0) 1 v1 v2 n m l s tries w hl hs h64 hf ht
theorem subs_one {w : World} {b : Nat} {t : TypeId} {s : Queue.Sub} {l : Nat → Queue.Sub} (h : Blk w b t #[.int .i64 s.topic, .int .i64 s.rank, .int .u64 s.cur.next, .int .i64 s.cur.cap, .int .u64 s.cur.got, .int .u64 s.cur.lost]) (hs : s.Ok) (hl : ∀ i, l i = s) : SubsC w (.slice (some ⟨b, 0, none⟩) 1 1) 1 l :=
  ⟨⟨⟨_, 1, rfl, by decide, fun _ => ⟨b, 0, rfl, h.lt, fun i hi => by
    obtain rfl : i = 0 := by omega
    rw [hl]
    exact ⟨h.cell 0, h.cell 1, h.cell 2, h.cell 3, h.cell 4, h.cell 5⟩⟩⟩, fun i _ => by rw [hl]; exact hs⟩, _, _, rfl, Nat.le_refl 1⟩
theorem sps_one {w : World} {b : Nat} {t : TypeId} {s : Spot} {l : Nat → Spot} (h : Blk w b t #[.int .i64 s.owners, .int .i64 s.seq, .int .i64 s.first, .int .i64 s.words, .int .i64 s.depth]) (hl : ∀ i, l i = s) : Sps w (.slice (some ⟨b, 0, none⟩) 1 1) 1 l :=
  ⟨⟨_, 1, rfl, by decide, fun _ => ⟨b, 0, rfl, h.lt, fun i hi => by
    obtain rfl : i = 0 := by omega
    rw [hl]
    exact ⟨h.cell 0, h.cell 1, h.cell 2, h.cell 3, h.cell 4⟩⟩⟩⟩
def aSub : Queue.Sub := ⟨4, 0, ⟨1, 2, 0, 0⟩⟩
def aSpot : Spot := ⟨0, 1, 2, 2, 3⟩
def aL : Nat → Queue.Sub := fun _ => aSub
def aS : Nat → Spot := fun _ => aSpot
theorem aSub_ok : aSub.Ok := ⟨by decide, ⟨by decide, by decide, by decide, by decide⟩⟩
theorem aFits : Fits 1 1 aL aS := ⟨by decide, rfl, fun i hi => ⟨by show aSpot.AtOk; decide, by show aSub.cur.cap ≤ aSpot.depth - 1; decide, by show aSub.cur.Right; decide, fun k hk => by omega⟩⟩
def aC : PC := ⟨1, 1, fun _ => 4, fun _ => 0, fun k => [(⟨4, aSpot⟩ : Tp)].getD k default, fun _ => 0⟩
theorem aC_eq : cOf 1 aL aS = aC := by
  have h : topsS aL aS 1 = [⟨4, aSpot⟩] := by
    unfold topsS topsL topsL
    simp [aL, aS, aSub]
  unfold cOf aC
  rw [h]
  simp [aL, aSub]
def a0 : PX := ⟨1, 1, 0, -1, 0, 0, 0, 0, 0, 0, [], [0], fun _ => ⟨1, 2, 0, 0⟩⟩
theorem a0_eq : x0F 1 aL aS 1 = a0 := by
  unfold x0F a0
  rw [aC_eq]
  rfl
theorem a0_good : PGood aC (fun _ => ⟨1, 2, 0, 0⟩) a0 0 := by
  have h := x0F_good aFits (by decide) (fun i _ => aSub_ok) (tries := 1) (by decide)
  rw [aC_eq, a0_eq] at h
  exact h
def z8 : List Int := [0, 0, 0, 0, 0, 0, 0, 0]
def y8 : List Int := [0, 2, 0, 0, 5, 6, 0, 0]
theorem z8_fit : ∀ y ∈ z8, 0 ≤ y ∧ y ≤ 18446744073709551615 := by decide
theorem y8_fit : ∀ y ∈ y8, 0 ≤ y ∧ y ≤ 18446744073709551615 := by decide
theorem zeros8 : zeros 8 = z8 := rfl
def a1 := pStepF aC z8 a0
def a2 := pStepF aC z8 a1
def b1 := pStepF aC y8 a0
def b2 := pStepF aC y8 b1
def b3 := pStepF aC y8 b2
def b4 := pStepF aC y8 b3
theorem a1_how : a1.how = 0 := by decide +kernel
theorem a2_is : a2.how = 1 ∧ a2.pick = -1 ∧ a2.gen = 0 ∧ a2.words = [] := by decide +kernel
theorem b_how : b1.how = 0 ∧ b2.how = 0 ∧ b3.how = 0 := by decide +kernel
theorem b4_is : b4.how = 1 ∧ b4.pick = 0 ∧ b4.gen = 1 ∧ b4.words = [5, 6] ∧ b4.begun = 1 := by decide +kernel
theorem a1_good : PGood aC (fun _ => ⟨1, 2, 0, 0⟩) a1 1 := a0_good.step z8_fit
theorem b1_good : PGood aC (fun _ => ⟨1, 2, 0, 0⟩) b1 1 := a0_good.step y8_fit
theorem b2_good : PGood aC (fun _ => ⟨1, 2, 0, 0⟩) b2 2 := b1_good.step y8_fit
theorem b3_good : PGood aC (fun _ => ⟨1, 2, 0, 0⟩) b3 3 := b2_good.step y8_fit
def z8a : List Int := [0, 0, 0, 0, 5, 0, 0, 0]
def z8b : List Int := [0, 0, 0, 0, 5, 6, 0, 0]
theorem set1 : setF z8 4 5 = z8a ∧ setF z8a 5 6 = z8b ∧ setF z8b 1 2 = y8 := by decide +kernel
theorem err1 : errF z8 4 = 0 ∧ errF z8a 5 = 0 ∧ errF z8b 1 = 0 := by decide +kernel
set_option maxRecDepth 100000 in
set_option maxHeartbeats 16000000 in
theorem awake_any (w : World) : Calls Try.prog 14 #[] w fun e w' => e = .returned (.bool true) ∧ Below w.heap.size w w' := by
  go_enter Try.func14, Try.ntmps14
  have L0 := Lib.hid (Below.refl w.heap.size w)
  go_upto_region 2 with fail
  have hn := Blk.new w 48 #[.int .i64 0, .int .i64 1, .int .i64 2, .int .i64 2, .int .i64 3]
  obtain ⟨sb, hnb⟩ : ∃ sb, w.heap.size = sb := ⟨_, rfl⟩
  have hlo_ : w.heap.size ≤ sb := hnb ▸ L0.out.size
  simp only [hnb] at hn ⊢
  have ORD1 := Lib.hid (show w.heap.size ≤ sb from by omega)
  have ee : Ex (fun _ => False) w (w.alloc (.cells #[.int .i64 0, .int .i64 1, .int .i64 2, .int .i64 2, .int .i64 3] 48)) := (Ex.refl _ w).alloc (.cells #[.int .i64 0, .int .i64 1, .int .i64 2, .int .i64 2, .int .i64 3] 48)
  have L2 := Lib.hid (Ex.below L0.out ee (fun k hk => hk.elim))
  have S2 := Lib.hid (hn)
  clear ee L0 hn hnb  hlo_
  generalize w.alloc (.cells #[.int .i64 0, .int .i64 1, .int .i64 2, .int .i64 2, .int .i64 3] 48) = w1 at *
  go_upto_region 3 with fail
  have hn := Blk.new w1 46 #[.int .i64 4, .int .i64 0, .int .u64 1, .int .i64 2, .int .u64 0, .int .u64 0]
  obtain ⟨lb, hnb⟩ : ∃ lb, w1.heap.size = lb := ⟨_, rfl⟩
  have hlt_sb : sb < lb := hnb ▸ S2.out.lt
  have hlo_ : w.heap.size ≤ lb := hnb ▸ L2.out.size
  simp only [hnb] at hn ⊢
  have ORD3 := Lib.hid (show w.heap.size ≤ sb ∧ sb < lb ∧ w.heap.size ≤ lb from by have o_ := ORD1.out; omega)
  clear ORD1
  have ee : Ex (fun _ => False) w1 (w1.alloc (.cells #[.int .i64 4, .int .i64 0, .int .u64 1, .int .i64 2, .int .u64 0, .int .u64 0] 46)) := (Ex.refl _ w1).alloc (.cells #[.int .i64 4, .int .i64 0, .int .u64 1, .int .i64 2, .int .u64 0, .int .u64 0] 46)
  have L4 := Lib.hid (Ex.below L2.out ee (fun k hk => hk.elim))
  have S4 := Lib.hid (S2.out.ex ee (fun h => h))
  have B4 := Lib.hid (hn)
  clear ee L2 S2 hn hnb hlt_sb hlo_
  generalize w1.alloc (.cells #[.int .i64 4, .int .i64 0, .int .u64 1, .int .i64 2, .int .u64 0, .int .u64 0] 46) = w2 at *
  go_wp2_with fail
  refine (New_in 8 (by decide) (by decide) w2).mono ?_; rintro e w3 ⟨rfl, hb, hl, hsz⟩
  have hb : BankAt w3 (w2.heap.size + 1) w2.heap.size (zeros 8) 0 := hb
  obtain ⟨h, hrr⟩ : ∃ h, w2.heap.size = h := ⟨_, rfl⟩
  have hlt_sb : sb < h := hrr ▸ S4.out.lt
  have hlt_lb : lb < h := hrr ▸ B4.out.lt
  have hlo_ : w.heap.size ≤ h := hrr ▸ L4.out.size
  simp only [hrr] at hb ⊢
  obtain ⟨g, hg⟩ : ∃ g, h + 1 = g := ⟨_, rfl⟩
  simp only [hg] at hb ⊢
  have ORD5 := Lib.hid (show w.heap.size ≤ sb ∧ sb < lb ∧ w.heap.size ≤ lb ∧ sb < h ∧ lb < h ∧ w.heap.size ≤ h ∧ h + 1 = g from by have o_ := ORD3.out; omega)
  clear ORD3
  have ee : Ex (fun _ => False) w2 w3 := Ex.of_below hl
  have L6 := Lib.hid (Ex.below L4.out ee (fun k hk => hk.elim))
  have S6 := Lib.hid (S4.out.ex ee (fun h => h))
  have B6 := Lib.hid (B4.out.ex ee (fun h => h))
  have K6 := Lib.hid (hb)
  clear ee L4 S4 B4 hb hl hsz hrr hg hlt_sb hlt_lb hlo_
  have K9 := Lib.hid (show BankAt w3 g h z8 0 from K6.out)
  clear K6
  have Sq0 := S6.out.cell 0
  have Sq1 := S6.out.cell 1
  have Sq2 := S6.out.cell 2
  have Sq3 := S6.out.cell 3
  have Sq4 := S6.out.cell 4
  simp only [List.getElem?_toArray, List.getElem?_cons_succ, List.getElem?_cons_zero] at Sq0 Sq1 Sq2 Sq3 Sq4
  go_wp2_with fail
  have hn := Blk.new w3 48 #[.int .i64 0, .int .i64 1, .int .i64 2, .int .i64 2, .int .i64 3]
  clear Sq0 Sq1 Sq2 Sq3 Sq4
  obtain ⟨pbA, hnb⟩ : ∃ pbA, w3.heap.size = pbA := ⟨_, rfl⟩
  have hlt_sb : sb < pbA := hnb ▸ S6.out.lt
  have hlt_lb : lb < pbA := hnb ▸ B6.out.lt
  have hlt_g : g < pbA := hnb ▸ K9.out.head.lt
  have hlt_h : h < pbA := hnb ▸ K9.out.row.lt
  have hlo_ : w.heap.size ≤ pbA := hnb ▸ L6.out.size
  simp only [hnb] at hn ⊢
  have ORD7 := Lib.hid (show w.heap.size ≤ sb ∧ sb < lb ∧ w.heap.size ≤ lb ∧ sb < h ∧ lb < h ∧ w.heap.size ≤ h ∧ h + 1 = g ∧ sb < pbA ∧ lb < pbA ∧ g < pbA ∧ h < pbA ∧ w.heap.size ≤ pbA from by have o_ := ORD5.out; omega)
  clear ORD5
  have ee : Ex (fun _ => False) w3 (w3.alloc (.cells #[.int .i64 0, .int .i64 1, .int .i64 2, .int .i64 2, .int .i64 3] 48)) := (Ex.refl _ w3).alloc (.cells #[.int .i64 0, .int .i64 1, .int .i64 2, .int .i64 2, .int .i64 3] 48)
  have L8 := Lib.hid (Ex.below L6.out ee (fun k hk => hk.elim))
  have S8 := Lib.hid (S6.out.ex ee (fun h => h))
  have B8 := Lib.hid (B6.out.ex ee (fun h => h))
  have K8 := Lib.hid (K9.out.ex ee (fun h => h) (fun h => h))
  have PA8 := Lib.hid (hn)
  clear ee L6 S6 B6 K9 hn hnb hlt_sb hlt_lb hlt_g hlt_h hlo_
  generalize w3.alloc (.cells #[.int .i64 0, .int .i64 1, .int .i64 2, .int .i64 2, .int .i64 3] 48) = w3p at *
  refine (BNew_in _ _ 1 1 aL aS 1 w3p (subs_one (s := aSub) B8.out aSub_ok (fun _ => rfl)) (sps_one (s := aSpot) PA8.out (fun _ => rfl)) (by decide) aFits (by decide)).mono ?_; rintro e w4 ⟨oa, rfl, hp, ho, hb⟩
  rw [aC_eq, a0_eq] at hp
  obtain ⟨NA, hN⟩ : ∃ NA, w3p.heap.size = NA := ⟨_, rfl⟩
  have hlt_sb : sb < NA := hN ▸ S8.out.lt
  have hlt_lb : lb < NA := hN ▸ B8.out.lt
  have hlt_g : g < NA := hN ▸ K8.out.head.lt
  have hlt_h : h < NA := hN ▸ K8.out.row.lt
  have hlt_pbA : pbA < NA := hN ▸ PA8.out.lt
  have hlo_ : w.heap.size ≤ NA := hN ▸ L8.out.size
  rw [hN] at hp ho
  have ORD9 := Lib.hid (show w.heap.size ≤ sb ∧ sb < lb ∧ w.heap.size ≤ lb ∧ sb < h ∧ lb < h ∧ w.heap.size ≤ h ∧ h + 1 = g ∧ sb < pbA ∧ lb < pbA ∧ g < pbA ∧ h < pbA ∧ w.heap.size ≤ pbA ∧ sb < NA ∧ lb < NA ∧ g < NA ∧ h < NA ∧ pbA < NA ∧ w.heap.size ≤ NA ∧ NA ≤ oa from by have o_ := ORD7.out; omega)
  clear ORD7
  have ee : Ex (fun _ => False) w3p w4 := Ex.of_below hb
  have L10 := Lib.hid (Ex.below L8.out ee (fun k hk => hk.elim))
  have S10 := Lib.hid (S8.out.ex ee (fun h => h))
  have B10 := Lib.hid (B8.out.ex ee (fun h => h))
  have K10 := Lib.hid (K8.out.ex ee (fun h => h) (fun h => h))
  have PA10 := Lib.hid (PA8.out.ex ee (fun h => h))
  have A10 := Lib.hid (hp)
  clear ee L8 S8 B8 K8 PA8 hb hp ho hN hlo_ hlt_sb hlt_lb hlt_g hlt_h hlt_pbA
  have k00 : ((0 : Int) != 0) = false := rfl
  have k11 : ((1 : Int) != 1) = false := rfl
  go_wp2_with fail
  refine (BStep_any NA g h oa z8 _ aC a0 w4 K10.out A10.out (fun h => a0_good.inv (by decide) h) (by have h1 := A10.out.lt; have o_ := ORD9.out; omega) (by have o_ := ORD9.out; omega) (by have o_ := ORD9.out; omega)).mono ?_; rintro e w5 ⟨rfl, hk, hl, hx⟩
  rw [show (pStepF aC z8 a0).how = 0 from a1_how]
  rw [show pStepF aC z8 a0 = a1 from rfl] at hl
  generalize pTickF aC z8 a0 _ = tt at hk
  have ee : Ex (fun k => k = g ∨ k = h ∨ NA ≤ k) w4 w5 := hx
  have L11 := Lib.hid (Ex.below L10.out ee (fun k hk => by have hk : k = g ∨ k = h ∨ NA ≤ k := hk; have o_ := ORD9.out; omega))
  have S11 := Lib.hid (S10.out.ex ee (fun hT => by have hT : sb = g ∨ sb = h ∨ NA ≤ sb := hT; have o_ := ORD9.out; omega))
  have B11 := Lib.hid (B10.out.ex ee (fun hT => by have hT : lb = g ∨ lb = h ∨ NA ≤ lb := hT; have o_ := ORD9.out; omega))
  have PA11 := Lib.hid (PA10.out.ex ee (fun hT => by have hT : pbA = g ∨ pbA = h ∨ NA ≤ pbA := hT; have o_ := ORD9.out; omega))
  have K11 := Lib.hid (hk)
  have A11 := Lib.hid (hl)
  clear ee L10 S10 B10 K10 PA10 A10 hk hl hx
  go_wp2_with fail
  refine (BStep_any NA g h oa z8 _ aC a1 w5 K11.out A11.out (fun h => a1_good.inv (by decide) h) (by have h1 := A11.out.lt; have o_ := ORD9.out; omega) (by have o_ := ORD9.out; omega) (by have o_ := ORD9.out; omega)).mono ?_; rintro e w6 ⟨rfl, hk, hl, hx⟩
  rw [show (pStepF aC z8 a1).how = 1 from a2_is.1]
  rw [show pStepF aC z8 a1 = a2 from rfl] at hl
  generalize pTickF aC z8 a1 _ = tt at hk
  have ee : Ex (fun k => k = g ∨ k = h ∨ NA ≤ k) w5 w6 := hx
  have L12 := Lib.hid (Ex.below L11.out ee (fun k hk => by have hk : k = g ∨ k = h ∨ NA ≤ k := hk; have o_ := ORD9.out; omega))
  have S12 := Lib.hid (S11.out.ex ee (fun hT => by have hT : sb = g ∨ sb = h ∨ NA ≤ sb := hT; have o_ := ORD9.out; omega))
  have B12 := Lib.hid (B11.out.ex ee (fun hT => by have hT : lb = g ∨ lb = h ∨ NA ≤ lb := hT; have o_ := ORD9.out; omega))
  have PA12 := Lib.hid (PA11.out.ex ee (fun hT => by have hT : pbA = g ∨ pbA = h ∨ NA ≤ pbA := hT; have o_ := ORD9.out; omega))
  have K12 := Lib.hid (hk)
  have A12 := Lib.hid (hl)
  clear ee L11 S11 B11 K11 PA11 A11 hk hl hx
  go_wp2_with fail
  refine (LGot_any (LB NA) 1 oa aC a2 w6 A12.out a2_is.1 (by rw [a2_is.2.2.2]; decide)).mono ?_; rintro e w7 ⟨vA, rfl, hown, hb⟩
  rw [a2_is.2.2.2] at hown
  rw [a2_is.2.1, a2_is.2.2.1]
  obtain ⟨vaA, vcA, rfl⟩ := own_form hown
  clear hown
  have ee : Ex (fun _ => False) w6 w7 := Ex.of_below hb
  have L13 := Lib.hid (Ex.below L12.out ee (fun k hk => hk.elim))
  have S13 := Lib.hid (S12.out.ex ee (fun h => h))
  have B13 := Lib.hid (B12.out.ex ee (fun h => h))
  have K13 := Lib.hid (K12.out.ex ee (fun h => h) (fun h => h))
  have PA13 := Lib.hid (PA12.out.ex ee (fun h => h))
  have A13 := Lib.hid (A12.out.ex ee (fun _ h => h.elim))
  clear ee L12 S12 B12 K12 PA12 A12 hb
  have kn : ((-1 : Int) != -1) = false := rfl
  have kl : ((([] : List Int).length : Int) != 0) = false := rfl
  go_wp2_with fail
  refine (Store_any g h z8 _ 4 5 w7 K13.out (by decide)).mono ?_; rintro e w8 ⟨rfl, hk, hx⟩
  rw [err1.1]
  rw [set1.1] at hk
  generalize tickF z8 4 _ = tt at hk
  have ee : Ex (fun k => k = g ∨ k = h) w7 w8 := Ex.of_ex2 (T := fun k => k = g ∨ k = h) hx (.inl rfl) (.inr rfl)
  have L14 := Lib.hid (Ex.below L13.out ee (fun k hk => by have hk : k = g ∨ k = h := hk; have o_ := ORD9.out; omega))
  have S14 := Lib.hid (S13.out.ex ee (fun hT => by have hT : sb = g ∨ sb = h := hT; have o_ := ORD9.out; omega))
  have B14 := Lib.hid (B13.out.ex ee (fun hT => by have hT : lb = g ∨ lb = h := hT; have o_ := ORD9.out; omega))
  have PA14 := Lib.hid (PA13.out.ex ee (fun hT => by have hT : pbA = g ∨ pbA = h := hT; have o_ := ORD9.out; omega))
  have K14 := Lib.hid (hk)
  clear ee L13 S13 B13 K13 PA13 hk hx
  go_wp2_with fail
  refine (Store_any g h z8a _ 5 6 w8 K14.out (by decide)).mono ?_; rintro e w9 ⟨rfl, hk, hx⟩
  rw [err1.2.1]
  rw [set1.2.1] at hk
  generalize tickF z8a 5 _ = tt at hk
  have ee : Ex (fun k => k = g ∨ k = h) w8 w9 := Ex.of_ex2 (T := fun k => k = g ∨ k = h) hx (.inl rfl) (.inr rfl)
  have L15 := Lib.hid (Ex.below L14.out ee (fun k hk => by have hk : k = g ∨ k = h := hk; have o_ := ORD9.out; omega))
  have S15 := Lib.hid (S14.out.ex ee (fun hT => by have hT : sb = g ∨ sb = h := hT; have o_ := ORD9.out; omega))
  have B15 := Lib.hid (B14.out.ex ee (fun hT => by have hT : lb = g ∨ lb = h := hT; have o_ := ORD9.out; omega))
  have PA15 := Lib.hid (PA14.out.ex ee (fun hT => by have hT : pbA = g ∨ pbA = h := hT; have o_ := ORD9.out; omega))
  have K15 := Lib.hid (hk)
  clear ee L14 S14 B14 K14 PA14 hk hx
  go_wp2_with fail
  refine (Store_any g h z8b _ 1 2 w9 K15.out (by decide)).mono ?_; rintro e wa ⟨rfl, hk, hx⟩
  rw [err1.2.2]
  rw [set1.2.2] at hk
  generalize tickF z8b 1 _ = tt at hk
  have ee : Ex (fun k => k = g ∨ k = h) w9 wa := Ex.of_ex2 (T := fun k => k = g ∨ k = h) hx (.inl rfl) (.inr rfl)
  have L16 := Lib.hid (Ex.below L15.out ee (fun k hk => by have hk : k = g ∨ k = h := hk; have o_ := ORD9.out; omega))
  have S16 := Lib.hid (S15.out.ex ee (fun hT => by have hT : sb = g ∨ sb = h := hT; have o_ := ORD9.out; omega))
  have B16 := Lib.hid (B15.out.ex ee (fun hT => by have hT : lb = g ∨ lb = h := hT; have o_ := ORD9.out; omega))
  have PA16 := Lib.hid (PA15.out.ex ee (fun hT => by have hT : pbA = g ∨ pbA = h := hT; have o_ := ORD9.out; omega))
  have K16 := Lib.hid (hk)
  clear ee L15 S15 B15 K15 PA15 hk hx
  clear kn kl
  go_upto_region 10 with fail
  have Sq0 := S16.out.cell 0
  have Sq1 := S16.out.cell 1
  have Sq2 := S16.out.cell 2
  have Sq3 := S16.out.cell 3
  have Sq4 := S16.out.cell 4
  simp only [List.getElem?_toArray, List.getElem?_cons_succ, List.getElem?_cons_zero] at Sq0 Sq1 Sq2 Sq3 Sq4
  go_wp2_with fail
  have hn := Blk.new wa 48 #[.int .i64 0, .int .i64 1, .int .i64 2, .int .i64 2, .int .i64 3]
  clear Sq0 Sq1 Sq2 Sq3 Sq4
  obtain ⟨pbC, hnb⟩ : ∃ pbC, wa.heap.size = pbC := ⟨_, rfl⟩
  have hlt_sb : sb < pbC := hnb ▸ S16.out.lt
  have hlt_lb : lb < pbC := hnb ▸ B16.out.lt
  have hlt_g : g < pbC := hnb ▸ K16.out.head.lt
  have hlt_h : h < pbC := hnb ▸ K16.out.row.lt
  have hlt_pbA : pbA < pbC := hnb ▸ PA16.out.lt
  have hlo_ : w.heap.size ≤ pbC := hnb ▸ L16.out.size
  simp only [hnb] at hn ⊢
  have ORD17 := Lib.hid (show w.heap.size ≤ sb ∧ sb < lb ∧ w.heap.size ≤ lb ∧ sb < h ∧ lb < h ∧ w.heap.size ≤ h ∧ h + 1 = g ∧ sb < pbA ∧ lb < pbA ∧ g < pbA ∧ h < pbA ∧ w.heap.size ≤ pbA ∧ sb < NA ∧ lb < NA ∧ g < NA ∧ h < NA ∧ pbA < NA ∧ w.heap.size ≤ NA ∧ NA ≤ oa ∧ sb < pbC ∧ lb < pbC ∧ g < pbC ∧ h < pbC ∧ pbA < pbC ∧ w.heap.size ≤ pbC from by have o_ := ORD9.out; omega)
  clear ORD9
  have ee : Ex (fun _ => False) wa (wa.alloc (.cells #[.int .i64 0, .int .i64 1, .int .i64 2, .int .i64 2, .int .i64 3] 48)) := (Ex.refl _ wa).alloc (.cells #[.int .i64 0, .int .i64 1, .int .i64 2, .int .i64 2, .int .i64 3] 48)
  have L18 := Lib.hid (Ex.below L16.out ee (fun k hk => hk.elim))
  have S18 := Lib.hid (S16.out.ex ee (fun h => h))
  have B18 := Lib.hid (B16.out.ex ee (fun h => h))
  have K18 := Lib.hid (K16.out.ex ee (fun h => h) (fun h => h))
  have PA18 := Lib.hid (PA16.out.ex ee (fun h => h))
  have PC18 := Lib.hid (hn)
  clear ee L16 S16 B16 K16 PA16 hn hnb hlt_sb hlt_lb hlt_g hlt_h hlt_pbA hlo_
  generalize wa.alloc (.cells #[.int .i64 0, .int .i64 1, .int .i64 2, .int .i64 2, .int .i64 3] 48) = wap at *
  refine (BNew_in _ _ 1 1 aL aS 1 wap (subs_one (s := aSub) B18.out aSub_ok (fun _ => rfl)) (sps_one (s := aSpot) PC18.out (fun _ => rfl)) (by decide) aFits (by decide)).mono ?_; rintro e wb ⟨oc, rfl, hp, ho, hb⟩
  rw [aC_eq, a0_eq] at hp
  obtain ⟨NC, hN⟩ : ∃ NC, wap.heap.size = NC := ⟨_, rfl⟩
  have hlt_sb : sb < NC := hN ▸ S18.out.lt
  have hlt_lb : lb < NC := hN ▸ B18.out.lt
  have hlt_g : g < NC := hN ▸ K18.out.head.lt
  have hlt_h : h < NC := hN ▸ K18.out.row.lt
  have hlt_pbA : pbA < NC := hN ▸ PA18.out.lt
  have hlt_pbC : pbC < NC := hN ▸ PC18.out.lt
  have hlo_ : w.heap.size ≤ NC := hN ▸ L18.out.size
  rw [hN] at hp ho
  have ORD19 := Lib.hid (show w.heap.size ≤ sb ∧ sb < lb ∧ w.heap.size ≤ lb ∧ sb < h ∧ lb < h ∧ w.heap.size ≤ h ∧ h + 1 = g ∧ sb < pbA ∧ lb < pbA ∧ g < pbA ∧ h < pbA ∧ w.heap.size ≤ pbA ∧ sb < NA ∧ lb < NA ∧ g < NA ∧ h < NA ∧ pbA < NA ∧ w.heap.size ≤ NA ∧ NA ≤ oa ∧ sb < pbC ∧ lb < pbC ∧ g < pbC ∧ h < pbC ∧ pbA < pbC ∧ w.heap.size ≤ pbC ∧ sb < NC ∧ lb < NC ∧ g < NC ∧ h < NC ∧ pbA < NC ∧ pbC < NC ∧ w.heap.size ≤ NC ∧ NC ≤ oc from by have o_ := ORD17.out; omega)
  clear ORD17
  have ee : Ex (fun _ => False) wap wb := Ex.of_below hb
  have L20 := Lib.hid (Ex.below L18.out ee (fun k hk => hk.elim))
  have S20 := Lib.hid (S18.out.ex ee (fun h => h))
  have B20 := Lib.hid (B18.out.ex ee (fun h => h))
  have K20 := Lib.hid (K18.out.ex ee (fun h => h) (fun h => h))
  have PA20 := Lib.hid (PA18.out.ex ee (fun h => h))
  have PC20 := Lib.hid (PC18.out.ex ee (fun h => h))
  have C20 := Lib.hid (hp)
  clear ee L18 S18 B18 K18 PA18 PC18 hb hp ho hN hlo_ hlt_sb hlt_lb hlt_g hlt_h hlt_pbA hlt_pbC
  go_wp2_with fail
  refine (BStep_any NC g h oc y8 _ aC a0 wb K20.out C20.out (fun h => a0_good.inv (by decide) h) (by have h1 := C20.out.lt; have o_ := ORD19.out; omega) (by have o_ := ORD19.out; omega) (by have o_ := ORD19.out; omega)).mono ?_; rintro e wc ⟨rfl, hk, hl, hx⟩
  rw [show (pStepF aC y8 a0).how = 0 from b_how.1]
  rw [show pStepF aC y8 a0 = b1 from rfl] at hl
  generalize pTickF aC y8 a0 _ = tt at hk
  have ee : Ex (fun k => k = g ∨ k = h ∨ NC ≤ k) wb wc := hx
  have L21 := Lib.hid (Ex.below L20.out ee (fun k hk => by have hk : k = g ∨ k = h ∨ NC ≤ k := hk; have o_ := ORD19.out; omega))
  have S21 := Lib.hid (S20.out.ex ee (fun hT => by have hT : sb = g ∨ sb = h ∨ NC ≤ sb := hT; have o_ := ORD19.out; omega))
  have B21 := Lib.hid (B20.out.ex ee (fun hT => by have hT : lb = g ∨ lb = h ∨ NC ≤ lb := hT; have o_ := ORD19.out; omega))
  have PA21 := Lib.hid (PA20.out.ex ee (fun hT => by have hT : pbA = g ∨ pbA = h ∨ NC ≤ pbA := hT; have o_ := ORD19.out; omega))
  have PC21 := Lib.hid (PC20.out.ex ee (fun hT => by have hT : pbC = g ∨ pbC = h ∨ NC ≤ pbC := hT; have o_ := ORD19.out; omega))
  have K21 := Lib.hid (hk)
  have C21 := Lib.hid (hl)
  clear ee L20 S20 B20 K20 PA20 PC20 C20 hk hl hx
  go_wp2_with fail
  refine (BStep_any NC g h oc y8 _ aC b1 wc K21.out C21.out (fun h => b1_good.inv (by decide) h) (by have h1 := C21.out.lt; have o_ := ORD19.out; omega) (by have o_ := ORD19.out; omega) (by have o_ := ORD19.out; omega)).mono ?_; rintro e wd ⟨rfl, hk, hl, hx⟩
  rw [show (pStepF aC y8 b1).how = 0 from b_how.2.1]
  rw [show pStepF aC y8 b1 = b2 from rfl] at hl
  generalize pTickF aC y8 b1 _ = tt at hk
  have ee : Ex (fun k => k = g ∨ k = h ∨ NC ≤ k) wc wd := hx
  have L22 := Lib.hid (Ex.below L21.out ee (fun k hk => by have hk : k = g ∨ k = h ∨ NC ≤ k := hk; have o_ := ORD19.out; omega))
  have S22 := Lib.hid (S21.out.ex ee (fun hT => by have hT : sb = g ∨ sb = h ∨ NC ≤ sb := hT; have o_ := ORD19.out; omega))
  have B22 := Lib.hid (B21.out.ex ee (fun hT => by have hT : lb = g ∨ lb = h ∨ NC ≤ lb := hT; have o_ := ORD19.out; omega))
  have PA22 := Lib.hid (PA21.out.ex ee (fun hT => by have hT : pbA = g ∨ pbA = h ∨ NC ≤ pbA := hT; have o_ := ORD19.out; omega))
  have PC22 := Lib.hid (PC21.out.ex ee (fun hT => by have hT : pbC = g ∨ pbC = h ∨ NC ≤ pbC := hT; have o_ := ORD19.out; omega))
  have K22 := Lib.hid (hk)
  have C22 := Lib.hid (hl)
  clear ee L21 S21 B21 K21 PA21 PC21 C21 hk hl hx
  go_wp2_with fail
  refine (BStep_any NC g h oc y8 _ aC b2 wd K22.out C22.out (fun h => b2_good.inv (by decide) h) (by have h1 := C22.out.lt; have o_ := ORD19.out; omega) (by have o_ := ORD19.out; omega) (by have o_ := ORD19.out; omega)).mono ?_; rintro e we ⟨rfl, hk, hl, hx⟩
  rw [show (pStepF aC y8 b2).how = 0 from b_how.2.2]
  rw [show pStepF aC y8 b2 = b3 from rfl] at hl
  generalize pTickF aC y8 b2 _ = tt at hk
  have ee : Ex (fun k => k = g ∨ k = h ∨ NC ≤ k) wd we := hx
  have L23 := Lib.hid (Ex.below L22.out ee (fun k hk => by have hk : k = g ∨ k = h ∨ NC ≤ k := hk; have o_ := ORD19.out; omega))
  have S23 := Lib.hid (S22.out.ex ee (fun hT => by have hT : sb = g ∨ sb = h ∨ NC ≤ sb := hT; have o_ := ORD19.out; omega))
  have B23 := Lib.hid (B22.out.ex ee (fun hT => by have hT : lb = g ∨ lb = h ∨ NC ≤ lb := hT; have o_ := ORD19.out; omega))
  have PA23 := Lib.hid (PA22.out.ex ee (fun hT => by have hT : pbA = g ∨ pbA = h ∨ NC ≤ pbA := hT; have o_ := ORD19.out; omega))
  have PC23 := Lib.hid (PC22.out.ex ee (fun hT => by have hT : pbC = g ∨ pbC = h ∨ NC ≤ pbC := hT; have o_ := ORD19.out; omega))
  have K23 := Lib.hid (hk)
  have C23 := Lib.hid (hl)
  clear ee L22 S22 B22 K22 PA22 PC22 C22 hk hl hx
  go_wp2_with fail
  refine (BStep_any NC g h oc y8 _ aC b3 we K23.out C23.out (fun h => b3_good.inv (by decide) h) (by have h1 := C23.out.lt; have o_ := ORD19.out; omega) (by have o_ := ORD19.out; omega) (by have o_ := ORD19.out; omega)).mono ?_; rintro e wf ⟨rfl, hk, hl, hx⟩
  rw [show (pStepF aC y8 b3).how = 1 from b4_is.1]
  rw [show pStepF aC y8 b3 = b4 from rfl] at hl
  generalize pTickF aC y8 b3 _ = tt at hk
  have ee : Ex (fun k => k = g ∨ k = h ∨ NC ≤ k) we wf := hx
  have L24 := Lib.hid (Ex.below L23.out ee (fun k hk => by have hk : k = g ∨ k = h ∨ NC ≤ k := hk; have o_ := ORD19.out; omega))
  have S24 := Lib.hid (S23.out.ex ee (fun hT => by have hT : sb = g ∨ sb = h ∨ NC ≤ sb := hT; have o_ := ORD19.out; omega))
  have B24 := Lib.hid (B23.out.ex ee (fun hT => by have hT : lb = g ∨ lb = h ∨ NC ≤ lb := hT; have o_ := ORD19.out; omega))
  have PA24 := Lib.hid (PA23.out.ex ee (fun hT => by have hT : pbA = g ∨ pbA = h ∨ NC ≤ pbA := hT; have o_ := ORD19.out; omega))
  have PC24 := Lib.hid (PC23.out.ex ee (fun hT => by have hT : pbC = g ∨ pbC = h ∨ NC ≤ pbC := hT; have o_ := ORD19.out; omega))
  have K24 := Lib.hid (hk)
  have C24 := Lib.hid (hl)
  clear ee L23 S23 B23 K23 PA23 PC23 C23 hk hl hx
  go_wp2_with fail
  refine (LGot_any (LB NC) 1 oc aC b4 wf C24.out b4_is.1 (by rw [b4_is.2.2.2.1]; decide)).mono ?_; rintro e wg ⟨vC, rfl, hown, hb⟩
  rw [b4_is.2.2.2.1] at hown
  rw [b4_is.2.1, b4_is.2.2.1]
  obtain ⟨vaC, vcC, rfl⟩ := own_form hown
  have HWC := Lib.hid (ints_of_own (xs := [5, 6]) hown (by decide))
  clear hown
  have ee : Ex (fun _ => False) wf wg := Ex.of_below hb
  have L25 := Lib.hid (Ex.below L24.out ee (fun k hk => hk.elim))
  have S25 := Lib.hid (S24.out.ex ee (fun h => h))
  have B25 := Lib.hid (B24.out.ex ee (fun h => h))
  have K25 := Lib.hid (K24.out.ex ee (fun h => h) (fun h => h))
  have PA25 := Lib.hid (PA24.out.ex ee (fun h => h))
  have PC25 := Lib.hid (PC24.out.ex ee (fun h => h))
  have C25 := Lib.hid (C24.out.ex ee (fun _ h => h.elim))
  clear ee L24 S24 B24 K24 PA24 PC24 C24 hb
  go_wp2_with fail
  have hni := HWC.out.below ((Below.refl wg.heap.size wg).alloc (Nat.le_refl _) (.cells #[.int .u64 5, .int .u64 6] 32))
  have HNI := Lib.hid hni
  clear hni HWC
  have hn := Blk.new wg 32 #[.int .u64 5, .int .u64 6]
  obtain ⟨db, hnb⟩ : ∃ db, wg.heap.size = db := ⟨_, rfl⟩
  have hlt_sb : sb < db := hnb ▸ S25.out.lt
  have hlt_lb : lb < db := hnb ▸ B25.out.lt
  have hlt_g : g < db := hnb ▸ K25.out.head.lt
  have hlt_h : h < db := hnb ▸ K25.out.row.lt
  have hlt_pbA : pbA < db := hnb ▸ PA25.out.lt
  have hlt_pbC : pbC < db := hnb ▸ PC25.out.lt
  have hlt_oc : oc < db := hnb ▸ C25.out.lt
  have hlo_ : w.heap.size ≤ db := hnb ▸ L25.out.size
  simp only [hnb] at hn ⊢
  have ORD26 := Lib.hid (show w.heap.size ≤ sb ∧ sb < lb ∧ w.heap.size ≤ lb ∧ sb < h ∧ lb < h ∧ w.heap.size ≤ h ∧ h + 1 = g ∧ sb < pbA ∧ lb < pbA ∧ g < pbA ∧ h < pbA ∧ w.heap.size ≤ pbA ∧ sb < NA ∧ lb < NA ∧ g < NA ∧ h < NA ∧ pbA < NA ∧ w.heap.size ≤ NA ∧ NA ≤ oa ∧ sb < pbC ∧ lb < pbC ∧ g < pbC ∧ h < pbC ∧ pbA < pbC ∧ w.heap.size ≤ pbC ∧ sb < NC ∧ lb < NC ∧ g < NC ∧ h < NC ∧ pbA < NC ∧ pbC < NC ∧ w.heap.size ≤ NC ∧ NC ≤ oc ∧ sb < db ∧ lb < db ∧ g < db ∧ h < db ∧ pbA < db ∧ pbC < db ∧ oc < db ∧ w.heap.size ≤ db from by have o_ := ORD19.out; omega)
  clear ORD19
  have ee : Ex (fun _ => False) wg (wg.alloc (.cells #[.int .u64 5, .int .u64 6] 32)) := (Ex.refl _ wg).alloc (.cells #[.int .u64 5, .int .u64 6] 32)
  have L27 := Lib.hid (Ex.below L25.out ee (fun k hk => hk.elim))
  have S27 := Lib.hid (S25.out.ex ee (fun h => h))
  have B27 := Lib.hid (B25.out.ex ee (fun h => h))
  have K27 := Lib.hid (K25.out.ex ee (fun h => h) (fun h => h))
  have PA27 := Lib.hid (PA25.out.ex ee (fun h => h))
  have PC27 := Lib.hid (PC25.out.ex ee (fun h => h))
  have C27 := Lib.hid (C25.out.ex ee (fun _ h => h.elim))
  have D27 := Lib.hid (hn)
  clear ee L25 S25 B25 K25 PA25 PC25 C25 hn hnb hlt_sb hlt_lb hlt_g hlt_h hlt_pbA hlt_pbC hlt_oc hlo_
  generalize wg.alloc (.cells #[.int .u64 5, .int .u64 6] 32) = wh at *
  refine (same_any _ _ [5, 6] [5, 6] wh HNI.out ((show URow wh db [5, 6] from D27.out).ints (c := 2) (by decide)) (by decide)).mono ?_; rintro e wi ⟨rfl, hb⟩
  rw [show decide (([5, 6] : List Int) = [5, 6]) = true from rfl]
  clear HNI
  have ee : Ex (fun _ => False) wh wi := Ex.of_below hb
  have L28 := Lib.hid (Ex.below L27.out ee (fun k hk => hk.elim))
  have S28 := Lib.hid (S27.out.ex ee (fun h => h))
  have B28 := Lib.hid (B27.out.ex ee (fun h => h))
  have K28 := Lib.hid (K27.out.ex ee (fun h => h) (fun h => h))
  have PA28 := Lib.hid (PA27.out.ex ee (fun h => h))
  have PC28 := Lib.hid (PC27.out.ex ee (fun h => h))
  have C28 := Lib.hid (C27.out.ex ee (fun _ h => h.elim))
  have D28 := Lib.hid (D27.out.ex ee (fun h => h))
  clear ee L27 S27 B27 K27 PA27 PC27 C27 D27 hb
  go_wp2_with fail
  refine (LAt_any (LB NC) 1 oc aC b4 wi C28.out).mono ?_; rintro e wj ⟨rfl, rfl⟩
  rw [if_pos b4_is.1, b4_is.2.2.2.2]
  go_wp2_with fail
  go_ret
  exact ⟨rfl, L28.out⟩
end Go.Proofs.Ythcaagkgddeabaa.Bank
