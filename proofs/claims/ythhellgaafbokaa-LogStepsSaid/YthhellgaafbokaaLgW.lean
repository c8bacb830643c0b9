/-
  Law 16: awake. Printed by wip/tools/mklga.py. No condition. By an AI agent.
-/
import Derived.Test.YthhellgaafbokaaLgV
import Derived.Test.YthhellgaafbokaaLgT
import Derived.Test.YthhellgaafbokaaLgG
namespace Go.Proofs.Ythhellgaafbokaa.Base
open Go Go.RowKit
structure Lo (B : Nat) (w a : World) : Prop where
  low : Below B w a
  le : B ≤ a.heap.size
theorem Lo.ex {T : Nat → Prop} {B : Nat} {w a b : World} (h : Lo B w a) (q : Ex T a b) (hT : ∀ k, T k → B ≤ k) : Lo B w b :=
  ⟨h.low.trans (q.to_below (fun k hk ht => by have := hT k ht; omega) h.le), Nat.le_trans h.le q.size⟩
end Go.Proofs.Ythhellgaafbokaa.Base
namespace Go.Proofs.Ythhellgaafbokaa.Lg
set_option linter.unusedVariables false
set_option linter.unusedSimpArgs false
open Go Go.RowKit Go.Proofs.Ythhellgaafbokaa.Base Go.Proofs.Ythhellgaafbokaa.Reg
open Go.Proofs.Ythhellgaafbokaa.Bank (BankAt inW wordF setF tickF errF New_in zeros Touches_any Peek_any Store_any)
theorem turn6 (i : Nat) (h : i ≤ 4) : 6 - (intOf (.int .i64 (wrap64 ((i : Int) + 1)))).toNat < 6 - (intOf (.int .i64 (i : Int))).toNat := by
  have e : wrap64 ((i : Int) + 1) = ((i + 1 : Nat) : Int) := by unfold wrap64; omega
  rw [e]
  show 6 - ((i + 1 : Nat) : Int).toNat < 6 - (i : Int).toNat
  rw [Int.toNat_natCast, Int.toNat_natCast]
  omega
def wsA : Nat → List Int
  | 0 => [0, 0, 0, 0]
  | 1 => [0, 0, 0, 0]
  | 2 => [0, 0, 4160, 0]
  | 3 => [0, 0, 4160, 8320]
  | 4 => [0, 12480, 4160, 8320]
  | _ => [0, 12480, 16640, 8320]
def stA (i : Nat) : St := ⟨0, 0, false, i, i⟩
theorem aw_facts (i : Nat) (h1 : 1 ≤ i) (h2 : i ≤ 4) : mayE (stA i) = 0 ∧ (stA i).Ok ∧ inW (wsA i) (entF 1 3 (stA i).epoch) ∧ setF (wsA i) (entF 1 3 (stA i).epoch) (wordI (stA i)) = wsA (i + 1) ∧ tickF (wsA i) (entF 1 3 (stA i).epoch) ((i : Int) - 1) = ((i + 1 : Nat) : Int) - 1 ∧ (0 ≤ wordI (stA i) ∧ wordI (stA i) ≤ 18446744073709551615) := by
  have h : i = 1 ∨ i = 2 ∨ i = 3 ∨ i = 4 := by omega
  rcases h with rfl | rfl | rfl | rfl <;> exact ⟨by decide, ⟨by decide, by decide, by decide, by decide⟩, by decide, by decide, by decide, by decide⟩
set_option maxRecDepth 100000 in
set_option maxHeartbeats 8000000 in
theorem awake_any (w : World) : Calls Try.prog 9 #[] w fun e w' => e = .returned (.bool true) ∧ Below w.heap.size w w' := by
  go_enter Try.func9, Try.ntmps9
  go_wp2_with fail
  have hP := Blk.new w 33 #[.int .i64 0, .int .i64 1, .int .i64 3, .slice none 0 0, .int .i64 0]
  have hL : Lo w.heap.size w (w.alloc (.cells #[.int .i64 0, .int .i64 1, .int .i64 3, .slice none 0 0, .int .i64 0] 33)) := ⟨(Below.refl _ w).alloc (Nat.le_refl _) _, by simp⟩
  obtain ⟨pb, hfb⟩ : ∃ pb, w.heap.size = pb := ⟨_, rfl⟩
  have HBS := Lib.hid (Nat.le_of_eq hfb)
  simp only [hfb] at hP hL ⊢
  generalize w.alloc (.cells #[.int .i64 0, .int .i64 1, .int .i64 3, .slice none 0 0, .int .i64 0] 33) = w1 at *
  have P0 := Lib.hid hP
  have L0 := Lib.hid hL
  clear hP hL hfb
  have ORD1 := Lib.hid (show pb = pb from by rfl)
  refine (New_in 4 (by decide) (by decide) w1).mono ?_; rintro e w2 ⟨rfl, hb, hl, hsz⟩
  have hb : BankAt w2 (w1.heap.size + 1) w1.heap.size (zeros 4) 0 := hb
  obtain ⟨rr, hrr⟩ : ∃ rr, w1.heap.size = rr := ⟨_, rfl⟩
  have hlt_pb : pb < rr := hrr ▸ P0.out.lt
  simp only [hrr] at hb ⊢
  obtain ⟨g, hg⟩ : ∃ g, rr + 1 = g := ⟨_, rfl⟩
  simp only [hg] at hb ⊢
  have ORD2 := Lib.hid (show pb = pb ∧ pb < rr ∧ rr + 1 = g from by have o_ := ORD1.out; omega)
  clear ORD1
  have ee : Ex (fun _ => False) w1 w2 := Ex.of_below hl
  have P3 := Lib.hid (P0.out.ex ee (fun h => h))
  have L3 := Lib.hid (L0.out.ex ee (fun k hk => hk.elim))
  have K3 := Lib.hid (hb)
  clear ee P0 L0 hb hl hsz hrr hg hlt_pb
  go_wp2_with fail
  go_loopw [4, 5, 6] (fun s4 s5 s6 wr => ∃ i : Nat, 1 ≤ i ∧ i ≤ 5 ∧ s4 = .int .i64 i ∧ BankAt wr g rr (wsA i) ((i : Int) - 1) ∧ Lo pb w wr ∧ Blk wr pb 33 #[.int .i64 0, .int .i64 1, .int .i64 3, .slice none 0 0, .int .i64 0]) (fun s4 s5 s6 _ => 6 - (intOf s4).toNat)
  case atStart => exact ⟨1, by omega, by omega, rfl, K3.out, L3.out, P3.out⟩
  case round =>
    clear K3 L3 P3
    obtain ⟨i, hi1, hi5, rfl, hk, hl, hp⟩ := hrel
    have K9 := Lib.hid hk
    have L9 := Lib.hid hl
    have P9 := Lib.hid hp
    clear hk hl hp
    by_cases hle : i ≤ 4
    · have kd : decide ((i : Int) ≤ 4) = true := decide_eq_true (by omega)
      have kw : IntKind.u64.wrap (i : Int) = (i : Int) := Bank.u64_wrap_in (by omega)
      have kw1 : wrap64 ((i : Int) + 1) = (i : Int) + 1 := wrap64_in _ (by omega)
      have AF := Lib.hid (aw_facts i hi1 hle)
      have HI := Lib.hid (And.intro hi1 hle)
      clear hi1 hle hi5
      have Pq0 := P9.out.cell 0
      have Pq1 := P9.out.cell 1
      have Pq2 := P9.out.cell 2
      have Pq3 := P9.out.cell 3
      have Pq4 := P9.out.cell 4
      simp only [List.getElem?_toArray, List.getElem?_cons_succ, List.getElem?_cons_zero] at Pq0 Pq1 Pq2 Pq3 Pq4
      go_wp2_with fail
      clear Pq0 Pq1 Pq2 Pq3 Pq4
      have HW := Lib.hid (Write_in 1 3 (stA i) AF.out.2.1 AF.out.1 (by decide) wr)
      rw [show (stA i).val = .agg #[.int .i64 0, .int .i64 0, .bool false, .int .i64 i, .int .u64 i] from rfl] at HW
      try simp only [kw]
      refine HW.out.mono ?_; rintro e w3 ⟨oa, rfl, ha, hs, hb⟩
      clear HW
      have hlt_pb : pb < oa := Nat.lt_of_lt_of_le P9.out.lt hs
      have hlt_rr : rr < oa := Nat.lt_of_lt_of_le K9.out.row.lt hs
      have hlt_g : g < oa := Nat.lt_of_lt_of_le K9.out.head.lt hs
      have ORD21 := Lib.hid (show pb = pb ∧ pb < rr ∧ rr + 1 = g ∧ pb < oa ∧ rr < oa ∧ g < oa from by have o_ := ORD2.out; omega)
      clear ORD2
      have ee : Ex (fun _ => False) wr w3 := Ex.of_below hb
      have K22 := Lib.hid (K9.out.ex ee (fun h => h) (fun h => h))
      have L22 := Lib.hid (L9.out.ex ee (fun k hk => hk.elim))
      have P22 := Lib.hid (P9.out.ex ee (fun h => h))
      have Aa22 := Lib.hid (ha)
      clear ee K9 L9 P9 ha hs hb hlt_pb hlt_rr hlt_g
      go_wp2_with fail
      refine (S_win g rr oa oa (wsA i) ((i : Int) - 1) 1 3 0 (wordI (stA i)) (stA i) [] w3 Aa22.out K22.out (by have o_ := ORD21.out; omega) AF.out.2.1 AF.out.2.2.2.2.2 AF.out.2.2.1).mono ?_; rintro e w4 ⟨rfl, hb1, _, hx⟩
      rw [AF.out.2.2.2.1, AF.out.2.2.2.2.1] at hb1
      have ee : Ex (fun k => k = g ∨ k = rr ∨ k = oa) w3 w4 := hx.mono (fun k hk => by first | exact hk | (rcases hk with h | h | h | h <;> simp [h]))
      have L23 := Lib.hid (L22.out.ex ee (fun k hk => by have o_ := ORD21.out; have hk : k = g ∨ k = rr ∨ k = oa := hk; omega))
      have P23 := Lib.hid (P22.out.ex ee (by have o_ := ORD21.out; omega))
      have K23 := Lib.hid (hb1)
      clear ee K22 L22 P22 hb1 hx Aa22
      go_wp2_with fail
      go_roundw
      case rel => exact ⟨i + 1, by omega, by have := HI.out; omega, by first | rfl | go_num | (rw [kw1]; rfl), K23.out, L23.out, P23.out⟩
      case measure => exact turn6 i HI.out.2
    · obtain rfl : i = 5 := by omega
      clear hi1 hi5 hle
      have kd : decide (((5 : Nat) : Int) ≤ 4) = false := by decide
      have kd5 : decide ((5 : Int) ≤ 4) = false := by decide
      rw [show wsA 5 = [0, 12480, 16640, 8320] from rfl] at K9
      have Pq0 := P9.out.cell 0
      have Pq1 := P9.out.cell 1
      have Pq2 := P9.out.cell 2
      have Pq3 := P9.out.cell 3
      have Pq4 := P9.out.cell 4
      simp only [List.getElem?_toArray, List.getElem?_cons_succ, List.getElem?_cons_zero] at Pq0 Pq1 Pq2 Pq3 Pq4
      go_wp2_with fail
      clear Pq0 Pq1 Pq2 Pq3 Pq4
      refine (Read_in 1 3 (by decide) wr).mono ?_; rintro e w3 ⟨oa, rfl, ha, hs, hb⟩
      have hlt_pb : pb < oa := Nat.lt_of_lt_of_le P9.out.lt hs
      have hlt_rr : rr < oa := Nat.lt_of_lt_of_le K9.out.row.lt hs
      have hlt_g : g < oa := Nat.lt_of_lt_of_le K9.out.head.lt hs
      have ORD21 := Lib.hid (show pb = pb ∧ pb < rr ∧ rr + 1 = g ∧ pb < oa ∧ rr < oa ∧ g < oa from by have o_ := ORD2.out; omega)
      clear ORD2
      have ee : Ex (fun _ => False) wr w3 := Ex.of_below hb
      have K22 := Lib.hid (K9.out.ex ee (fun h => h) (fun h => h))
      have L22 := Lib.hid (L9.out.ex ee (fun k hk => hk.elim))
      have P22 := Lib.hid (P9.out.ex ee (fun h => h))
      have Aa22 := Lib.hid (ha)
      clear ee K9 L9 P9 ha hs hb hlt_pb hlt_rr hlt_g
      go_wp2_with fail
      have el : (([] : List St) ++ keep1 1 3 (1 + 0) (wordF [0, 12480, 16640, 8320] (1 + 0))) = [⟨0, 0, false, 3, 3⟩] := by decide +kernel
      refine (S_rmore g rr oa oa [0, 12480, 16640, 8320] (((5 : Nat) : Int) - 1) 1 3 0 [] w3 Aa22.out K22.out (by have o_ := ORD21.out; omega) (by decide) (by decide) (by decide) (by decide) (by decide)).mono ?_; rintro e w4 ⟨rfl, hb1, ⟨q0, ha, hq⟩, hx⟩
      rw [el] at ha
      rw [show tickF [0, 12480, 16640, 8320] (1 + 0) ((((5 : Nat) : Int) - 1)) = 5 from by decide] at hb1
      clear el
      have ORD23 := Lib.hid (show pb = pb ∧ pb < rr ∧ rr + 1 = g ∧ pb < oa ∧ rr < oa ∧ g < oa ∧ (q0 = oa ∨ (q0 > rr ∧ q0 > g ∧ q0 > pb)) from by have o_ := ORD21.out; have h1 := K22.out.head.lt; have h2 := K22.out.row.lt; have h3 := P22.out.lt; omega)
      clear ORD21
      have ee : Ex (fun k => k = g ∨ k = rr ∨ k = oa ∨ k = oa) w3 w4 := hx.mono (fun k hk => by rcases hk with h | h | h | h <;> simp [h])
      have L24 := Lib.hid (L22.out.ex ee (fun k hk => by have o_ := ORD23.out; have hk : k = g ∨ k = rr ∨ k = oa ∨ k = oa := hk; omega))
      have P24 := Lib.hid (P22.out.ex ee (by have o_ := ORD23.out; omega))
      have K24 := Lib.hid (hb1)
      have Aa24 := Lib.hid (ha)
      clear ee K22 L22 P22 Aa22 hb1 ha hx hq
      go_wp2_with fail
      have el : (([⟨0, 0, false, 3, 3⟩] : List St) ++ keep1 1 3 (1 + 1) (wordF [0, 12480, 16640, 8320] (1 + 1))) = [⟨0, 0, false, 3, 3⟩, ⟨0, 0, false, 4, 4⟩] := by decide +kernel
      refine (S_rmore g rr oa q0 [0, 12480, 16640, 8320] 5 1 3 1 [⟨0, 0, false, 3, 3⟩] w4 Aa24.out K24.out (by have o_ := ORD23.out; omega) (by decide) (by decide) (by decide) (by decide) (by decide)).mono ?_; rintro e w5 ⟨rfl, hb1, ⟨q1, ha, hq⟩, hx⟩
      rw [el] at ha
      rw [show tickF [0, 12480, 16640, 8320] (1 + 1) (5) = 6 from by decide] at hb1
      clear el
      have ORD25 := Lib.hid (show pb = pb ∧ pb < rr ∧ rr + 1 = g ∧ pb < oa ∧ rr < oa ∧ g < oa ∧ (q0 = oa ∨ (q0 > rr ∧ q0 > g ∧ q0 > pb)) ∧ (q1 = q0 ∨ (q1 > rr ∧ q1 > g ∧ q1 > pb)) from by have o_ := ORD23.out; have h1 := K24.out.head.lt; have h2 := K24.out.row.lt; have h3 := P24.out.lt; omega)
      clear ORD23
      have ee : Ex (fun k => k = g ∨ k = rr ∨ k = oa ∨ k = q0) w4 w5 := hx.mono (fun k hk => by rcases hk with h | h | h | h <;> simp [h])
      have L26 := Lib.hid (L24.out.ex ee (fun k hk => by have o_ := ORD25.out; have hk : k = g ∨ k = rr ∨ k = oa ∨ k = q0 := hk; omega))
      have P26 := Lib.hid (P24.out.ex ee (by have o_ := ORD25.out; omega))
      have K26 := Lib.hid (hb1)
      have Aa26 := Lib.hid (ha)
      clear ee K24 L24 P24 Aa24 hb1 ha hx hq
      go_wp2_with fail
      have el : (([⟨0, 0, false, 3, 3⟩, ⟨0, 0, false, 4, 4⟩] : List St) ++ keep1 1 3 (1 + 2) (wordF [0, 12480, 16640, 8320] (1 + 2))) = [⟨0, 0, false, 3, 3⟩, ⟨0, 0, false, 4, 4⟩, ⟨0, 0, false, 2, 2⟩] := by decide +kernel
      refine (S_rlast g rr oa q1 [0, 12480, 16640, 8320] 6 1 3 2 [⟨0, 0, false, 3, 3⟩, ⟨0, 0, false, 4, 4⟩] w5 Aa26.out K26.out (by have o_ := ORD25.out; omega) (by decide) (by decide) (by decide) (by decide) (by decide) (by rw [el]; exact .cons (by decide) (.cons (by decide) (.cons (by simp) .nil)))).mono ?_; rintro e w6 ⟨rfl, hb1, ⟨q2, ha, hq⟩, hx⟩
      rw [el] at ha
      rw [show sortS [⟨0, 0, false, 3, 3⟩, ⟨0, 0, false, 4, 4⟩, ⟨0, 0, false, 2, 2⟩] = [⟨0, 0, false, 2, 2⟩, ⟨0, 0, false, 3, 3⟩, ⟨0, 0, false, 4, 4⟩] from by decide +kernel] at ha
      rw [show tickF [0, 12480, 16640, 8320] (1 + 2) (6) = 7 from by decide] at hb1
      clear el
      have ORD27 := Lib.hid (show pb = pb ∧ pb < rr ∧ rr + 1 = g ∧ pb < oa ∧ rr < oa ∧ g < oa ∧ (q0 = oa ∨ (q0 > rr ∧ q0 > g ∧ q0 > pb)) ∧ (q1 = q0 ∨ (q1 > rr ∧ q1 > g ∧ q1 > pb)) ∧ (q2 = q1 ∨ (q2 > rr ∧ q2 > g ∧ q2 > pb)) from by have o_ := ORD25.out; have h1 := K26.out.head.lt; have h2 := K26.out.row.lt; have h3 := P26.out.lt; omega)
      clear ORD25
      have ee : Ex (fun k => k = g ∨ k = rr ∨ k = oa ∨ k = q1) w5 w6 := hx.mono (fun k hk => by rcases hk with h | h | h | h <;> simp [h])
      have L28 := Lib.hid (L26.out.ex ee (fun k hk => by have o_ := ORD27.out; have hk : k = g ∨ k = rr ∨ k = oa ∨ k = q1 := hk; omega))
      have P28 := Lib.hid (P26.out.ex ee (by have o_ := ORD27.out; omega))
      have K28 := Lib.hid (hb1)
      have Aa28 := Lib.hid (ha)
      clear ee K26 L26 P26 Aa26 hb1 ha hx hq
      go_wp2_with fail
      refine (G_done oa q2 1 3 _ [⟨0, 0, false, 2, 2⟩, ⟨0, 0, false, 3, 3⟩, ⟨0, 0, false, 4, 4⟩] w6 Aa28.out rfl (by decide)).mono ?_; rintro e w7 ⟨va, rfl, ho, hb⟩
      obtain ⟨vA, vc, rfl⟩ := own_form ho
      have HO := Lib.hid (sts_of_own (l := [⟨0, 0, false, 2, 2⟩, ⟨0, 0, false, 3, 3⟩, ⟨0, 0, false, 4, 4⟩]) ho (by decide) (by intro s hs; simp only [List.mem_cons, List.not_mem_nil, or_false] at hs; rcases hs with rfl | rfl | rfl <;> exact ⟨by decide, by decide, by decide, by decide⟩))
      clear ho
      have ee : Ex (fun _ => False) w6 w7 := Ex.of_below hb
      have K29 := Lib.hid (K28.out.ex ee (fun h => h) (fun h => h))
      have L29 := Lib.hid (L28.out.ex ee (fun k hk => hk.elim))
      have P29 := Lib.hid (P28.out.ex ee (fun h => h))
      have Aa29 := Lib.hid (Aa28.out.ex ee (fun h => h.elim (fun h => h) (fun h => h)))
      clear ee K28 L28 P28 Aa28 hb
      go_wp2_with fail
      have hlit := sts_of_blk (l := [⟨0, 0, false, 2, 2⟩, ⟨0, 0, false, 3, 3⟩, ⟨0, 0, false, 4, 4⟩]) (c := 3) (show Blk (w7.alloc (.cells #[.int .i64 0, .int .i64 0, .bool false, .int .i64 2, .int .u64 2, .int .i64 0, .int .i64 0, .bool false, .int .i64 3, .int .u64 3, .int .i64 0, .int .i64 0, .bool false, .int .i64 4, .int .u64 4] 28)) w7.heap.size 28 (flatS [⟨0, 0, false, 2, 2⟩, ⟨0, 0, false, 3, 3⟩, ⟨0, 0, false, 4, 4⟩]).toArray from Blk.new w7 28 _) rfl (by decide) (by intro s hs; simp only [List.mem_cons, List.not_mem_nil, or_false] at hs; rcases hs with rfl | rfl | rfl <;> exact ⟨by decide, by decide, by decide, by decide⟩)
      have hsm := same_any (.slice vA 3 vc) (.slice (some ⟨w7.heap.size, 0, none⟩) 3 3) 3 3 _ _ (w7.alloc (.cells #[.int .i64 0, .int .i64 0, .bool false, .int .i64 2, .int .u64 2, .int .i64 0, .int .i64 0, .bool false, .int .i64 3, .int .u64 3, .int .i64 0, .int .i64 0, .bool false, .int .i64 4, .int .u64 4] 28)) (HO.out.below ((Below.refl _ _).alloc (Nat.le_refl _) _)) hlit
      rw [show decide (SameF 3 3 (fun i => ([⟨0, 0, false, 2, 2⟩, ⟨0, 0, false, 3, 3⟩, ⟨0, 0, false, 4, 4⟩] : List St).getD i St.zero) (fun i => ([⟨0, 0, false, 2, 2⟩, ⟨0, 0, false, 3, 3⟩, ⟨0, 0, false, 4, 4⟩] : List St).getD i St.zero)) = true from by decide +kernel] at hsm
      refine hsm.mono ?_; rintro e w8 ⟨rfl, hb⟩
      clear hsm hlit HO
      have ee : Ex (fun _ => False) w7 w8 := ((Ex.refl _ w7).alloc _).trans (Ex.of_below hb)
      have K30 := Lib.hid (K29.out.ex ee (fun h => h) (fun h => h))
      have L30 := Lib.hid (L29.out.ex ee (fun k hk => hk.elim))
      have P30 := Lib.hid (P29.out.ex ee (fun h => h))
      have Aa30 := Lib.hid (Aa29.out.ex ee (fun h => h.elim (fun h => h) (fun h => h)))
      clear ee K29 L29 P29 Aa29 hb
      go_wp2_with fail
      have hlit := sts_of_blk (l := [⟨0, 0, false, 0, 2⟩, ⟨0, 0, false, 0, 5⟩, ⟨0, 0, false, 0, 6⟩]) (c := 3) (show Blk (w8.alloc (.cells #[.int .i64 0, .int .i64 0, .bool false, .int .i64 0, .int .u64 2, .int .i64 0, .int .i64 0, .bool false, .int .i64 0, .int .u64 5, .int .i64 0, .int .i64 0, .bool false, .int .i64 0, .int .u64 6] 28)) w8.heap.size 28 (flatS [⟨0, 0, false, 0, 2⟩, ⟨0, 0, false, 0, 5⟩, ⟨0, 0, false, 0, 6⟩]).toArray from Blk.new w8 28 _) rfl (by decide) (by intro s hs; simp only [List.mem_cons, List.not_mem_nil, or_false] at hs; rcases hs with rfl | rfl | rfl <;> exact ⟨by decide, by decide, by decide, by decide⟩)
      have hgp := Gaps_any (.slice (some ⟨w8.heap.size, 0, none⟩) 3 3) 3 _ (w8.alloc (.cells #[.int .i64 0, .int .i64 0, .bool false, .int .i64 0, .int .u64 2, .int .i64 0, .int .i64 0, .bool false, .int .i64 0, .int .u64 5, .int .i64 0, .int .i64 0, .bool false, .int .i64 0, .int .u64 6] 28)) hlit
      rw [show gapsF 3 (fun i => ([⟨0, 0, false, 0, 2⟩, ⟨0, 0, false, 0, 5⟩, ⟨0, 0, false, 0, 6⟩] : List St).getD i St.zero) = 2 from by decide +kernel] at hgp
      refine hgp.mono ?_; rintro e w9 ⟨rfl, hb⟩
      clear hgp hlit
      have ee : Ex (fun _ => False) w8 w9 := ((Ex.refl _ w8).alloc _).trans (Ex.of_below hb)
      have K31 := Lib.hid (K30.out.ex ee (fun h => h) (fun h => h))
      have L31 := Lib.hid (L30.out.ex ee (fun k hk => hk.elim))
      have P31 := Lib.hid (P30.out.ex ee (fun h => h))
      have Aa31 := Lib.hid (Aa30.out.ex ee (fun h => h.elim (fun h => h) (fun h => h)))
      clear ee K30 L30 P30 Aa30 hb
      go_wp2_with fail
      go_ret
      exact ⟨rfl, L31.out.low.mono HBS.out⟩
end Go.Proofs.Ythhellgaafbokaa.Lg
