/-
  What an operation of the arbiter makes of a word that it loaded, walked. Printed by wip/tools/mkarf.py. Conditions stand at it. By an AI agent.
-/
import Derived.Test.YtkmlikohgilnbaaDoorArb
namespace Go.Proofs.YtkmlikohgilnbaaDoor.Modes
open Go Go.RowKit Go.Proofs.YtkmlikohgilnbaaDoor.Base
theorem run_eql_func_nil {P : Program} (w : World) {t : TypeId} {ps rs : Array TypeId} {va : Bool} (f : Fn) (a c : Array Value) (ht : P.underlying t = some (.func ps rs va)) : (Go.binOp .eql t (.func f a c) .nilFunc).run P w = .ok (.bool false) w := by
  have h : ∀ d : Nat, (Op.equalIn (d + 1) t (.func f a c) .nilFunc).run P w = .ok false w := fun d => by
    simp [Op.equalIn, run_underlying ht]
  simp only [Go.binOp]
  simp [Op.equal, Op.maxDepth, h 9999]
theorem run_eql_nilFunc {P : Program} (w : World) {t : TypeId} {ps rs : Array TypeId} {va : Bool} (ht : P.underlying t = some (.func ps rs va)) : (Go.binOp .eql t .nilFunc .nilFunc).run P w = .ok (.bool true) w := by
  have h : ∀ d : Nat, (Op.equalIn (d + 1) t .nilFunc .nilFunc).run P w = .ok true w := fun d => by
    simp [Op.equalIn, run_underlying ht]
  simp only [Go.binOp]
  simp [Op.equal, Op.maxDepth, h 9999]
theorem Tab.ex {T : Nat → Prop} {w w' : World} (h : Tab w) (p : Ex T w w') (h0 : ¬ T 0) : Tab w' := fun i hi => p.cell (h i hi) h0
end Go.Proofs.YtkmlikohgilnbaaDoor.Modes
namespace Go.Proofs.YtkmlikohgilnbaaDoor.Arb
set_option linter.unusedVariables false
set_option linter.unusedSimpArgs false
open Go Go.RowKit Go.Proofs.YtkmlikohgilnbaaDoor.Base Go.Proofs.YtkmlikohgilnbaaDoor.Reg
open Go.Proofs.YtkmlikohgilnbaaDoor.Bank (BankAt inW wordF setF tickF errF casB errF_in errF_out wordF_in wordF_out tickF_in tickF_out setF_in setF_out casB_out casB_in Load_any CAS_any Load_nil)
open Go.Proofs.YtkmlikohgilnbaaDoor.Modes (Tab)
set_option maxRecDepth 100000 in
set_option maxHeartbeats 1000000 in
theorem found_form (o b : Nat) (k : Kd) (at_ : Int) (x : AX) (v : Int) (w : World) (h : ArbAt w o b k at_ x) (hh : x.how = 0) (hk : Kd.Ok k) (hv : 0 ≤ v ∧ v ≤ 18446744073709551615) (ht : Tab w) (hz : 0 < o) (hq : unE v ≠ 0) :
    Calls Tryd.prog 33 #[.pointer (some ⟨o, 0, none⟩), .int .u64 v] w fun e w' => e = .returned (.int .i64 (aFound k v x).how) ∧ ArbAt w' o b k at_ (aFound k v x) ∧ Ex (fun q => q = o) w w' := by
  have HH := Lib.hid hh
  clear hh
  have B0 := Lib.hid (show Blk w o 90 _ from h.head)
  have C0 := Lib.hid h.cap
  have NE := Lib.hid h.ne
  have X0 := Lib.hid (Ex.refl (fun q => q = o) w)
  have SZ := Lib.hid (show o < w.heap.size from Blk.lt h.head)
  unfold aCs at B0
  have ORD := Lib.hid (show b ≠ o from h.ne)
  clear h 
  have Bq0 := (B0.out).cell 0
  simp only [List.getElem?_toArray, List.getElem?_cons_succ, List.getElem?_cons_zero] at Bq0
  clear Bq0
  have HT := Lib.hid ht
  have HZ := Lib.hid hz
  clear ht hz ORD
  have ORD := Lib.hid (show b ≠ o ∧ 0 < o from ⟨NE.out, HZ.out⟩)
  have HU := Lib.hid (Unpack_any v hv)
  have HSO := Lib.hid (unS_ok hv)
  unfold St.val at HU
  clear hv
  go_enter Tryd.func33, Tryd.ntmps33
  go_wp2_with fail
  refine (HU.out _).mono ?_; rintro e w1 ⟨rfl, hb⟩
  clear HU
  have SZ1 := Lib.hid (Nat.lt_of_lt_of_le SZ.out hb.size)
  have ee : Ex (fun _ => False) w w1 := Ex.of_below hb
  have B_1 := Lib.hid (B0.out.ex ee (fun h => h))
  have C_1 := Lib.hid (C0.out.ex ee (fun h => h))
  have X_1 := Lib.hid (X0.out.ex ee (fun b_ h_ => h_.elim))
  have T_1 := Lib.hid (HT.out.ex ee (fun h => h))
  clear ee B0 C0 X0 HT hb
  go_upto_region 2 with fail
  have ee : Ex (fun _ => False) w1 (w1.alloc (.cells #[.int .i64 (unS v).mode, .int .i64 (unS v).source, .bool (unS v).hold, .int .i64 (unS v).flags, .int .u64 (unS v).epoch] 34)) := (Ex.refl _ w1).alloc _
  have B_2 := Lib.hid (B_1.out.ex ee (fun h => h))
  have C_2 := Lib.hid (C_1.out.ex ee (fun h => h))
  have X_2 := Lib.hid (X_1.out.ex ee (fun b_ h_ => h_.elim))
  have T_2 := Lib.hid (T_1.out.ex ee (fun h => h))
  have S_2 := Lib.hid (Blk.new w1 34 #[.int .i64 (unS v).mode, .int .i64 (unS v).source, .bool (unS v).hold, .int .i64 (unS v).flags, .int .u64 (unS v).epoch])
  clear ee B_1 C_1 X_1 T_1
  have ORD2 := Lib.hid (show b ≠ o ∧ 0 < o ∧ o < w1.heap.size ∧ w1.heap.size < (w1.alloc (.cells #[.int .i64 (unS v).mode, .int .i64 (unS v).source, .bool (unS v).hold, .int .i64 (unS v).flags, .int .u64 (unS v).epoch] 34)).heap.size from ⟨ORD.out.1, ORD.out.2, SZ1.out, by simp⟩)
  generalize (w1.alloc (.cells #[.int .i64 (unS v).mode, .int .i64 (unS v).source, .bool (unS v).hold, .int .i64 (unS v).flags, .int .u64 (unS v).epoch] 34)) = w2 at *
  generalize w1.heap.size = sb at *
  clear ORD SZ SZ1 HZ NE
  have kd : (unE v != 0) = true := by simpa using hq
  have HQ := Lib.hid hq
  clear hq
  have HE := Lib.hid (fun W (h : ArbAt W o b k at_ x) => Aend_any o b k at_ x 1 (unS v) (unE v) W h)
  unfold St.val at HE
  have Sq0 := (S_2.out).cell 0
  have Sq1 := (S_2.out).cell 1
  have Sq2 := (S_2.out).cell 2
  have Sq3 := (S_2.out).cell 3
  have Sq4 := (S_2.out).cell 4
  simp only [List.getElem?_toArray, List.getElem?_cons_succ, List.getElem?_cons_zero] at Sq0 Sq1 Sq2 Sq3 Sq4
  go_wp2_with fail
  refine (HE.out _ ⟨B_2.out, C_2.out, ORD2.out.1⟩).mono ?_; rintro e w9 ⟨rfl, ha, hx⟩
  go_wp2_with fail
  go_ret
  refine ⟨?_, ?_, X_2.out.trans hx⟩
  · rw [show aFound k v x = ⟨1, x.swaps, x.word, x.next, unS v, unE v, x.left, x.steps⟩ from if_pos HQ.out]; rfl
  · rw [show aFound k v x = ⟨1, x.swaps, x.word, x.next, unS v, unE v, x.left, x.steps⟩ from if_pos HQ.out]; exact ha
set_option maxRecDepth 100000 in
set_option maxHeartbeats 1000000 in
theorem found_read (o b : Nat) (k : Kd) (at_ : Int) (x : AX) (v : Int) (w : World) (h : ArbAt w o b k at_ x) (hh : x.how = 0) (hk : Kd.Ok k) (hv : 0 ≤ v ∧ v ≤ 18446744073709551615) (ht : Tab w) (hz : 0 < o) (hq : unE v = 0) (hr : k.isRead = true) :
    Calls Tryd.prog 33 #[.pointer (some ⟨o, 0, none⟩), .int .u64 v] w fun e w' => e = .returned (.int .i64 (aFound k v x).how) ∧ ArbAt w' o b k at_ (aFound k v x) ∧ Ex (fun q => q = o) w w' := by
  have HH := Lib.hid hh
  clear hh
  have B0 := Lib.hid (show Blk w o 90 _ from h.head)
  have C0 := Lib.hid h.cap
  have NE := Lib.hid h.ne
  have X0 := Lib.hid (Ex.refl (fun q => q = o) w)
  have SZ := Lib.hid (show o < w.heap.size from Blk.lt h.head)
  unfold aCs at B0
  have ORD := Lib.hid (show b ≠ o from h.ne)
  clear h 
  have Bq0 := (B0.out).cell 0
  simp only [List.getElem?_toArray, List.getElem?_cons_succ, List.getElem?_cons_zero] at Bq0
  clear Bq0
  have HT := Lib.hid ht
  have HZ := Lib.hid hz
  clear ht hz ORD
  have ORD := Lib.hid (show b ≠ o ∧ 0 < o from ⟨NE.out, HZ.out⟩)
  have HU := Lib.hid (Unpack_any v hv)
  have HSO := Lib.hid (unS_ok hv)
  unfold St.val at HU
  clear hv
  go_enter Tryd.func33, Tryd.ntmps33
  go_wp2_with fail
  refine (HU.out _).mono ?_; rintro e w1 ⟨rfl, hb⟩
  clear HU
  have SZ1 := Lib.hid (Nat.lt_of_lt_of_le SZ.out hb.size)
  have ee : Ex (fun _ => False) w w1 := Ex.of_below hb
  have B_1 := Lib.hid (B0.out.ex ee (fun h => h))
  have C_1 := Lib.hid (C0.out.ex ee (fun h => h))
  have X_1 := Lib.hid (X0.out.ex ee (fun b_ h_ => h_.elim))
  have T_1 := Lib.hid (HT.out.ex ee (fun h => h))
  clear ee B0 C0 X0 HT hb
  go_upto_region 2 with fail
  have ee : Ex (fun _ => False) w1 (w1.alloc (.cells #[.int .i64 (unS v).mode, .int .i64 (unS v).source, .bool (unS v).hold, .int .i64 (unS v).flags, .int .u64 (unS v).epoch] 34)) := (Ex.refl _ w1).alloc _
  have B_2 := Lib.hid (B_1.out.ex ee (fun h => h))
  have C_2 := Lib.hid (C_1.out.ex ee (fun h => h))
  have X_2 := Lib.hid (X_1.out.ex ee (fun b_ h_ => h_.elim))
  have T_2 := Lib.hid (T_1.out.ex ee (fun h => h))
  have S_2 := Lib.hid (Blk.new w1 34 #[.int .i64 (unS v).mode, .int .i64 (unS v).source, .bool (unS v).hold, .int .i64 (unS v).flags, .int .u64 (unS v).epoch])
  clear ee B_1 C_1 X_1 T_1
  have ORD2 := Lib.hid (show b ≠ o ∧ 0 < o ∧ o < w1.heap.size ∧ w1.heap.size < (w1.alloc (.cells #[.int .i64 (unS v).mode, .int .i64 (unS v).source, .bool (unS v).hold, .int .i64 (unS v).flags, .int .u64 (unS v).epoch] 34)).heap.size from ⟨ORD.out.1, ORD.out.2, SZ1.out, by simp⟩)
  generalize (w1.alloc (.cells #[.int .i64 (unS v).mode, .int .i64 (unS v).source, .bool (unS v).hold, .int .i64 (unS v).flags, .int .u64 (unS v).epoch] 34)) = w2 at *
  generalize w1.heap.size = sb at *
  clear ORD SZ SZ1 HZ NE
  have HQ := Lib.hid hq
  have kd : (unE v != 0) = false := by rw [hq]; rfl
  have HR := Lib.hid hr
  clear hr
  have hk0 : k = .read := by cases k with
    | read => rfl
    | req a => exact absurd HR.out (by simp [Kd.isRead])
    | tell f => exact absurd HR.out (by simp [Kd.isRead])
  clear hq kd
  subst hk0
  have Bq0 := (B_2.out).cell 0
  have Bq2 := (B_2.out).cell 2
  simp only [List.getElem?_toArray, List.getElem?_cons_succ, List.getElem?_cons_zero] at Bq0 Bq2
  unfold fnV at Bq2
  simp only at Bq2
  have eqn : ∀ w, (Go.binOp .eql 88 .nilFunc .nilFunc).run Tryd.prog w = .ok (.bool true) w := fun w => Modes.run_eql_nilFunc w Tryd.underlying88
  have HE := Lib.hid (fun W (h : ArbAt W o b .read at_ x) => Aend_any o b .read at_ x 1 (unS v) (0) W h)
  unfold St.val at HE
  have Sq0 := (S_2.out).cell 0
  have Sq1 := (S_2.out).cell 1
  have Sq2 := (S_2.out).cell 2
  have Sq3 := (S_2.out).cell 3
  have Sq4 := (S_2.out).cell 4
  simp only [List.getElem?_toArray, List.getElem?_cons_succ, List.getElem?_cons_zero] at Sq0 Sq1 Sq2 Sq3 Sq4
  go_wp2_with fail
  refine (HE.out _ ⟨B_2.out, C_2.out, ORD2.out.1⟩).mono ?_; rintro e w9 ⟨rfl, ha, hx⟩
  go_wp2_with fail
  go_ret
  refine ⟨?_, ?_, X_2.out.trans hx⟩
  · rw [show aFound .read v x = ⟨1, x.swaps, x.word, x.next, unS v, 0, x.left, x.steps⟩ by unfold aFound; rw [if_neg (by rw [HQ.out]; simp), if_pos (show Kd.read.isRead = true from rfl)]]; rfl
  · rw [show aFound .read v x = ⟨1, x.swaps, x.word, x.next, unS v, 0, x.left, x.steps⟩ by unfold aFound; rw [if_neg (by rw [HQ.out]; simp), if_pos (show Kd.read.isRead = true from rfl)]]; exact ha
set_option maxRecDepth 100000 in
set_option maxHeartbeats 1000000 in
theorem found_req (o b : Nat) (a : Reg.Ask) (at_ : Int) (x : AX) (v : Int) (w : World) (h : ArbAt w o b (.req a) at_ x) (hh : x.how = 0) (hk : Kd.Ok (.req a)) (hv : 0 ≤ v ∧ v ≤ 18446744073709551615) (ht : Tab w) (hz : 0 < o) (hq : unE v = 0) :
    Calls Tryd.prog 33 #[.pointer (some ⟨o, 0, none⟩), .int .u64 v] w fun e w' => e = .returned (.int .i64 (aFound (.req a) v x).how) ∧ ArbAt w' o b (.req a) at_ (aFound (.req a) v x) ∧ Ex (fun q => q = o) w w' := by
  have HH := Lib.hid hh
  clear hh
  have B0 := Lib.hid (show Blk w o 90 _ from h.head)
  have C0 := Lib.hid h.cap
  have NE := Lib.hid h.ne
  have X0 := Lib.hid (Ex.refl (fun q => q = o) w)
  have SZ := Lib.hid (show o < w.heap.size from Blk.lt h.head)
  unfold aCs at B0
  have ORD := Lib.hid (show b ≠ o from h.ne)
  clear h 
  have Bq0 := (B0.out).cell 0
  simp only [List.getElem?_toArray, List.getElem?_cons_succ, List.getElem?_cons_zero] at Bq0
  clear Bq0
  have HT := Lib.hid ht
  have HZ := Lib.hid hz
  clear ht hz ORD
  have ORD := Lib.hid (show b ≠ o ∧ 0 < o from ⟨NE.out, HZ.out⟩)
  have HU := Lib.hid (Unpack_any v hv)
  have HSO := Lib.hid (unS_ok hv)
  unfold St.val at HU
  clear hv
  go_enter Tryd.func33, Tryd.ntmps33
  go_wp2_with fail
  refine (HU.out _).mono ?_; rintro e w1 ⟨rfl, hb⟩
  clear HU
  have SZ1 := Lib.hid (Nat.lt_of_lt_of_le SZ.out hb.size)
  have ee : Ex (fun _ => False) w w1 := Ex.of_below hb
  have B_1 := Lib.hid (B0.out.ex ee (fun h => h))
  have C_1 := Lib.hid (C0.out.ex ee (fun h => h))
  have X_1 := Lib.hid (X0.out.ex ee (fun b_ h_ => h_.elim))
  have T_1 := Lib.hid (HT.out.ex ee (fun h => h))
  clear ee B0 C0 X0 HT hb
  go_upto_region 2 with fail
  have ee : Ex (fun _ => False) w1 (w1.alloc (.cells #[.int .i64 (unS v).mode, .int .i64 (unS v).source, .bool (unS v).hold, .int .i64 (unS v).flags, .int .u64 (unS v).epoch] 34)) := (Ex.refl _ w1).alloc _
  have B_2 := Lib.hid (B_1.out.ex ee (fun h => h))
  have C_2 := Lib.hid (C_1.out.ex ee (fun h => h))
  have X_2 := Lib.hid (X_1.out.ex ee (fun b_ h_ => h_.elim))
  have T_2 := Lib.hid (T_1.out.ex ee (fun h => h))
  have S_2 := Lib.hid (Blk.new w1 34 #[.int .i64 (unS v).mode, .int .i64 (unS v).source, .bool (unS v).hold, .int .i64 (unS v).flags, .int .u64 (unS v).epoch])
  clear ee B_1 C_1 X_1 T_1
  have ORD2 := Lib.hid (show b ≠ o ∧ 0 < o ∧ o < w1.heap.size ∧ w1.heap.size < (w1.alloc (.cells #[.int .i64 (unS v).mode, .int .i64 (unS v).source, .bool (unS v).hold, .int .i64 (unS v).flags, .int .u64 (unS v).epoch] 34)).heap.size from ⟨ORD.out.1, ORD.out.2, SZ1.out, by simp⟩)
  generalize (w1.alloc (.cells #[.int .i64 (unS v).mode, .int .i64 (unS v).source, .bool (unS v).hold, .int .i64 (unS v).flags, .int .u64 (unS v).epoch] 34)) = w2 at *
  generalize w1.heap.size = sb at *
  clear ORD SZ SZ1 HZ NE
  have HQ := Lib.hid hq
  have kd : (unE v != 0) = false := by rw [hq]; rfl
  clear hq kd
  have Bq0 := (B_2.out).cell 0
  have Bq2 := (B_2.out).cell 2
  simp only [List.getElem?_toArray, List.getElem?_cons_succ, List.getElem?_cons_zero] at Bq0 Bq2
  unfold fnV at Bq2
  simp only at Bq2
  have eqf : ∀ w f a c, (Go.binOp .eql 88 (.func f a c) .nilFunc).run Tryd.prog w = .ok (.bool false) w := fun w f a c => Modes.run_eql_func_nil w f a c Tryd.underlying88
  go_upto_region 4 with fail
  clear Bq0 Bq2
  have HK := Lib.hid hk
  clear hk
  obtain ⟨ns, hns⟩ : ∃ ns, Kd.S (.req a) (unS v) = ns := ⟨_, rfl⟩
  obtain ⟨ne, hne⟩ : ∃ ne, Kd.E (.req a) (unS v) = ne := ⟨_, rfl⟩
  have HNS := Lib.hid hns
  have HNE := Lib.hid hne
  have HD := Lib.hid (fun W (hc : CapAt W (.req a) b) (ht : Tab W) => dec_any (.req a) rfl HK.out (unS v) HSO.out b W hc ht)
  unfold St.val at HD
  simp only [hns, hne] at HD
  clear hns hne
  go_cut [6, 7] from 26 to 34 (fun s6 s7 wx => ∃ tb, s7 = .pointer (some ⟨tb, 0, none⟩) ∧ s6 = .int .i64 ne ∧ Blk wx tb 34 #[.int .i64 ns.mode, .int .i64 ns.source, .bool ns.hold, .int .i64 ns.flags, .int .u64 ns.epoch] ∧ w2.heap.size ≤ tb ∧ Below w2.heap.size w2 wx)
  case first =>
    have hne : Nonempty (Held (Below w2.heap.size w2)) := ⟨⟨w2, Below.refl _ _⟩⟩
    have p0 : ∀ y : Held (Below w2.heap.size w2), y.w.cell? ⟨o, 0, none⟩ = some (.int .i64 at_) := fun y => (B_2.out.bl y.ok).cell 0
    have p2 : ∀ y : Held (Below w2.heap.size w2), y.w.cell? ⟨o, 2, none⟩ = some (.func (.func 57) #[] #[.pointer (some ⟨b, 0, none⟩)]) := fun y => (B_2.out.bl y.ok).cell 2
    have s0 : ∀ y : Held (Below w2.heap.size w2), y.w.cell? ⟨sb, 0, none⟩ = some (.int .i64 (unS v).mode) := fun y => (S_2.out.bl y.ok).cell 0
    have s1 : ∀ y : Held (Below w2.heap.size w2), y.w.cell? ⟨sb, 1, none⟩ = some (.int .i64 (unS v).source) := fun y => (S_2.out.bl y.ok).cell 1
    have s2 : ∀ y : Held (Below w2.heap.size w2), y.w.cell? ⟨sb, 2, none⟩ = some (.bool (unS v).hold) := fun y => (S_2.out.bl y.ok).cell 2
    have s3 : ∀ y : Held (Below w2.heap.size w2), y.w.cell? ⟨sb, 3, none⟩ = some (.int .i64 (unS v).flags) := fun y => (S_2.out.bl y.ok).cell 3
    have s4 : ∀ y : Held (Below w2.heap.size w2), y.w.cell? ⟨sb, 4, none⟩ = some (.int .u64 (unS v).epoch) := fun y => (S_2.out.bl y.ok).cell 4
    refine drawn_sch (S := (Below w2.heap.size w2)) [] (.two [0, 1, 2, 3, 4] 5 (.bar [6, 7, 8] 9 (.bar [] 10 (.fin [11]))) 9 (.bar [] 5 (.bar [6, 7, 8] 10 (.fin [11])))) (by kernel_rfl) (by kernel_rfl) (by kernel_rfl) rfl (Below.refl _ _).drew ?_
    refine PhasedC.two_ ?_
    simp only [pick, List.map_cons, List.map_nil, List.getElem?_cons_zero, List.getElem?_cons_succ, Option.getD_some]
    repeat (go_big_quiet_step (fail))
    refine wpQuiet_nil ?_
    clear p0 p2 s0 s1 s2 s3 s4
    refine ⟨?_, ?_⟩
    · skip
      go_wp2_with fail
      refine (HD.out w2.drew (C_2.out.ex (T := fun _ => False) (Ex.refl _ w2).drew (fun h => h)) (T_2.out.ex (T := fun _ => False) (Ex.refl _ w2).drew (fun h => h))).mono ?_; rintro e w3 ⟨rfl, hb⟩
      have hb2 := bl (Below.refl w2.heap.size w2).drew hb
      go_wp2_with fail
      refine behind_normal ⟨(Below w2.heap.size w2), fun W h => h, by first | exact hb2 | exact fun _ => hb2, ?_⟩
      refine PhasedC.bar_ ?_
      simp only [pick, List.map_cons, List.map_nil, List.getElem?_cons_zero, List.getElem?_cons_succ, Option.getD_some]
      repeat (go_big_quiet_step (fail))
      refine wpQuiet_nil ?_
      go_wp2_with fail
      have LB := Lib.hid (hb2.alloc hb2.size (.cells #[.int .i64 0, .int .i64 0, .bool false, .int .i64 0, .int .u64 0] 34))
      have BT := Lib.hid (Blk.new w3 34 #[.int .i64 0, .int .i64 0, .bool false, .int .i64 0, .int .u64 0])
      have BS := Lib.hid hb2.size
      refine behind_normal ⟨(Below w2.heap.size w2), fun W h => h, by first | exact LB.out | exact fun _ => LB.out, ?_⟩
      refine PhasedC.bar_ ?_
      simp only [pick, List.map_cons, List.map_nil, List.getElem?_cons_zero, List.getElem?_cons_succ, Option.getD_some]
      repeat (go_big_quiet_step (fail))
      refine wpQuiet_nil ?_
      generalize hw4 : w3.alloc (.cells #[.int .i64 0, .int .i64 0, .bool false, .int .i64 0, .int .u64 0] 34) = w4 at *
      generalize w3.heap.size = tb at *
      clear hw4
      have z0 := BT.out.cell 0
      have f0 := BT.out.frozen 0
      have z1 := BT.out.cell 1
      have f1 := BT.out.frozen 1
      have z2 := BT.out.cell 2
      have f2 := BT.out.frozen 2
      have z3 := BT.out.cell 3
      have f3 := BT.out.frozen 3
      have z4 := BT.out.cell 4
      have f4 := BT.out.frozen 4
      simp only [List.getElem?_toArray, List.getElem?_cons_succ, List.getElem?_cons_zero] at z0 z1 z2 z3 z4
      go_wp2_with fail
      have hb9 := set5_blk (x0 := .int .i64 ns.mode) (x1 := .int .i64 ns.source) (x2 := .bool ns.hold) (x3 := .int .i64 ns.flags) (x4 := .int .u64 ns.epoch) BT.out
      have LB2 := Lib.hid (set5_below (x0 := .int .i64 ns.mode) (x1 := .int .i64 ns.source) (x2 := .bool ns.hold) (x3 := .int .i64 ns.flags) (x4 := .int .u64 ns.epoch) LB.out BS.out)
      refine behind_normal ⟨(Below w2.heap.size w2), fun W h => h, by first | exact LB2.out | exact fun _ => LB2.out, ?_⟩
      refine PhasedC.fin_ ?_
      simp only [pick, List.map_cons, List.map_nil, List.getElem?_cons_zero, List.getElem?_cons_succ, Option.getD_some]
      repeat (go_big_quiet_step (fail))
      refine wpQuiet_nil ?_
      go_wp2_with fail
      go_meet
      exact ⟨tb, rfl, rfl, hb9, BS.out, LB2.out⟩
    · skip
      go_wp2_with fail
      have LB0 := Lib.hid (((Below.refl w2.heap.size w2).alloc (Nat.le_refl _) (.cells #[.int .i64 0, .int .i64 0, .bool false, .int .i64 0, .int .u64 0] 34)).drew)
      have BT0 := Lib.hid (show Blk (w2.alloc (.cells #[.int .i64 0, .int .i64 0, .bool false, .int .i64 0, .int .u64 0] 34)).drew w2.heap.size 34 #[.int .i64 0, .int .i64 0, .bool false, .int .i64 0, .int .u64 0] from (Blk.new w2 34 #[.int .i64 0, .int .i64 0, .bool false, .int .i64 0, .int .u64 0]).drew)
      refine behind_normal ⟨(Below w2.heap.size w2), fun W h => h, by first | exact LB0.out | exact fun _ => LB0.out, ?_⟩
      refine PhasedC.bar_ ?_
      simp only [pick, List.map_cons, List.map_nil, List.getElem?_cons_zero, List.getElem?_cons_succ, Option.getD_some]
      repeat (go_big_quiet_step (fail))
      refine wpQuiet_nil ?_
      have CC := Lib.hid (C_2.out.ex (T := fun _ => False) (Ex.of_below LB0.out) (fun h => h))
      have TT := Lib.hid (T_2.out.ex (T := fun _ => False) (Ex.of_below LB0.out) (fun h => h))
      generalize hw3 : (w2.alloc (.cells #[.int .i64 0, .int .i64 0, .bool false, .int .i64 0, .int .u64 0] 34)).drew = w3 at *
      clear hw3
      go_wp2_with fail
      refine (HD.out w3 CC.out TT.out).mono ?_; rintro e w4 ⟨rfl, hb⟩
      have LB := Lib.hid (bl LB0.out hb)
      have BT := Lib.hid (BT0.out.bl hb)
      clear hb
      go_wp2_with fail
      refine behind_normal ⟨(Below w2.heap.size w2), fun W h => h, by first | exact LB.out | exact fun _ => LB.out, ?_⟩
      refine PhasedC.bar_ ?_
      simp only [pick, List.map_cons, List.map_nil, List.getElem?_cons_zero, List.getElem?_cons_succ, Option.getD_some]
      repeat (go_big_quiet_step (fail))
      refine wpQuiet_nil ?_
      have z0 := BT.out.cell 0
      have f0 := BT.out.frozen 0
      have z1 := BT.out.cell 1
      have f1 := BT.out.frozen 1
      have z2 := BT.out.cell 2
      have f2 := BT.out.frozen 2
      have z3 := BT.out.cell 3
      have f3 := BT.out.frozen 3
      have z4 := BT.out.cell 4
      have f4 := BT.out.frozen 4
      simp only [List.getElem?_toArray, List.getElem?_cons_succ, List.getElem?_cons_zero] at z0 z1 z2 z3 z4
      go_wp2_with fail
      have BS := Lib.hid (show w2.heap.size ≤ w2.heap.size from Nat.le_refl _)
      have hb9 := set5_blk (x0 := .int .i64 ns.mode) (x1 := .int .i64 ns.source) (x2 := .bool ns.hold) (x3 := .int .i64 ns.flags) (x4 := .int .u64 ns.epoch) BT.out
      have LB2 := Lib.hid (set5_below (x0 := .int .i64 ns.mode) (x1 := .int .i64 ns.source) (x2 := .bool ns.hold) (x3 := .int .i64 ns.flags) (x4 := .int .u64 ns.epoch) LB.out BS.out)
      refine behind_normal ⟨(Below w2.heap.size w2), fun W h => h, by first | exact LB2.out | exact fun _ => LB2.out, ?_⟩
      refine PhasedC.fin_ ?_
      simp only [pick, List.map_cons, List.map_nil, List.getElem?_cons_zero, List.getElem?_cons_succ, Option.getD_some]
      repeat (go_big_quiet_step (fail))
      refine wpQuiet_nil ?_
      go_wp2_with fail
      go_meet
      exact ⟨_, rfl, rfl, hb9, BS.out, LB2.out⟩
  case rest =>
    obtain ⟨tb, rfl, rfl, hbt, htb, hbl⟩ := hcut
    have HTB := Lib.hid htb
    obtain ⟨w3, rfl⟩ : ∃ W : World, W = wc := ⟨_, rfl⟩
    have ORD3 := Lib.hid (show b ≠ o ∧ 0 < o ∧ o < sb ∧ sb < tb from ⟨ORD2.out.1, ORD2.out.2.1, ORD2.out.2.2.1, Nat.lt_of_lt_of_le ORD2.out.2.2.2 htb⟩)
    clear htb
    have ee : Ex (fun _ => False) w2 w3 := Ex.of_below hbl
    have B_3 := Lib.hid (B_2.out.ex ee (fun h => h))
    have C_3 := Lib.hid (C_2.out.ex ee (fun h => h))
    have X_3 := Lib.hid (X_2.out.ex ee (fun b_ h_ => h_.elim))
    have T_3 := Lib.hid (T_2.out.ex ee (fun h => h))
    have S_3 := Lib.hid (S_2.out.ex ee (fun h => h))
    have N_3 := Lib.hid (hbt)
    clear ee B_2 C_2 X_2 T_2 S_2 hbl hbt HD HTB
    by_cases h9 : ne = 0
    · skip
      have kd2 : (ne != 0) = false := by rw [h9]; rfl
      have H9 := Lib.hid h9
      clear h9
      go_upto_region 7 with fail
      have hne : Nonempty (Held (fun W : World => W.cell? ⟨o, 0, none⟩ = some (.int .i64 at_) ∧ Blk W tb 34 #[.int .i64 ns.mode, .int .i64 ns.source, .bool ns.hold, .int .i64 ns.flags, .int .u64 ns.epoch])) := ⟨⟨w3, B_3.out.cell 0, N_3.out⟩⟩
      have p0 : ∀ y : Held (fun W : World => W.cell? ⟨o, 0, none⟩ = some (.int .i64 at_) ∧ Blk W tb 34 #[.int .i64 ns.mode, .int .i64 ns.source, .bool ns.hold, .int .i64 ns.flags, .int .u64 ns.epoch]), y.w.cell? ⟨o, 0, none⟩ = some (.int .i64 at_) := fun y => y.ok.1
      have s0 : ∀ y : Held (fun W : World => W.cell? ⟨o, 0, none⟩ = some (.int .i64 at_) ∧ Blk W tb 34 #[.int .i64 ns.mode, .int .i64 ns.source, .bool ns.hold, .int .i64 ns.flags, .int .u64 ns.epoch]), y.w.cell? ⟨tb, 0, none⟩ = some (.int .i64 ns.mode) := fun y => y.ok.2.cell 0
      have s1 : ∀ y : Held (fun W : World => W.cell? ⟨o, 0, none⟩ = some (.int .i64 at_) ∧ Blk W tb 34 #[.int .i64 ns.mode, .int .i64 ns.source, .bool ns.hold, .int .i64 ns.flags, .int .u64 ns.epoch]), y.w.cell? ⟨tb, 1, none⟩ = some (.int .i64 ns.source) := fun y => y.ok.2.cell 1
      have s2 : ∀ y : Held (fun W : World => W.cell? ⟨o, 0, none⟩ = some (.int .i64 at_) ∧ Blk W tb 34 #[.int .i64 ns.mode, .int .i64 ns.source, .bool ns.hold, .int .i64 ns.flags, .int .u64 ns.epoch]), y.w.cell? ⟨tb, 2, none⟩ = some (.bool ns.hold) := fun y => y.ok.2.cell 2
      have s3 : ∀ y : Held (fun W : World => W.cell? ⟨o, 0, none⟩ = some (.int .i64 at_) ∧ Blk W tb 34 #[.int .i64 ns.mode, .int .i64 ns.source, .bool ns.hold, .int .i64 ns.flags, .int .u64 ns.epoch]), y.w.cell? ⟨tb, 3, none⟩ = some (.int .i64 ns.flags) := fun y => y.ok.2.cell 3
      have s4 : ∀ y : Held (fun W : World => W.cell? ⟨o, 0, none⟩ = some (.int .i64 at_) ∧ Blk W tb 34 #[.int .i64 ns.mode, .int .i64 ns.source, .bool ns.hold, .int .i64 ns.flags, .int .u64 ns.epoch]), y.w.cell? ⟨tb, 4, none⟩ = some (.int .u64 ns.epoch) := fun y => y.ok.2.cell 4
      refine drawn_bars (S := (fun W : World => W.cell? ⟨o, 0, none⟩ = some (.int .i64 at_) ∧ Blk W tb 34 #[.int .i64 ns.mode, .int .i64 ns.source, .bool ns.hold, .int .i64 ns.flags, .int .u64 ns.epoch])) [([0, 1, 2, 3, 4, 5, 6], 7), ([8, 9], 10), ([11, 12], 13)] [] (by kernel_rfl) (by kernel_rfl) (by kernel_rfl) rfl ⟨B_3.out.cell 0, N_3.out⟩ ?_
      refine Phased.go ?_
      simp only [pick, List.map_cons, List.map_nil, List.getElem?_cons_zero, List.getElem?_cons_succ, Option.getD_some]
      repeat (go_big_quiet_step (fail))
      refine wpQuiet_nil ?_
      have ee : Ex (fun _ => False) w3 w3.drew := (Ex.refl _ w3).drew
      have B_4 := Lib.hid (B_3.out.ex ee (fun h => h))
      have C_4 := Lib.hid (C_3.out.ex ee (fun h => h))
      have X_4 := Lib.hid (X_3.out.ex ee (fun b_ h_ => h_.elim))
      have T_4 := Lib.hid (T_3.out.ex ee (fun h => h))
      have S_4 := Lib.hid (S_3.out.ex ee (fun h => h))
      have N_4 := Lib.hid (N_3.out.ex ee (fun h => h))
      clear ee B_3 C_3 X_3 T_3 S_3 N_3
      generalize w3.drew = w4 at *
      have Bq4 := (B_4.out).cell 4
      simp only [List.getElem?_toArray, List.getElem?_cons_succ, List.getElem?_cons_zero] at Bq4
      have Bf4 := (B_4.out).frozen 4
      go_wp2_with fail
      clear Bq4 Bf4
      have bb := (B_4.out.set_ 4 (.int .u64 v))
      simp only [List.setIfInBounds_toArray, List.set_cons_succ, List.set_cons_zero] at bb
      have BB := Lib.hid bb
      clear bb
      have ee : Ex (fun k => k = o) w4 (w4.setCell ⟨o, 4, none⟩ (.int .u64 v)) := ((Ex.refl (fun q => q = o) w4).setCell (q := ⟨o, 4, none⟩) (.inl rfl) (.int .u64 v))
      have C_5 := Lib.hid (C_4.out.ex ee (by have o_ := ORD3.out; omega))
      have X_5 := Lib.hid (X_4.out.ex ee (fun b_ h_ => h_))
      have T_5 := Lib.hid (T_4.out.ex ee (by have o_ := ORD3.out; omega))
      have S_5 := Lib.hid (S_4.out.ex ee (by have o_ := ORD3.out; omega))
      have N_5 := Lib.hid (N_4.out.ex ee (by have o_ := ORD3.out; omega))
      have B_5 := Lib.hid (BB.out)
      clear ee B_4 C_4 X_4 T_4 S_4 N_4 BB
      generalize (w4.setCell ⟨o, 4, none⟩ (.int .u64 v)) = w5 at *
      refine behind_normal ⟨(fun W : World => W.cell? ⟨o, 0, none⟩ = some (.int .i64 at_) ∧ Blk W tb 34 #[.int .i64 ns.mode, .int .i64 ns.source, .bool ns.hold, .int .i64 ns.flags, .int .u64 ns.epoch]), fun W h => h, ⟨B_5.out.cell 0, N_5.out⟩, ?_⟩
      refine Phased.go ?_
      simp only [pick, List.map_cons, List.map_nil, List.getElem?_cons_zero, List.getElem?_cons_succ, Option.getD_some]
      repeat (go_big_quiet_step (fail))
      refine wpQuiet_nil ?_
      have Bq5 := (B_5.out).cell 5
      have Bq6 := (B_5.out).cell 6
      have Bq7 := (B_5.out).cell 7
      have Bq8 := (B_5.out).cell 8
      have Bq9 := (B_5.out).cell 9
      simp only [List.getElem?_toArray, List.getElem?_cons_succ, List.getElem?_cons_zero] at Bq5 Bq6 Bq7 Bq8 Bq9
      have Bf5 := (B_5.out).frozen 5
      have Bf6 := (B_5.out).frozen 6
      have Bf7 := (B_5.out).frozen 7
      have Bf8 := (B_5.out).frozen 8
      have Bf9 := (B_5.out).frozen 9
      go_wp2_with fail
      clear Bq5 Bq6 Bq7 Bq8 Bq9 Bf5 Bf6 Bf7 Bf8 Bf9
      have bb := (((((B_5.out.set_ 5 (.int .i64 ns.mode)).set_ 6 (.int .i64 ns.source)).set_ 7 (.bool ns.hold)).set_ 8 (.int .i64 ns.flags)).set_ 9 (.int .u64 ns.epoch))
      simp only [List.setIfInBounds_toArray, List.set_cons_succ, List.set_cons_zero] at bb
      have BB := Lib.hid bb
      clear bb
      have ee : Ex (fun k => k = o) w5 (((((w5.setCell ⟨o, 5, none⟩ (.int .i64 ns.mode)).setCell ⟨o, 6, none⟩ (.int .i64 ns.source)).setCell ⟨o, 7, none⟩ (.bool ns.hold)).setCell ⟨o, 8, none⟩ (.int .i64 ns.flags)).setCell ⟨o, 9, none⟩ (.int .u64 ns.epoch)) := ((((((Ex.refl (fun q => q = o) w5).setCell (q := ⟨o, 5, none⟩) (.inl rfl) (.int .i64 ns.mode)).setCell (q := ⟨o, 6, none⟩) (.inl rfl) (.int .i64 ns.source)).setCell (q := ⟨o, 7, none⟩) (.inl rfl) (.bool ns.hold)).setCell (q := ⟨o, 8, none⟩) (.inl rfl) (.int .i64 ns.flags)).setCell (q := ⟨o, 9, none⟩) (.inl rfl) (.int .u64 ns.epoch))
      have C_6 := Lib.hid (C_5.out.ex ee (by have o_ := ORD3.out; omega))
      have X_6 := Lib.hid (X_5.out.ex ee (fun b_ h_ => h_))
      have T_6 := Lib.hid (T_5.out.ex ee (by have o_ := ORD3.out; omega))
      have S_6 := Lib.hid (S_5.out.ex ee (by have o_ := ORD3.out; omega))
      have N_6 := Lib.hid (N_5.out.ex ee (by have o_ := ORD3.out; omega))
      have B_6 := Lib.hid (BB.out)
      clear ee B_5 C_5 X_5 T_5 S_5 N_5 BB
      generalize (((((w5.setCell ⟨o, 5, none⟩ (.int .i64 ns.mode)).setCell ⟨o, 6, none⟩ (.int .i64 ns.source)).setCell ⟨o, 7, none⟩ (.bool ns.hold)).setCell ⟨o, 8, none⟩ (.int .i64 ns.flags)).setCell ⟨o, 9, none⟩ (.int .u64 ns.epoch)) = w6 at *
      refine behind_normal ⟨(fun W : World => W.cell? ⟨o, 0, none⟩ = some (.int .i64 at_) ∧ Blk W tb 34 #[.int .i64 ns.mode, .int .i64 ns.source, .bool ns.hold, .int .i64 ns.flags, .int .u64 ns.epoch]), fun W h => h, ⟨B_6.out.cell 0, N_6.out⟩, ?_⟩
      refine Phased.go ?_
      simp only [pick, List.map_cons, List.map_nil, List.getElem?_cons_zero, List.getElem?_cons_succ, Option.getD_some]
      repeat (go_big_quiet_step (fail))
      refine wpQuiet_nil ?_
      have Bq3 := (B_6.out).cell 3
      simp only [List.getElem?_toArray, List.getElem?_cons_succ, List.getElem?_cons_zero] at Bq3
      have Bf3 := (B_6.out).frozen 3
      go_wp2_with fail
      clear Bq3 Bf3
      have bb := (B_6.out.set_ 3 (.bool true))
      simp only [List.setIfInBounds_toArray, List.set_cons_succ, List.set_cons_zero] at bb
      have BB := Lib.hid bb
      clear bb
      have ee : Ex (fun k => k = o) w6 (w6.setCell ⟨o, 3, none⟩ (.bool true)) := ((Ex.refl (fun q => q = o) w6).setCell (q := ⟨o, 3, none⟩) (.inl rfl) (.bool true))
      have C_7 := Lib.hid (C_6.out.ex ee (by have o_ := ORD3.out; omega))
      have X_7 := Lib.hid (X_6.out.ex ee (fun b_ h_ => h_))
      have T_7 := Lib.hid (T_6.out.ex ee (by have o_ := ORD3.out; omega))
      have S_7 := Lib.hid (S_6.out.ex ee (by have o_ := ORD3.out; omega))
      have N_7 := Lib.hid (N_6.out.ex ee (by have o_ := ORD3.out; omega))
      have B_7 := Lib.hid (BB.out)
      clear ee B_6 C_6 X_6 T_6 S_6 N_6 BB
      generalize (w6.setCell ⟨o, 3, none⟩ (.bool true)) = w7 at *
      refine behind_normal ⟨(fun W : World => W.cell? ⟨o, 0, none⟩ = some (.int .i64 at_) ∧ Blk W tb 34 #[.int .i64 ns.mode, .int .i64 ns.source, .bool ns.hold, .int .i64 ns.flags, .int .u64 ns.epoch]), fun W h => h, ⟨B_7.out.cell 0, N_7.out⟩, ?_⟩
      refine Phased.end_ ?_
      simp only [pick, List.map_cons, List.map_nil, List.getElem?_cons_zero, List.getElem?_cons_succ, Option.getD_some]
      repeat (go_big_quiet_step (fail))
      refine wpQuiet_nil ?_
      clear hne p0 s0 s1 s2 s3 s4
      go_wp2_with fail
      go_ret
      have hA : aFound (.req a) v x = ⟨x.how, true, v, ns, x.st, x.err, x.left, x.steps⟩ := by unfold aFound; rw [if_neg (by rw [HQ.out]; simp), if_neg (by simp [Kd.isRead]), HNE.out, if_neg (by rw [H9.out]; simp), HNS.out]
      rw [hA]
      exact ⟨by rw [HH.out]; rfl, ⟨B_7.out, C_7.out, ORD3.out.1⟩, X_7.out⟩
    · skip
      have kd2 : (ne != 0) = true := by simpa using h9
      have H9 := Lib.hid h9
      clear h9
      have HE := Lib.hid (fun W (h : ArbAt W o b (.req a) at_ x) => Aend_any o b (.req a) at_ x 1 (unS v) (ne) W h)
      unfold St.val at HE
      have Sq0 := (S_3.out).cell 0
      have Sq1 := (S_3.out).cell 1
      have Sq2 := (S_3.out).cell 2
      have Sq3 := (S_3.out).cell 3
      have Sq4 := (S_3.out).cell 4
      simp only [List.getElem?_toArray, List.getElem?_cons_succ, List.getElem?_cons_zero] at Sq0 Sq1 Sq2 Sq3 Sq4
      go_wp2_with fail
      refine (HE.out _ ⟨B_3.out, C_3.out, ORD2.out.1⟩).mono ?_; rintro e w9 ⟨rfl, ha, hx⟩
      go_wp2_with fail
      go_ret
      refine ⟨?_, ?_, X_3.out.trans hx⟩
      · rw [show aFound (.req a) v x = ⟨1, x.swaps, x.word, x.next, unS v, ne, x.left, x.steps⟩ by unfold aFound; rw [if_neg (by rw [HQ.out]; simp), if_neg (by simp [Kd.isRead]), HNE.out, if_pos H9.out]]; rfl
      · rw [show aFound (.req a) v x = ⟨1, x.swaps, x.word, x.next, unS v, ne, x.left, x.steps⟩ by unfold aFound; rw [if_neg (by rw [HQ.out]; simp), if_neg (by simp [Kd.isRead]), HNE.out, if_pos H9.out]]; exact ha
set_option maxRecDepth 100000 in
set_option maxHeartbeats 1000000 in
theorem found_tell (o b : Nat) (f : Int) (at_ : Int) (x : AX) (v : Int) (w : World) (h : ArbAt w o b (.tell f) at_ x) (hh : x.how = 0) (hk : Kd.Ok (.tell f)) (hv : 0 ≤ v ∧ v ≤ 18446744073709551615) (ht : Tab w) (hz : 0 < o) (hq : unE v = 0) :
    Calls Tryd.prog 33 #[.pointer (some ⟨o, 0, none⟩), .int .u64 v] w fun e w' => e = .returned (.int .i64 (aFound (.tell f) v x).how) ∧ ArbAt w' o b (.tell f) at_ (aFound (.tell f) v x) ∧ Ex (fun q => q = o) w w' := by
  have HH := Lib.hid hh
  clear hh
  have B0 := Lib.hid (show Blk w o 90 _ from h.head)
  have C0 := Lib.hid h.cap
  have NE := Lib.hid h.ne
  have X0 := Lib.hid (Ex.refl (fun q => q = o) w)
  have SZ := Lib.hid (show o < w.heap.size from Blk.lt h.head)
  unfold aCs at B0
  have ORD := Lib.hid (show b ≠ o from h.ne)
  clear h 
  have Bq0 := (B0.out).cell 0
  simp only [List.getElem?_toArray, List.getElem?_cons_succ, List.getElem?_cons_zero] at Bq0
  clear Bq0
  have HT := Lib.hid ht
  have HZ := Lib.hid hz
  clear ht hz ORD
  have ORD := Lib.hid (show b ≠ o ∧ 0 < o from ⟨NE.out, HZ.out⟩)
  have HU := Lib.hid (Unpack_any v hv)
  have HSO := Lib.hid (unS_ok hv)
  unfold St.val at HU
  clear hv
  go_enter Tryd.func33, Tryd.ntmps33
  go_wp2_with fail
  refine (HU.out _).mono ?_; rintro e w1 ⟨rfl, hb⟩
  clear HU
  have SZ1 := Lib.hid (Nat.lt_of_lt_of_le SZ.out hb.size)
  have ee : Ex (fun _ => False) w w1 := Ex.of_below hb
  have B_1 := Lib.hid (B0.out.ex ee (fun h => h))
  have C_1 := Lib.hid (C0.out.ex ee (fun h => h))
  have X_1 := Lib.hid (X0.out.ex ee (fun b_ h_ => h_.elim))
  have T_1 := Lib.hid (HT.out.ex ee (fun h => h))
  clear ee B0 C0 X0 HT hb
  go_upto_region 2 with fail
  have ee : Ex (fun _ => False) w1 (w1.alloc (.cells #[.int .i64 (unS v).mode, .int .i64 (unS v).source, .bool (unS v).hold, .int .i64 (unS v).flags, .int .u64 (unS v).epoch] 34)) := (Ex.refl _ w1).alloc _
  have B_2 := Lib.hid (B_1.out.ex ee (fun h => h))
  have C_2 := Lib.hid (C_1.out.ex ee (fun h => h))
  have X_2 := Lib.hid (X_1.out.ex ee (fun b_ h_ => h_.elim))
  have T_2 := Lib.hid (T_1.out.ex ee (fun h => h))
  have S_2 := Lib.hid (Blk.new w1 34 #[.int .i64 (unS v).mode, .int .i64 (unS v).source, .bool (unS v).hold, .int .i64 (unS v).flags, .int .u64 (unS v).epoch])
  clear ee B_1 C_1 X_1 T_1
  have ORD2 := Lib.hid (show b ≠ o ∧ 0 < o ∧ o < w1.heap.size ∧ w1.heap.size < (w1.alloc (.cells #[.int .i64 (unS v).mode, .int .i64 (unS v).source, .bool (unS v).hold, .int .i64 (unS v).flags, .int .u64 (unS v).epoch] 34)).heap.size from ⟨ORD.out.1, ORD.out.2, SZ1.out, by simp⟩)
  generalize (w1.alloc (.cells #[.int .i64 (unS v).mode, .int .i64 (unS v).source, .bool (unS v).hold, .int .i64 (unS v).flags, .int .u64 (unS v).epoch] 34)) = w2 at *
  generalize w1.heap.size = sb at *
  clear ORD SZ SZ1 HZ NE
  have HQ := Lib.hid hq
  have kd : (unE v != 0) = false := by rw [hq]; rfl
  clear hq kd
  have Bq0 := (B_2.out).cell 0
  have Bq2 := (B_2.out).cell 2
  simp only [List.getElem?_toArray, List.getElem?_cons_succ, List.getElem?_cons_zero] at Bq0 Bq2
  unfold fnV at Bq2
  simp only at Bq2
  have eqf : ∀ w f a c, (Go.binOp .eql 88 (.func f a c) .nilFunc).run Tryd.prog w = .ok (.bool false) w := fun w f a c => Modes.run_eql_func_nil w f a c Tryd.underlying88
  go_upto_region 4 with fail
  clear Bq0 Bq2
  have HK := Lib.hid hk
  clear hk
  obtain ⟨ns, hns⟩ : ∃ ns, Kd.S (.tell f) (unS v) = ns := ⟨_, rfl⟩
  obtain ⟨ne, hne⟩ : ∃ ne, Kd.E (.tell f) (unS v) = ne := ⟨_, rfl⟩
  have HNS := Lib.hid hns
  have HNE := Lib.hid hne
  have HD := Lib.hid (fun W (hc : CapAt W (.tell f) b) (ht : Tab W) => dec_any (.tell f) rfl HK.out (unS v) HSO.out b W hc ht)
  unfold St.val at HD
  simp only [hns, hne] at HD
  clear hns hne
  go_cut [6, 7] from 26 to 34 (fun s6 s7 wx => ∃ tb, s7 = .pointer (some ⟨tb, 0, none⟩) ∧ s6 = .int .i64 ne ∧ Blk wx tb 34 #[.int .i64 ns.mode, .int .i64 ns.source, .bool ns.hold, .int .i64 ns.flags, .int .u64 ns.epoch] ∧ w2.heap.size ≤ tb ∧ Below w2.heap.size w2 wx)
  case first =>
    have hne : Nonempty (Held (Below w2.heap.size w2)) := ⟨⟨w2, Below.refl _ _⟩⟩
    have p0 : ∀ y : Held (Below w2.heap.size w2), y.w.cell? ⟨o, 0, none⟩ = some (.int .i64 at_) := fun y => (B_2.out.bl y.ok).cell 0
    have p2 : ∀ y : Held (Below w2.heap.size w2), y.w.cell? ⟨o, 2, none⟩ = some (.func (.func 31) #[] #[.pointer (some ⟨b, 0, none⟩)]) := fun y => (B_2.out.bl y.ok).cell 2
    have s0 : ∀ y : Held (Below w2.heap.size w2), y.w.cell? ⟨sb, 0, none⟩ = some (.int .i64 (unS v).mode) := fun y => (S_2.out.bl y.ok).cell 0
    have s1 : ∀ y : Held (Below w2.heap.size w2), y.w.cell? ⟨sb, 1, none⟩ = some (.int .i64 (unS v).source) := fun y => (S_2.out.bl y.ok).cell 1
    have s2 : ∀ y : Held (Below w2.heap.size w2), y.w.cell? ⟨sb, 2, none⟩ = some (.bool (unS v).hold) := fun y => (S_2.out.bl y.ok).cell 2
    have s3 : ∀ y : Held (Below w2.heap.size w2), y.w.cell? ⟨sb, 3, none⟩ = some (.int .i64 (unS v).flags) := fun y => (S_2.out.bl y.ok).cell 3
    have s4 : ∀ y : Held (Below w2.heap.size w2), y.w.cell? ⟨sb, 4, none⟩ = some (.int .u64 (unS v).epoch) := fun y => (S_2.out.bl y.ok).cell 4
    refine drawn_sch (S := (Below w2.heap.size w2)) [] (.two [0, 1, 2, 3, 4] 5 (.bar [6, 7, 8] 9 (.bar [] 10 (.fin [11]))) 9 (.bar [] 5 (.bar [6, 7, 8] 10 (.fin [11])))) (by kernel_rfl) (by kernel_rfl) (by kernel_rfl) rfl (Below.refl _ _).drew ?_
    refine PhasedC.two_ ?_
    simp only [pick, List.map_cons, List.map_nil, List.getElem?_cons_zero, List.getElem?_cons_succ, Option.getD_some]
    repeat (go_big_quiet_step (fail))
    refine wpQuiet_nil ?_
    clear p0 p2 s0 s1 s2 s3 s4
    refine ⟨?_, ?_⟩
    · skip
      go_wp2_with fail
      refine (HD.out w2.drew (C_2.out.ex (T := fun _ => False) (Ex.refl _ w2).drew (fun h => h)) (T_2.out.ex (T := fun _ => False) (Ex.refl _ w2).drew (fun h => h))).mono ?_; rintro e w3 ⟨rfl, hb⟩
      have hb2 := bl (Below.refl w2.heap.size w2).drew hb
      go_wp2_with fail
      refine behind_normal ⟨(Below w2.heap.size w2), fun W h => h, by first | exact hb2 | exact fun _ => hb2, ?_⟩
      refine PhasedC.bar_ ?_
      simp only [pick, List.map_cons, List.map_nil, List.getElem?_cons_zero, List.getElem?_cons_succ, Option.getD_some]
      repeat (go_big_quiet_step (fail))
      refine wpQuiet_nil ?_
      go_wp2_with fail
      have LB := Lib.hid (hb2.alloc hb2.size (.cells #[.int .i64 0, .int .i64 0, .bool false, .int .i64 0, .int .u64 0] 34))
      have BT := Lib.hid (Blk.new w3 34 #[.int .i64 0, .int .i64 0, .bool false, .int .i64 0, .int .u64 0])
      have BS := Lib.hid hb2.size
      refine behind_normal ⟨(Below w2.heap.size w2), fun W h => h, by first | exact LB.out | exact fun _ => LB.out, ?_⟩
      refine PhasedC.bar_ ?_
      simp only [pick, List.map_cons, List.map_nil, List.getElem?_cons_zero, List.getElem?_cons_succ, Option.getD_some]
      repeat (go_big_quiet_step (fail))
      refine wpQuiet_nil ?_
      generalize hw4 : w3.alloc (.cells #[.int .i64 0, .int .i64 0, .bool false, .int .i64 0, .int .u64 0] 34) = w4 at *
      generalize w3.heap.size = tb at *
      clear hw4
      have z0 := BT.out.cell 0
      have f0 := BT.out.frozen 0
      have z1 := BT.out.cell 1
      have f1 := BT.out.frozen 1
      have z2 := BT.out.cell 2
      have f2 := BT.out.frozen 2
      have z3 := BT.out.cell 3
      have f3 := BT.out.frozen 3
      have z4 := BT.out.cell 4
      have f4 := BT.out.frozen 4
      simp only [List.getElem?_toArray, List.getElem?_cons_succ, List.getElem?_cons_zero] at z0 z1 z2 z3 z4
      go_wp2_with fail
      have hb9 := set5_blk (x0 := .int .i64 ns.mode) (x1 := .int .i64 ns.source) (x2 := .bool ns.hold) (x3 := .int .i64 ns.flags) (x4 := .int .u64 ns.epoch) BT.out
      have LB2 := Lib.hid (set5_below (x0 := .int .i64 ns.mode) (x1 := .int .i64 ns.source) (x2 := .bool ns.hold) (x3 := .int .i64 ns.flags) (x4 := .int .u64 ns.epoch) LB.out BS.out)
      refine behind_normal ⟨(Below w2.heap.size w2), fun W h => h, by first | exact LB2.out | exact fun _ => LB2.out, ?_⟩
      refine PhasedC.fin_ ?_
      simp only [pick, List.map_cons, List.map_nil, List.getElem?_cons_zero, List.getElem?_cons_succ, Option.getD_some]
      repeat (go_big_quiet_step (fail))
      refine wpQuiet_nil ?_
      go_wp2_with fail
      go_meet
      exact ⟨tb, rfl, rfl, hb9, BS.out, LB2.out⟩
    · skip
      go_wp2_with fail
      have LB0 := Lib.hid (((Below.refl w2.heap.size w2).alloc (Nat.le_refl _) (.cells #[.int .i64 0, .int .i64 0, .bool false, .int .i64 0, .int .u64 0] 34)).drew)
      have BT0 := Lib.hid (show Blk (w2.alloc (.cells #[.int .i64 0, .int .i64 0, .bool false, .int .i64 0, .int .u64 0] 34)).drew w2.heap.size 34 #[.int .i64 0, .int .i64 0, .bool false, .int .i64 0, .int .u64 0] from (Blk.new w2 34 #[.int .i64 0, .int .i64 0, .bool false, .int .i64 0, .int .u64 0]).drew)
      refine behind_normal ⟨(Below w2.heap.size w2), fun W h => h, by first | exact LB0.out | exact fun _ => LB0.out, ?_⟩
      refine PhasedC.bar_ ?_
      simp only [pick, List.map_cons, List.map_nil, List.getElem?_cons_zero, List.getElem?_cons_succ, Option.getD_some]
      repeat (go_big_quiet_step (fail))
      refine wpQuiet_nil ?_
      have CC := Lib.hid (C_2.out.ex (T := fun _ => False) (Ex.of_below LB0.out) (fun h => h))
      have TT := Lib.hid (T_2.out.ex (T := fun _ => False) (Ex.of_below LB0.out) (fun h => h))
      generalize hw3 : (w2.alloc (.cells #[.int .i64 0, .int .i64 0, .bool false, .int .i64 0, .int .u64 0] 34)).drew = w3 at *
      clear hw3
      go_wp2_with fail
      refine (HD.out w3 CC.out TT.out).mono ?_; rintro e w4 ⟨rfl, hb⟩
      have LB := Lib.hid (bl LB0.out hb)
      have BT := Lib.hid (BT0.out.bl hb)
      clear hb
      go_wp2_with fail
      refine behind_normal ⟨(Below w2.heap.size w2), fun W h => h, by first | exact LB.out | exact fun _ => LB.out, ?_⟩
      refine PhasedC.bar_ ?_
      simp only [pick, List.map_cons, List.map_nil, List.getElem?_cons_zero, List.getElem?_cons_succ, Option.getD_some]
      repeat (go_big_quiet_step (fail))
      refine wpQuiet_nil ?_
      have z0 := BT.out.cell 0
      have f0 := BT.out.frozen 0
      have z1 := BT.out.cell 1
      have f1 := BT.out.frozen 1
      have z2 := BT.out.cell 2
      have f2 := BT.out.frozen 2
      have z3 := BT.out.cell 3
      have f3 := BT.out.frozen 3
      have z4 := BT.out.cell 4
      have f4 := BT.out.frozen 4
      simp only [List.getElem?_toArray, List.getElem?_cons_succ, List.getElem?_cons_zero] at z0 z1 z2 z3 z4
      go_wp2_with fail
      have BS := Lib.hid (show w2.heap.size ≤ w2.heap.size from Nat.le_refl _)
      have hb9 := set5_blk (x0 := .int .i64 ns.mode) (x1 := .int .i64 ns.source) (x2 := .bool ns.hold) (x3 := .int .i64 ns.flags) (x4 := .int .u64 ns.epoch) BT.out
      have LB2 := Lib.hid (set5_below (x0 := .int .i64 ns.mode) (x1 := .int .i64 ns.source) (x2 := .bool ns.hold) (x3 := .int .i64 ns.flags) (x4 := .int .u64 ns.epoch) LB.out BS.out)
      refine behind_normal ⟨(Below w2.heap.size w2), fun W h => h, by first | exact LB2.out | exact fun _ => LB2.out, ?_⟩
      refine PhasedC.fin_ ?_
      simp only [pick, List.map_cons, List.map_nil, List.getElem?_cons_zero, List.getElem?_cons_succ, Option.getD_some]
      repeat (go_big_quiet_step (fail))
      refine wpQuiet_nil ?_
      go_wp2_with fail
      go_meet
      exact ⟨_, rfl, rfl, hb9, BS.out, LB2.out⟩
  case rest =>
    obtain ⟨tb, rfl, rfl, hbt, htb, hbl⟩ := hcut
    have HTB := Lib.hid htb
    obtain ⟨w3, rfl⟩ : ∃ W : World, W = wc := ⟨_, rfl⟩
    have ORD3 := Lib.hid (show b ≠ o ∧ 0 < o ∧ o < sb ∧ sb < tb from ⟨ORD2.out.1, ORD2.out.2.1, ORD2.out.2.2.1, Nat.lt_of_lt_of_le ORD2.out.2.2.2 htb⟩)
    clear htb
    have ee : Ex (fun _ => False) w2 w3 := Ex.of_below hbl
    have B_3 := Lib.hid (B_2.out.ex ee (fun h => h))
    have C_3 := Lib.hid (C_2.out.ex ee (fun h => h))
    have X_3 := Lib.hid (X_2.out.ex ee (fun b_ h_ => h_.elim))
    have T_3 := Lib.hid (T_2.out.ex ee (fun h => h))
    have S_3 := Lib.hid (S_2.out.ex ee (fun h => h))
    have N_3 := Lib.hid (hbt)
    clear ee B_2 C_2 X_2 T_2 S_2 hbl hbt HD HTB
    by_cases h9 : ne = 0
    · skip
      have kd2 : (ne != 0) = false := by rw [h9]; rfl
      have H9 := Lib.hid h9
      clear h9
      go_upto_region 7 with fail
      have hne : Nonempty (Held (fun W : World => W.cell? ⟨o, 0, none⟩ = some (.int .i64 at_) ∧ Blk W tb 34 #[.int .i64 ns.mode, .int .i64 ns.source, .bool ns.hold, .int .i64 ns.flags, .int .u64 ns.epoch])) := ⟨⟨w3, B_3.out.cell 0, N_3.out⟩⟩
      have p0 : ∀ y : Held (fun W : World => W.cell? ⟨o, 0, none⟩ = some (.int .i64 at_) ∧ Blk W tb 34 #[.int .i64 ns.mode, .int .i64 ns.source, .bool ns.hold, .int .i64 ns.flags, .int .u64 ns.epoch]), y.w.cell? ⟨o, 0, none⟩ = some (.int .i64 at_) := fun y => y.ok.1
      have s0 : ∀ y : Held (fun W : World => W.cell? ⟨o, 0, none⟩ = some (.int .i64 at_) ∧ Blk W tb 34 #[.int .i64 ns.mode, .int .i64 ns.source, .bool ns.hold, .int .i64 ns.flags, .int .u64 ns.epoch]), y.w.cell? ⟨tb, 0, none⟩ = some (.int .i64 ns.mode) := fun y => y.ok.2.cell 0
      have s1 : ∀ y : Held (fun W : World => W.cell? ⟨o, 0, none⟩ = some (.int .i64 at_) ∧ Blk W tb 34 #[.int .i64 ns.mode, .int .i64 ns.source, .bool ns.hold, .int .i64 ns.flags, .int .u64 ns.epoch]), y.w.cell? ⟨tb, 1, none⟩ = some (.int .i64 ns.source) := fun y => y.ok.2.cell 1
      have s2 : ∀ y : Held (fun W : World => W.cell? ⟨o, 0, none⟩ = some (.int .i64 at_) ∧ Blk W tb 34 #[.int .i64 ns.mode, .int .i64 ns.source, .bool ns.hold, .int .i64 ns.flags, .int .u64 ns.epoch]), y.w.cell? ⟨tb, 2, none⟩ = some (.bool ns.hold) := fun y => y.ok.2.cell 2
      have s3 : ∀ y : Held (fun W : World => W.cell? ⟨o, 0, none⟩ = some (.int .i64 at_) ∧ Blk W tb 34 #[.int .i64 ns.mode, .int .i64 ns.source, .bool ns.hold, .int .i64 ns.flags, .int .u64 ns.epoch]), y.w.cell? ⟨tb, 3, none⟩ = some (.int .i64 ns.flags) := fun y => y.ok.2.cell 3
      have s4 : ∀ y : Held (fun W : World => W.cell? ⟨o, 0, none⟩ = some (.int .i64 at_) ∧ Blk W tb 34 #[.int .i64 ns.mode, .int .i64 ns.source, .bool ns.hold, .int .i64 ns.flags, .int .u64 ns.epoch]), y.w.cell? ⟨tb, 4, none⟩ = some (.int .u64 ns.epoch) := fun y => y.ok.2.cell 4
      refine drawn_bars (S := (fun W : World => W.cell? ⟨o, 0, none⟩ = some (.int .i64 at_) ∧ Blk W tb 34 #[.int .i64 ns.mode, .int .i64 ns.source, .bool ns.hold, .int .i64 ns.flags, .int .u64 ns.epoch])) [([0, 1, 2, 3, 4, 5, 6], 7), ([8, 9], 10), ([11, 12], 13)] [] (by kernel_rfl) (by kernel_rfl) (by kernel_rfl) rfl ⟨B_3.out.cell 0, N_3.out⟩ ?_
      refine Phased.go ?_
      simp only [pick, List.map_cons, List.map_nil, List.getElem?_cons_zero, List.getElem?_cons_succ, Option.getD_some]
      repeat (go_big_quiet_step (fail))
      refine wpQuiet_nil ?_
      have ee : Ex (fun _ => False) w3 w3.drew := (Ex.refl _ w3).drew
      have B_4 := Lib.hid (B_3.out.ex ee (fun h => h))
      have C_4 := Lib.hid (C_3.out.ex ee (fun h => h))
      have X_4 := Lib.hid (X_3.out.ex ee (fun b_ h_ => h_.elim))
      have T_4 := Lib.hid (T_3.out.ex ee (fun h => h))
      have S_4 := Lib.hid (S_3.out.ex ee (fun h => h))
      have N_4 := Lib.hid (N_3.out.ex ee (fun h => h))
      clear ee B_3 C_3 X_3 T_3 S_3 N_3
      generalize w3.drew = w4 at *
      have Bq4 := (B_4.out).cell 4
      simp only [List.getElem?_toArray, List.getElem?_cons_succ, List.getElem?_cons_zero] at Bq4
      have Bf4 := (B_4.out).frozen 4
      go_wp2_with fail
      clear Bq4 Bf4
      have bb := (B_4.out.set_ 4 (.int .u64 v))
      simp only [List.setIfInBounds_toArray, List.set_cons_succ, List.set_cons_zero] at bb
      have BB := Lib.hid bb
      clear bb
      have ee : Ex (fun k => k = o) w4 (w4.setCell ⟨o, 4, none⟩ (.int .u64 v)) := ((Ex.refl (fun q => q = o) w4).setCell (q := ⟨o, 4, none⟩) (.inl rfl) (.int .u64 v))
      have C_5 := Lib.hid (C_4.out.ex ee (by have o_ := ORD3.out; omega))
      have X_5 := Lib.hid (X_4.out.ex ee (fun b_ h_ => h_))
      have T_5 := Lib.hid (T_4.out.ex ee (by have o_ := ORD3.out; omega))
      have S_5 := Lib.hid (S_4.out.ex ee (by have o_ := ORD3.out; omega))
      have N_5 := Lib.hid (N_4.out.ex ee (by have o_ := ORD3.out; omega))
      have B_5 := Lib.hid (BB.out)
      clear ee B_4 C_4 X_4 T_4 S_4 N_4 BB
      generalize (w4.setCell ⟨o, 4, none⟩ (.int .u64 v)) = w5 at *
      refine behind_normal ⟨(fun W : World => W.cell? ⟨o, 0, none⟩ = some (.int .i64 at_) ∧ Blk W tb 34 #[.int .i64 ns.mode, .int .i64 ns.source, .bool ns.hold, .int .i64 ns.flags, .int .u64 ns.epoch]), fun W h => h, ⟨B_5.out.cell 0, N_5.out⟩, ?_⟩
      refine Phased.go ?_
      simp only [pick, List.map_cons, List.map_nil, List.getElem?_cons_zero, List.getElem?_cons_succ, Option.getD_some]
      repeat (go_big_quiet_step (fail))
      refine wpQuiet_nil ?_
      have Bq5 := (B_5.out).cell 5
      have Bq6 := (B_5.out).cell 6
      have Bq7 := (B_5.out).cell 7
      have Bq8 := (B_5.out).cell 8
      have Bq9 := (B_5.out).cell 9
      simp only [List.getElem?_toArray, List.getElem?_cons_succ, List.getElem?_cons_zero] at Bq5 Bq6 Bq7 Bq8 Bq9
      have Bf5 := (B_5.out).frozen 5
      have Bf6 := (B_5.out).frozen 6
      have Bf7 := (B_5.out).frozen 7
      have Bf8 := (B_5.out).frozen 8
      have Bf9 := (B_5.out).frozen 9
      go_wp2_with fail
      clear Bq5 Bq6 Bq7 Bq8 Bq9 Bf5 Bf6 Bf7 Bf8 Bf9
      have bb := (((((B_5.out.set_ 5 (.int .i64 ns.mode)).set_ 6 (.int .i64 ns.source)).set_ 7 (.bool ns.hold)).set_ 8 (.int .i64 ns.flags)).set_ 9 (.int .u64 ns.epoch))
      simp only [List.setIfInBounds_toArray, List.set_cons_succ, List.set_cons_zero] at bb
      have BB := Lib.hid bb
      clear bb
      have ee : Ex (fun k => k = o) w5 (((((w5.setCell ⟨o, 5, none⟩ (.int .i64 ns.mode)).setCell ⟨o, 6, none⟩ (.int .i64 ns.source)).setCell ⟨o, 7, none⟩ (.bool ns.hold)).setCell ⟨o, 8, none⟩ (.int .i64 ns.flags)).setCell ⟨o, 9, none⟩ (.int .u64 ns.epoch)) := ((((((Ex.refl (fun q => q = o) w5).setCell (q := ⟨o, 5, none⟩) (.inl rfl) (.int .i64 ns.mode)).setCell (q := ⟨o, 6, none⟩) (.inl rfl) (.int .i64 ns.source)).setCell (q := ⟨o, 7, none⟩) (.inl rfl) (.bool ns.hold)).setCell (q := ⟨o, 8, none⟩) (.inl rfl) (.int .i64 ns.flags)).setCell (q := ⟨o, 9, none⟩) (.inl rfl) (.int .u64 ns.epoch))
      have C_6 := Lib.hid (C_5.out.ex ee (by have o_ := ORD3.out; omega))
      have X_6 := Lib.hid (X_5.out.ex ee (fun b_ h_ => h_))
      have T_6 := Lib.hid (T_5.out.ex ee (by have o_ := ORD3.out; omega))
      have S_6 := Lib.hid (S_5.out.ex ee (by have o_ := ORD3.out; omega))
      have N_6 := Lib.hid (N_5.out.ex ee (by have o_ := ORD3.out; omega))
      have B_6 := Lib.hid (BB.out)
      clear ee B_5 C_5 X_5 T_5 S_5 N_5 BB
      generalize (((((w5.setCell ⟨o, 5, none⟩ (.int .i64 ns.mode)).setCell ⟨o, 6, none⟩ (.int .i64 ns.source)).setCell ⟨o, 7, none⟩ (.bool ns.hold)).setCell ⟨o, 8, none⟩ (.int .i64 ns.flags)).setCell ⟨o, 9, none⟩ (.int .u64 ns.epoch)) = w6 at *
      refine behind_normal ⟨(fun W : World => W.cell? ⟨o, 0, none⟩ = some (.int .i64 at_) ∧ Blk W tb 34 #[.int .i64 ns.mode, .int .i64 ns.source, .bool ns.hold, .int .i64 ns.flags, .int .u64 ns.epoch]), fun W h => h, ⟨B_6.out.cell 0, N_6.out⟩, ?_⟩
      refine Phased.go ?_
      simp only [pick, List.map_cons, List.map_nil, List.getElem?_cons_zero, List.getElem?_cons_succ, Option.getD_some]
      repeat (go_big_quiet_step (fail))
      refine wpQuiet_nil ?_
      have Bq3 := (B_6.out).cell 3
      simp only [List.getElem?_toArray, List.getElem?_cons_succ, List.getElem?_cons_zero] at Bq3
      have Bf3 := (B_6.out).frozen 3
      go_wp2_with fail
      clear Bq3 Bf3
      have bb := (B_6.out.set_ 3 (.bool true))
      simp only [List.setIfInBounds_toArray, List.set_cons_succ, List.set_cons_zero] at bb
      have BB := Lib.hid bb
      clear bb
      have ee : Ex (fun k => k = o) w6 (w6.setCell ⟨o, 3, none⟩ (.bool true)) := ((Ex.refl (fun q => q = o) w6).setCell (q := ⟨o, 3, none⟩) (.inl rfl) (.bool true))
      have C_7 := Lib.hid (C_6.out.ex ee (by have o_ := ORD3.out; omega))
      have X_7 := Lib.hid (X_6.out.ex ee (fun b_ h_ => h_))
      have T_7 := Lib.hid (T_6.out.ex ee (by have o_ := ORD3.out; omega))
      have S_7 := Lib.hid (S_6.out.ex ee (by have o_ := ORD3.out; omega))
      have N_7 := Lib.hid (N_6.out.ex ee (by have o_ := ORD3.out; omega))
      have B_7 := Lib.hid (BB.out)
      clear ee B_6 C_6 X_6 T_6 S_6 N_6 BB
      generalize (w6.setCell ⟨o, 3, none⟩ (.bool true)) = w7 at *
      refine behind_normal ⟨(fun W : World => W.cell? ⟨o, 0, none⟩ = some (.int .i64 at_) ∧ Blk W tb 34 #[.int .i64 ns.mode, .int .i64 ns.source, .bool ns.hold, .int .i64 ns.flags, .int .u64 ns.epoch]), fun W h => h, ⟨B_7.out.cell 0, N_7.out⟩, ?_⟩
      refine Phased.end_ ?_
      simp only [pick, List.map_cons, List.map_nil, List.getElem?_cons_zero, List.getElem?_cons_succ, Option.getD_some]
      repeat (go_big_quiet_step (fail))
      refine wpQuiet_nil ?_
      clear hne p0 s0 s1 s2 s3 s4
      go_wp2_with fail
      go_ret
      have hA : aFound (.tell f) v x = ⟨x.how, true, v, ns, x.st, x.err, x.left, x.steps⟩ := by unfold aFound; rw [if_neg (by rw [HQ.out]; simp), if_neg (by simp [Kd.isRead]), HNE.out, if_neg (by rw [H9.out]; simp), HNS.out]
      rw [hA]
      exact ⟨by rw [HH.out]; rfl, ⟨B_7.out, C_7.out, ORD3.out.1⟩, X_7.out⟩
    · skip
      have kd2 : (ne != 0) = true := by simpa using h9
      have H9 := Lib.hid h9
      clear h9
      have HE := Lib.hid (fun W (h : ArbAt W o b (.tell f) at_ x) => Aend_any o b (.tell f) at_ x 1 (unS v) (ne) W h)
      unfold St.val at HE
      have Sq0 := (S_3.out).cell 0
      have Sq1 := (S_3.out).cell 1
      have Sq2 := (S_3.out).cell 2
      have Sq3 := (S_3.out).cell 3
      have Sq4 := (S_3.out).cell 4
      simp only [List.getElem?_toArray, List.getElem?_cons_succ, List.getElem?_cons_zero] at Sq0 Sq1 Sq2 Sq3 Sq4
      go_wp2_with fail
      refine (HE.out _ ⟨B_3.out, C_3.out, ORD2.out.1⟩).mono ?_; rintro e w9 ⟨rfl, ha, hx⟩
      go_wp2_with fail
      go_ret
      refine ⟨?_, ?_, X_3.out.trans hx⟩
      · rw [show aFound (.tell f) v x = ⟨1, x.swaps, x.word, x.next, unS v, ne, x.left, x.steps⟩ by unfold aFound; rw [if_neg (by rw [HQ.out]; simp), if_neg (by simp [Kd.isRead]), HNE.out, if_pos H9.out]]; rfl
      · rw [show aFound (.tell f) v x = ⟨1, x.swaps, x.word, x.next, unS v, ne, x.left, x.steps⟩ by unfold aFound; rw [if_neg (by rw [HQ.out]; simp), if_neg (by simp [Kd.isRead]), HNE.out, if_pos H9.out]]; exact ha
theorem found_any (o b : Nat) (k : Kd) (at_ : Int) (x : AX) (v : Int) (w : World) (h : ArbAt w o b k at_ x) (hh : x.how = 0) (hk : Kd.Ok k) (hv : 0 ≤ v ∧ v ≤ 18446744073709551615) (ht : Tab w) (hz : 0 < o) :
    Calls Tryd.prog 33 #[.pointer (some ⟨o, 0, none⟩), .int .u64 v] w fun e w' => e = .returned (.int .i64 (aFound k v x).how) ∧ ArbAt w' o b k at_ (aFound k v x) ∧ Ex (fun q => q = o) w w' := by
  by_cases hq : unE v = 0
  · cases k with
    | read => exact found_read o b .read at_ x v w h hh hk hv ht hz hq rfl
    | req a => exact found_req o b a at_ x v w h hh hk hv ht hz hq
    | tell f => exact found_tell o b f at_ x v w h hh hk hv ht hz hq
  · exact found_form o b k at_ x v w h hh hk hv ht hz hq
end Go.Proofs.YtkmlikohgilnbaaDoor.Arb
