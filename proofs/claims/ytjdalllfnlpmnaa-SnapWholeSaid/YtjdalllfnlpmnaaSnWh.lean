/-
  SnapWhole, walked. Printed by wip/tools/mksnwh.py. No condition. By an AI agent.
-/
import Derived.Test.YtjdalllfnlpmnaaSnPg
import Derived.Test.YtjdalllfnlpmnaaSnTw
import Derived.Deep.CutRange
namespace Go.Proofs.Ytjdalllfnlpmnaa.Bank
set_option linter.unusedVariables false
set_option linter.unusedSimpArgs false
open Go Go.RowKit Go.Proofs.Ytjdalllfnlpmnaa.Base

set_option maxRecDepth 100000 in
set_option maxHeartbeats 60000000 in
theorem SnapWhole_walk (v : Value) (y : Nat × (Nat → Tp)) (v2 : Value) (x : Int × Int) (v3 : Value) (ps : List Int) (w : World) (h : Tps w v y.1 y.2) (hx : v2 = .agg #[.int .u64 x.1, .int .i64 x.2]) (ht : Ints w .i64 v3 ps) (hf : ∀ z ∈ ps, (Lit.int .i64 z).wf = true) : Calls Try.prog 5 #[v, v2, v3] w fun e w' => e = .returned (.bool true) ∧ Below w.heap.size w w' := by
  obtain ⟨n, l⟩ := y
  obtain ⟨xf, T⟩ := x
  simp only at h hx ⊢
  subst hx
  have HTP := Lib.hid h
  have HPF := Lib.hid hf
  obtain ⟨AP, cp, rfl, hpl, hpf⟩ := ht.form
  have HPL := Lib.hid hpl
  have HPX := Lib.hid hpf
  clear h ht hf hpl hpf
  obtain ⟨na, hna⟩ : ∃ na, ps.length = na := ⟨_, rfl⟩
  have HNA := Lib.hid hna
  simp only [hna]
  clear hna
  have JB := Lib.hid (Blk.new w 71 #[.int .u64 xf, .int .i64 T])
  have L0 := Lib.hid ((Below.refl w.heap.size w).alloc (Nat.le_refl _) (.cells #[.int .u64 xf, .int .i64 T] 71))
  have hjb : w.heap.size < (w.alloc (.cells #[.int .u64 xf, .int .i64 T] 71)).heap.size := by simp
  have HTP1 := Lib.hid (HTP.out.below L0.out)
  obtain ⟨A0, c0, rfl, hn, hg⟩ := HTP.out.form
  have HN := Lib.hid hn
  have HG := Lib.hid hg
  clear hn hg
  go_enter Try.func5, Try.ntmps5
  go_wp2_with fail
  generalize w.alloc (.cells #[.int .u64 xf, .int .i64 T] 71) = w1 at *
  refine (lay_any _ n l w1 HTP1.out).mono ?_; rintro e w2 ⟨ho, hl⟩
  have JB2 := Lib.hid (JB.out.bl hl)
  have L2 := Lib.hid (bl L0.out hl)
  clear hl JB L0 HTP1
  obtain ⟨jb, hjbe⟩ : ∃ jb, w.heap.size = jb := ⟨_, rfl⟩
  have HJB := Lib.hid hjbe
  have JB3 := Lib.hid (show Blk w2 jb 71 #[.int .u64 xf, .int .i64 T] from hjbe ▸ JB2.out)
  simp only [hjbe]
  clear JB2
  have jc := JB3.out.cell 1
  simp only [List.getElem?_toArray, List.getElem?_cons_succ, List.getElem?_cons_zero] at jc
  rcases ho with ⟨hok, v1, p1, rfl, r, c, g, h, rfl, rfl, hown, hk, q0, q1, q2, q3⟩ | ⟨hok, rfl⟩
  case inr =>
    clear hok hjb
    go_wp2_with fail
    refine (awake_any _).mono ?_; rintro e wz ⟨rfl, hb⟩
    have LZ := Lib.hid (bl L2.out hb)
    clear hb
    go_wp2_with fail
    go_ret
    exact ⟨rfl, LZ.out⟩
  by_cases ht1 : T < 1
  · skip
    have kt : decide (T < 1) = true := decide_eq_true ht1
    clear hok hown hk q0 q1 q2 q3 hjb ht1
    go_wp2_with fail
    refine (awake_any _).mono ?_; rintro e wz ⟨rfl, hb⟩
    have LZ := Lib.hid (bl L2.out hb)
    clear hb
    go_wp2_with fail
    go_ret
    exact ⟨rfl, LZ.out⟩
  have kt1 : decide (T < 1) = false := decide_eq_false ht1
  by_cases ht2 : 16 < T
  · skip
    have kt2 : decide (T > 16) = true := decide_eq_true (by omega)
    clear hok hown hk q0 q1 q2 q3 hjb ht1 ht2
    go_wp2_with fail
    refine (awake_any _).mono ?_; rintro e wz ⟨rfl, hb⟩
    have LZ := Lib.hid (bl L2.out hb)
    clear hb
    go_wp2_with fail
    go_ret
    exact ⟨rfl, LZ.out⟩
  have kt2 : decide (T > 16) = false := decide_eq_false (by omega)
  by_cases hp2 : 400 < na
  · skip
    have kp : decide ((na : Int) > 400) = true := decide_eq_true (by omega)
    clear hok hown hk q0 q1 q2 q3 hjb ht1 ht2
    go_wp2_with fail
    refine (awake_any _).mono ?_; rintro e wz ⟨rfl, hb⟩
    have LZ := Lib.hid (bl L2.out hb)
    clear hb
    go_wp2_with fail
    go_ret
    exact ⟨rfl, LZ.out⟩
  have kp : decide ((na : Int) > 400) = false := decide_eq_false (by omega)
  have HP2 := Lib.hid (show na ≤ 400 by omega)
  have HT := Lib.hid (show 1 ≤ T ∧ T ≤ 16 by omega)
  have TOK := Lib.hid hok
  have ORD0 := Lib.hid (show w.heap.size ≤ jb ∧ jb < r ∧ r < h ∧ h < g by have := HJB.out; omega)
  obtain ⟨N, hN⟩ : ∃ N : Nat, (N : Int) = offT l n := ⟨(offT l n).toNat, by have := (offT_bounds hok.2 n (Nat.le_refl _)).1; omega⟩
  have hk : BankAt w2 g h (zeros N) 0 := by rw [show (offT l n).toNat = N by omega] at hk; exact hk
  have HNN := Lib.hid hN
  obtain ⟨m, hm⟩ : ∃ m : Nat, widthF (laidS l) n = (m : Int) := ⟨(widthF (laidS l) n).toNat, by have := (widthF_bounds (wrongE_zero (laid_wrong hok (tries := 1) (by omega))).2.1 n (Nat.le_refl _)).1; omega⟩
  have HM := Lib.hid hm
  have HMB := Lib.hid (wide_bounds hok hm)
  have K0 := Lib.hid hk
  have S0 := Lib.hid (srow_of_own hown (by have := hok.1; omega))
  have HN5 := Lib.hid hok.1
  obtain ⟨tb, tob, rfl, htb, htc⟩ := HG.out (by have := hok.1; omega)
  have HTB := Lib.hid htb
  have HTC := Lib.hid htc
  clear hok q0 q1 q2 q3 hk hown hN hm HG htb htc hp2 hjb ht1 ht2
  have hmk := make_rows n (by have := HN5.out; omega) w2
  go_upto_region 5 with fail
  clear hmk kp kt1 kt2 jc
  obtain ⟨db, hdb⟩ : ∃ db, w2.heap.size = db := ⟨_, rfl⟩
  have hgo : g < db := hdb ▸ K0.out.head.lt
  have hops : DnPart (w2.alloc (.cells ((List.range n).map (fun _ => Value.slice none 0 0)).toArray 41)) w2.heap.size n (w2.heap.size + 1) (fun _ => 0) (fun _ => Value.slice none 0 0) 0 := ⟨Blk.new w2 41 _, fun j hj => absurd hj (by omega)⟩
  simp only [hdb] at hops ⊢
  have ee : Ex (fun _ => False) w2 (w2.alloc (.cells ((List.range n).map (fun _ => Value.slice none 0 0)).toArray 41)) := (Ex.refl _ w2).alloc _
  have K_1 := Lib.hid (K0.out.ex ee (fun h => h) (fun h => h))
  have S_1 := Lib.hid (S0.out.ex ee (fun h => h))
  have J_1 := Lib.hid (JB3.out.ex ee (fun h => h))
  have L_1 := Lib.hid (Ex.below L2.out ee (fun k hk => hk.elim))
  clear ee K0 S0 JB3 L2
  have hsz : db < (w2.alloc (.cells ((List.range n).map (fun _ => Value.slice none 0 0)).toArray 41)).heap.size := by simp; omega
  generalize (w2.alloc (.cells ((List.range n).map (fun _ => Value.slice none 0 0)).toArray 41)) = w3 at *
  have ORD1 := Lib.hid (show w.heap.size ≤ jb ∧ jb < r ∧ r < h ∧ h < g ∧ g < db by have := ORD0.out; omega)
  have Z0 := Lib.hid (show db + 1 ≤ w3.heap.size by omega)
  have D0 := Lib.hid hops
  clear ORD0 hgo hsz hops hdb
  go_wp2_with fail
  obtain ⟨wk, rfl⟩ : ∃ wk : World, wk = w3 := ⟨_, rfl⟩
  go_loopw [11] (fun s11 wr => ∃ (k : Nat) (dv : Nat → Value) (lam : Nat → Nat), k ≤ n ∧ s11 = .int .i64 k ∧ DnPart wr db n (db + 1) lam dv k ∧ BankAt wr g h (zeros N) 0 ∧ SRow wr r n (laidS l) ∧ Blk wr jb 71 #[.int .u64 xf, .int .i64 T] ∧ db + 1 ≤ wr.heap.size ∧ Below w.heap.size w wr) (fun s11 _ => n + 1 - (intOf s11).toNat)
  case atStart => exact ⟨0, _, _, by omega, rfl, D0.out, K_1.out, S_1.out, J_1.out, Z0.out, L_1.out⟩
  case round =>
    clear K_1 S_1 J_1 L_1 D0 Z0
    obtain ⟨k, dv, lam0, hk, rfl, hd, hbk, hsr, hj, hz, hl⟩ := hrel
    have K0 := Lib.hid hbk
    have S0 := Lib.hid hsr
    have L0 := Lib.hid hl
    have J0 := Lib.hid hj
    have Z0 := Lib.hid hz
    have D0 := Lib.hid hd
    clear hbk hsr hl hj hz hd
    by_cases hlt : k < n
    · have kd : decide ((k : Int) < (n : Int)) = true := decide_eq_true (by omega)
      have kk0 : (0 : Int) ≤ (k : Int) := by omega
      have kk1 : (k : Int) < (n : Int) := by omega
      have kk5 : (k : Int) ≤ 5 := by have := HN5.out; omega
      have HK := Lib.hid hlt
      clear hlt hk
      have hba := D0.out.1.alloc (.cells #[.int .u64 0] 42)
      have dc0 := D0.out.1.cell k
      have dc : (wr.alloc (.cells #[.int .u64 0] 42)).cell? ⟨db, k, none⟩ = some (dv k) := by rw [hba.cell]; simp [List.getElem?_map, List.getElem?_range HK.out]
      have df := hba.frozen k
      have hnx := D0.out.next (by omega) Z0.out HK.out
      have ee : Ex (fun b => b = db) wr ((wr.alloc (.cells #[.int .u64 0] 42)).setCell ⟨db, k, none⟩ (.slice (some ⟨wr.heap.size, 0, none⟩) 1 1)) := ((Ex.refl (fun b => b = db) wr).alloc _).setCell (q := ⟨db, k, none⟩) (.inl rfl) _
      have K1 := Lib.hid (K0.out.ex ee (by have := ORD1.out; omega) (by have := ORD1.out; omega))
      have S1 := Lib.hid (S0.out.ex ee (by have := ORD1.out; omega))
      have J1 := Lib.hid (J0.out.ex ee (by have := ORD1.out; omega))
      have Z1 := Lib.hid (Nat.le_trans Z0.out ee.size)
      have L1 := Lib.hid (Ex.below L0.out ee (fun b hb => by have := ORD1.out; have hb : b = db := hb; omega))
      have D1 := Lib.hid hnx
      clear hba dc0 hnx ee K0 S0 J0 Z0 L0 D0
      go_wp2_with fail
      exact ⟨⟨k + 1, _, _, HK.out, by go_num, D1.out, K1.out, S1.out, J1.out, Z1.out, L1.out⟩, by have := HK.out; simp [intOf]; omega⟩
    · obtain rfl : k = n := by omega
      have kd : decide ((k : Int) < (k : Int)) = false := decide_eq_false (by omega)
      obtain ⟨n, rfl⟩ : ∃ n, n = k := ⟨_, rfl⟩
      have hmk := make_ptrs n (by have := HN5.out; omega) wr
      have hmk2 := make_words n (by have := HN5.out; omega) (wr.alloc (.cells (ptrs n (fun _ => none)) 61))
      have jc := ((J0.out.alloc (.cells (ptrs n (fun _ => none)) 61)).alloc (.cells ((zeros n).map (Value.int .u64)).toArray 42)).cell 0
      simp only [List.getElem?_toArray, List.getElem?_cons_succ, List.getElem?_cons_zero] at jc
      go_upto_region 16 with fail
      clear hmk hmk2 kd hk hlt jc
      have hp : Blk ((wr.alloc (.cells (ptrs n (fun _ => none)) 61)).alloc (.cells ((zeros n).map (Value.int .u64)).toArray 42)) wr.heap.size 61 (ptrs n (fun _ => none)) := (Blk.new wr 61 _).alloc _
      have hmi : URow ((wr.alloc (.cells (ptrs n (fun _ => none)) 61)).alloc (.cells ((zeros n).map (Value.int .u64)).toArray 42)) (wr.heap.size + 1) (zeros n) := by have h9 := Blk.new (wr.alloc (.cells (ptrs n (fun _ => none)) 61)) 42 ((zeros n).map (Value.int .u64)).toArray; simpa [URow] using h9
      have ee : Ex (fun _ => False) wr ((wr.alloc (.cells (ptrs n (fun _ => none)) 61)).alloc (.cells ((zeros n).map (Value.int .u64)).toArray 42)) := ((Ex.refl _ wr).alloc _).alloc _
      have hs2 : ((wr.alloc (.cells (ptrs n (fun _ => none)) 61)).alloc (.cells ((zeros n).map (Value.int .u64)).toArray 42)).heap.size = wr.heap.size + 2 := by simp
      have hs1 : (wr.alloc (.cells (ptrs n (fun _ => none)) 61)).heap.size = wr.heap.size + 1 := by simp
      obtain ⟨ob, hob⟩ : ∃ ob, wr.heap.size = ob := ⟨_, rfl⟩
      simp only [hs1, hob]
      rw [hob] at hp hmi hs2
      have hl0 : ∀ b, b < wr.heap.size → (fun b => if b < ob then lam0 b else 0) b = lam0 b := fun b hb => if_pos (hob ▸ hb)
      have K1 := Lib.hid (K0.out.ex ee (fun h => h) (fun h => h))
      have S1 := Lib.hid (S0.out.ex ee (fun h => h))
      have J1 := Lib.hid (J0.out.ex ee (fun h => h))
      have L1 := Lib.hid (Ex.below L0.out ee (fun b hb => hb.elim))
      have D1 := Lib.hid ((D0.out.all.lam_ hl0).ex ee (fun h => h) (fun b hb => hb.elim))
      have ORD := Lib.hid (show w.heap.size ≤ jb ∧ jb < r ∧ r < h ∧ h < g ∧ g < db ∧ db < ob by have := ORD1.out; have := Z0.out; omega)
      have M1 := Lib.hid hmi
      have O1 := Lib.hid hp
      have Z1 := Lib.hid (Nat.le_of_eq hs2.symm)
      have HL0 := Lib.hid (show (fun b => if b < ob then lam0 b else 0) ob = 0 ∧ (fun b => if b < ob then lam0 b else 0) (ob + 1) = 0 from ⟨if_neg (by omega), if_neg (by omega)⟩)
      clear hp hmi ee hs2 hs1 hob hl0 K0 S0 J0 L0 D0 ORD1 Z0
      generalize ((wr.alloc (.cells (ptrs n (fun _ => none)) 61)).alloc (.cells ((zeros n).map (Value.int .u64)).toArray 42)) = w5 at *
      generalize (fun b => if b < ob then lam0 b else 0) = lam1 at *
      have P1 := Lib.hid (show OpsAt w5 ob n (ob + 2) l (fun _ => 0) (fun _ => none) lam1 from ⟨O1.out, fun k _ s hs => by cases hs⟩)
      clear O1
      go_wp2_with fail
      obtain ⟨wk2, rfl⟩ : ∃ wk2 : World, wk2 = w5 := ⟨_, rfl⟩
      go_loopw [14, 15, 16, 17, 18, 19, 20, 21, 22, 23, 24, 25, 26, 27, 28] (fun s14 s15 s16 s17 s18 s19 s20 s21 s22 s23 s24 s25 s26 s27 s28 wr => ∃ (i : Nat) (ws : List Int) (cnt : Nat → Nat) (st : Nat → Option W1) (dn : Nat → Nat → Int) (dv : Nat → Value) (lam : Nat → Nat) (M : List Int) (t next : Int), i ≤ na ∧ s19 = .int .i64 i ∧ s14 = .int .u64 next ∧ s17 = .int .i64 (sumC cnt n : Int) ∧ CInv l n N ws cnt st dn ∧ (∀ j, cnt j ≤ i) ∧ sumC cnt n ≤ i ∧ OpsAt wr ob n (ob + 2) l cnt st lam ∧ DnAt wr db n (db + 1) lam cnt dn dv ∧ (M.length = n ∧ ∀ j, j < n → ∀ s, st j = some s → nth M j = s.x) ∧ URow wr (ob + 1) M ∧ BankAt wr g h ws t ∧ SRow wr r n (laidS l) ∧ Blk wr jb 71 #[.int .u64 xf, .int .i64 T] ∧ SnOpt wr n m (ob + 2) l lam cnt dn T i s15 s16 s18 ∧ ob + 2 ≤ wr.heap.size ∧ (lam ob = 0 ∧ lam (ob + 1) = 0) ∧ Below w.heap.size w wr) (fun s14 s15 s16 s17 s18 s19 s20 s21 s22 s23 s24 s25 s26 s27 s28 _ => na + 1 - (intOf s19).toNat)
      case atStart => exact ⟨0, zeros N, _, _, fun _ _ => 0, _, _, zeros n, 0, _, by omega, rfl, rfl, by rw [sumC_zero]; rfl, CInv.zero, fun _ => Nat.le_refl _, by rw [sumC_zero]; exact Nat.le_refl _, P1.out, D1.out, ⟨zeros_len n, fun j _ s hs => by cases hs⟩, M1.out, K1.out, S1.out, J1.out, .inl rfl, Z1.out, HL0.out, L1.out⟩
      case round =>
        clear K1 S1 J1 L1 D1 M1 P1 Z1 HL0
        obtain ⟨i, ws, cnt, st, dn, dv, lam, M, t, next, hi, rfl, rfl, rfl, hci, hcn, hsm, hops, hdn, hmi, hur, hbk, hsr, hj, hsn, hz, hl2, hl⟩ := hrel
        have K0 := Lib.hid hbk
        have S0 := Lib.hid hsr
        have L0 := Lib.hid hl
        have P0 := Lib.hid hops
        have D0 := Lib.hid hdn
        have M0 := Lib.hid hur
        have J0 := Lib.hid hj
        have N0 := Lib.hid hsn
        have Z0 := Lib.hid hz
        have LM := Lib.hid hl2
        have HCI := Lib.hid hci
        have HCN := Lib.hid hcn
        have HSM := Lib.hid hsm
        have HMI := Lib.hid hmi
        have HI := Lib.hid hi
        clear hbk hsr hl hops hdn hur hj hsn hz hl2 hci hcn hsm hmi hi
        by_cases hend : i = na
        case pos =>
          have kd : decide ((i : Int) < (na : Int)) = false := decide_eq_false (by omega)
          have kdn : decide (i < na) = false := decide_eq_false (by omega)
          have kdm : ¬ i < na := by omega
          go_wp2_with fail
          refine (awake_any _).mono ?_; rintro e wz ⟨rfl, hb⟩
          have LZ := Lib.hid (bl L0.out hb)
          clear hb
          go_wp2_with fail
          go_ret
          exact ⟨rfl, LZ.out⟩
        have HIN := Lib.hid (show i < na by have := HI.out; omega)
        have kd : decide ((i : Int) < (na : Int)) = true := decide_eq_true (by have := HIN.out; omega)
        clear hend
        obtain ⟨b2, o2, rfl, hb2, hx2⟩ := HPX.out (by intro e; have h1 := HNA.out; have h2 := HIN.out; rw [e] at h1; simp at h1; omega)
        have hx3 := (L0.out.cell (p := ⟨b2, o2 + i, none⟩) hb2).trans (hx2 i (by rw [HNA.out]; exact HIN.out))
        have ki0 : (0 : Int) ≤ (i : Int) := by omega
        have ki1 : (i : Int) < (na : Int) := by have := HIN.out; omega
        have ki5 : (i : Int) ≤ 400 := by have := HI.out; have := HP2.out; omega
        obtain ⟨p, hp⟩ : ∃ p, nth ps i = p := ⟨_, rfl⟩
        rw [hp] at hx3
        clear hb2 hx2 hp
        have HWF := Lib.hid (wordF_range K0.out)
        obtain ⟨wc, rfl⟩ : ∃ W : World, W = wr := ⟨_, rfl⟩
        by_cases hneg : p < 0
        case neg =>
          have kg : decide (p ≥ 0) = true := decide_eq_true (by omega)
          have hlt := Int.tmod_lt_of_pos p (b := (n : Int)) (by have := HN5.out; omega)
          have hge := Int.tmod_nonneg (n : Int) (show 0 ≤ p by omega)
          obtain ⟨k, hkk⟩ : ∃ k : Nat, p.tmod n = (k : Int) := ⟨(p.tmod n).toNat, by omega⟩
          have HK := Lib.hid (show k < n by omega)
          have knz : ((n : Int) == 0) = false := beq_eq_false_iff_ne.2 (by have := HN5.out; omega)
          clear hlt hge
          have kk0 : (0 : Int) ≤ (k : Int) := by omega
          have kk1 : (k : Int) < (n : Int) := by have := HK.out; omega
          have kk5 : (k : Int) ≤ 5 := by have := HN5.out; omega
          have pc := P0.out.cell HK.out
          have HGE := Lib.hid (geo TOK.out HNN.out HK.out (cnt k))
          cases hst : st k with
          | some s =>
            as_aux_lemma =>
              have HST := Lib.hid hst
              rw [hst] at pc
              simp only [ptrV, Option.map_some] at pc
              clear hst
              have PX := Lib.hid P0.out
              have KX := Lib.hid K0.out
              have SX0 := Lib.hid S0.out
              have LX := Lib.hid L0.out
              have NX := Lib.hid N0.out
              have ZX := Lib.hid Z0.out
              have JX := Lib.hid J0.out
              have MX := Lib.hid M0.out
              have DX := Lib.hid D0.out
              have HCX := Lib.hid HCI.out
              have MMX := Lib.hid HMI.out
              have LMX := Lib.hid LM.out
              clear P0 K0 S0 L0 N0 Z0 J0 M0 D0 HCI HMI LM
              go_upto_region 28 with fail
              clear hx3 hkk knz kd kg
              generalize lam = lamx at *
              obtain ⟨wx, rfl⟩ : ∃ W : World, W = wc := ⟨_, rfl⟩
              obtain ⟨hoa, hsi, hbo, hbr, hlo, hlr⟩ := PX.out.ops k HK.out s HST.out
              have HOA := Lib.hid hoa
              have HSI := Lib.hid (show s.i < mT l k + 3 ∧ ob + 2 ≤ s.o ∧ ob + 2 ≤ s.r ∧ lamx s.o = k from ⟨hsi, hbo, hbr, hlo⟩)
              clear hoa hsi hbo hbr hlo hlr
              have HWI := Lib.hid (alone_inv (cnt := cnt k) HGE.out (by have := HCN.out k; have := HI.out; have := HP2.out; omega) s.x (i := s.i) (by have := HSI.out; omega))
              have hqk : nth ws (qT l k) = if s.i ≤ 1 then 2 * (cnt k : Int) else 2 * (cnt k : Int) + 1 := by
                have h9 := HCX.out.b.2 k HK.out
                rw [HST.out] at h9
                simp only at h9
                rw [h9]
                by_cases e : s.i ≤ 1
                · rw [if_pos e, if_neg (by omega)]; omega
                · rw [if_neg e, if_pos (by omega)]
              have hws := w_step (s := laidS l k) (rec := recL (mT l k) s.x) (k := cnt k) (p := pG l k (cnt k)) (ws := ws) (q := qT l k) (t := t) (by rw [recL_len]; have := HGE.out; omega) HGE.out.2.2.1 (by rw [HCX.out.b.1]; exact HGE.out.2.2.2.1) (by have := HCN.out k; have := HI.out; have := HP2.out; omega) HGE.out.2.2.2.2.1 (by rw [recL_len, HCX.out.b.1]; exact HGE.out.2.2.2.2.2.1) (i := s.i) (by rw [recL_len]; exact HSI.out.1) hqk
              rw [recL_len] at hws
              have HWS := Lib.hid hws
              clear hws hqk
              have HHW := Lib.hid (aloneX_how (mT l k) (cnt k) (s.i + 1) (by have := HSI.out; omega))
              have HMX := Lib.hid (MMX.out.2 k HK.out s HST.out)
              go_wp2_with fail
              refine (WStep_any g h s.o s.r s.cc ws t (laidS l k) (recL (mT l k) s.x) 1 (aloneX (mT l k) (cnt k) s.i) wx KX.out HOA.out HWI.out (by have := HSI.out; have := ORD.out; omega)).mono ?_; rintro e w6 ⟨rfl, hk6, ho6, hx6⟩
              rw [HWS.out] at hk6 ho6 ⊢
              rw [HHW.out]
              clear HWS HHW HWI HOA
              have HX6 := Lib.hid hx6
              have K6 := Lib.hid hk6
              have O6 := Lib.hid ho6
              have S6 := Lib.hid (SX0.out.ex hx6 (by have := ORD.out; have := HSI.out; omega))
              have J6 := Lib.hid (JX.out.ex hx6 (by have := ORD.out; have := HSI.out; omega))
              have M6 := Lib.hid (MX.out.ex hx6 (by have := ORD.out; have := HSI.out; omega))
              have D6 := Lib.hid (DX.out.ex hx6 (by have := ORD.out; have := HSI.out; omega) (fun b hb => by have := ORD.out; have := HSI.out; have := HK.out; have hb : b = g ∨ b = h ∨ b = s.o := hb; rcases hb with e | e | e; exact .inl (by omega); exact .inl (by omega); exact .inr (by rw [e]; omega)))
              have L6 := Lib.hid (Ex.below LX.out hx6 (fun b hb => by have := ORD.out; have := HSI.out; have hb : b = g ∨ b = h ∨ b = s.o := hb; omega))
              have N6 := Lib.hid (NX.out.ex hx6 (fun b hb => by have := ORD.out; have := HSI.out; have := HK.out; have hb : b = g ∨ b = h ∨ b = s.o := hb; rcases hb with e | e | e; exact .inl (by omega); exact .inl (by omega); exact .inr (by rw [e]; omega)))
              have Z6 := Lib.hid (Nat.le_trans ZX.out hx6.size)
              clear hk6 ho6 hx6 SX0 LX NX KX ZX JX MX DX pc
              by_cases hlast : s.i + 1 = mT l k + 3
              case neg =>
                rw [if_neg hlast]
                have hpo := PX.out.step ⟨by have := ORD.out; omega, by have := ORD.out; omega, by have := ORD.out; omega⟩ (by have := ORD.out; omega) HK.out HST.out HX6.out O6.out (by have := HSI.out; omega)
                have hci := HCX.out.busy TOK.out HNN.out HK.out HST.out (by have := HSI.out; omega)
                have hmm := mine_step (s1 := { s with i := s.i + 1 }) MMX.out.2 HST.out rfl
                have PO := Lib.hid hpo
                have CI := Lib.hid hci
                have MM := Lib.hid hmm
                clear hpo hci hlast hmm
                go_wp2_with fail
                exact ⟨⟨i + 1, _, _, _, _, _, _, _, _, _, by have := HIN.out; omega, by go_num, rfl, rfl, CI.out, fun j => by have := HCN.out j; omega, by have := HSM.out; omega, PO.out, D6.out, ⟨MMX.out.1, MM.out⟩, M6.out, K6.out, S6.out, J6.out, N6.out.later, Z6.out, LMX.out, L6.out⟩, by have := HIN.out; simp [intOf]; omega⟩
              rw [if_pos hlast]
              have hci := HCX.out.last TOK.out HNN.out HK.out HST.out hlast
              have CI := Lib.hid hci
              have MM := Lib.hid (mine_end (k := k) MMX.out.2)
              have HSC := Lib.hid (sumC_up (cnt := cnt) HK.out)
              clear hci hlast
              obtain ⟨i0_, hi0, hz0, hz1, hz2⟩ := info_parts wordU_info
              have HDK := Lib.hid (D6.out.2 k HK.out)
              have HDL := Lib.hid D6.out.1.lt
              have dcell := D6.out.cell HK.out
              have mcell := M6.out.word (i := k) (by rw [MMX.out.1]; exact HK.out)
              rw [HMX.out] at mcell
              have HDC := Lib.hid dcell
              have HMC := Lib.hid mcell
              clear dcell mcell
              go_upto_region 30 with fail
              have hne : Nonempty (Held (Ex (fun b => ob + 2 ≤ b ∨ (dv k).ownBlock = some b) w6)) := ⟨⟨w6, Ex.refl _ _⟩⟩
              have hdo : ¬ (ob + 2 ≤ db ∨ (dv k).ownBlock = some db) := by
                intro e
                rcases e with e | e
                · have := ORD.out; omega
                · have := (HDK.out.1.lt db e).1; omega
              have hmo : ¬ (ob + 2 ≤ ob + 1 ∨ (dv k).ownBlock = some (ob + 1)) := by
                intro e
                rcases e with e | e
                · omega
                · have h1 := HDK.out.2 _ e
                  have h2 := LMX.out.2
                  omega
              have p1 : ∀ y : Held (Ex (fun b => ob + 2 ≤ b ∨ (dv k).ownBlock = some b) w6), y.w.cell? ⟨db, k, none⟩ = some (dv k) := fun y => Ex.cell (show Ex (fun b => ob + 2 ≤ b ∨ (dv k).ownBlock = some b) w6 y.w from y.ok) HDC.out hdo
              have p2 : ∀ y : Held (Ex (fun b => ob + 2 ≤ b ∨ (dv k).ownBlock = some b) w6), y.w.cell? ⟨ob + 1, k, none⟩ = some (.int .u64 s.x) := fun y => Ex.cell (show Ex (fun b => ob + 2 ≤ b ∨ (dv k).ownBlock = some b) w6 y.w from y.ok) HMC.out hmo
              refine drawn_tail (S := (Ex (fun b => ob + 2 ≤ b ∨ (dv k).ownBlock = some b) w6)) [13] [([0, 1, 2, 3, 4, 5, 6, 7, 8, 9], 10), ([], 11), ([12], 13)] (by kernel_rfl) (by kernel_rfl) (by kernel_rfl) rfl (Ex.refl _ _).drew ?_
              refine PhasedT.go ?_
              simp only [pick, List.map_cons, List.map_nil, List.getElem?_cons_zero, List.getElem?_cons_succ, Option.getD_some]
              repeat (go_big_quiet_step (fail))
              refine wpQuiet_nil ?_
              have EE0 := Lib.hid ((Ex.refl (fun b => ob + 2 ≤ b ∨ (dv k).ownBlock = some b) w6).drew)
              go_wp2_with fail
              refine behind_normal ⟨(Ex (fun b => ob + 2 ≤ b ∨ (dv k).ownBlock = some b) w6), fun W h => h, by first | exact EE0.out.alloc _ | exact fun _ => EE0.out.alloc _, ?_⟩
              refine PhasedT.go ?_
              simp only [pick, List.map_cons, List.map_nil, List.getElem?_cons_zero, List.getElem?_cons_succ, Option.getD_some]
              repeat (go_big_quiet_step (fail))
              refine wpQuiet_nil ?_
              have W7 := Lib.hid (World.ownsRow.alloc (ownsRow_ex (T := fun _ => False) HDK.out.1 ((Ex.refl _ w6).drew) (fun _ _ h => h)) (.cells #[.int .u64 s.x] 42))
              go_wp2_with (at_builtin; refine wpList_append_own_at _ rfl _ _ 41 rfl (db + 1) 42 i0_ (.int .u64 0) 1 8 Try.underlying41 hi0 hz0 hz1 hz2 rfl (by decide) _ _ _ rfl W7.out ⟨w6.drew.heap.size, 0, none⟩ 1 1 [.int .u64 s.x] rfl rfl ?c1 ?c2 ?c3 ?c4 ?c5 ?_)
              case c1 =>
                have hbn := Blk.new w6.drew 42 #[.int .u64 s.x]
                intro j u hj
                match j, hj with
                | 0, hj => simp at hj; subst hj; exact hbn.cell 0
              case c2 =>
                intro u hu
                simp only [List.mem_cons, List.not_mem_nil, or_false] at hu
                subst hu; rfl
              case c3 => have h1 := HCN.out k; have h2 := HI.out; have := HP2.out; unfold maxLen; omega
              case c4 => have h1 := HCN.out k; have h2 := HI.out; have := HP2.out; omega
              case c5 => have h1 := Z6.out; have := ORD.out; simp; omega
              intro v' w8 hown' hgrow _ hat
              have hgr2 : Ex (fun b => (dv k).ownBlock = some b) w6 w8 := (((Ex.refl _ w6).drew).alloc (.cells #[.int .u64 s.x] 42)).trans (Ex.of_grown hgrow)
              obtain ⟨va, vc, hvv⟩ := own_form3 hown'
              subst hvv
              have GR := Lib.hid hgr2
              have hS8 : Ex (fun b => ob + 2 ≤ b ∨ (dv k).ownBlock = some b) w6 w8 := hgr2.mono (fun b hb => .inr hb)
              have hsz8 : w6.heap.size ≤ w6.heap.size + 1 := by omega
              have hpu := D6.out.push (by omega) HK.out hgr2 hown' hat hsz8
              obtain ⟨lamy, hly⟩ : ∃ f : Nat → Nat, (fun b => if b < w6.heap.size then lamx b else n + 3 + k) = f := ⟨_, rfl⟩
              rw [hly] at hpu
              have D8 := Lib.hid hpu
              have dc8 : w8.cell? ⟨db, k, none⟩ = some (dv k) := hgr2.cell HDC.out (fun h => hdo (.inr h))
              have df8 : w8.frozen? ⟨db, k, none⟩ = false := hgr2.frozen (D6.out.1.frozen k) D6.out.1.lt (fun h => hdo (.inr h))
              have HDO := Lib.hid hdo
              have HMO := Lib.hid hmo
              clear hown' hgrow hat hsz8 hpu hgr2 W7 EE0 hdo hmo
              refine behind_normal ⟨(Ex (fun b => ob + 2 ≤ b ∨ (dv k).ownBlock = some b) w6), fun W h => h, by first | exact hS8 | exact fun _ => hS8, ?_⟩
              refine PhasedT.go ?_
              simp only [pick, List.map_cons, List.map_nil, List.getElem?_cons_zero, List.getElem?_cons_succ, Option.getD_some]
              repeat (go_big_quiet_step (fail))
              refine wpQuiet_nil ?_
              go_wp2_with fail
              refine behind_normal ⟨(Ex (fun b => ob + 2 ≤ b ∨ (dv k).ownBlock = some b) w6), fun W h => h, by first | exact fun h => absurd h (by decide) | trivial | simp, ?_⟩
              refine PhasedT.end_ ?_
              clear hne p1 p2 dc8 df8 hS8
              have hx9 : Ex (fun b => (dv k).ownBlock = some b ∨ b = db) w6 (w8.setCell ⟨db, k, none⟩ (.slice va (cnt k + 1 + 1) vc)) := (GR.out.mono (fun b hb => .inl hb)).setCell (q := ⟨db, k, none⟩) (.inl (.inr rfl)) _
              generalize w8.setCell ⟨db, k, none⟩ (.slice va (cnt k + 1 + 1) vc) = w9 at *
              have H9 := Lib.hid (show ∀ b, ((dv k).ownBlock = some b ∨ b = db) → (b = db ∨ (db + 1 ≤ b ∧ b < w6.heap.size ∧ lamx b = n + 3 + k)) from fun b hb => by rcases hb with hb | hb; exact .inr ⟨(HDK.out.1.lt b hb).1, (HDK.out.1.lt b hb).2, HDK.out.2 b hb⟩; exact .inl hb)
              have hlam : ∀ b, b < w6.heap.size → lamy b = lamx b := fun b hb => by rw [← hly]; exact if_pos hb
              clear hly
              have HOS := Lib.hid (show s.o < wx.heap.size from (PX.out.lt HK.out HST.out).1)
              have K9 := Lib.hid (K6.out.ex hx9 (fun hb => by have := H9.out _ hb; have := ORD.out; omega) (fun hb => by have := H9.out _ hb; have := ORD.out; omega))
              have S9 := Lib.hid (S6.out.ex hx9 (fun hb => by have := H9.out _ hb; have := ORD.out; omega))
              have J9 := Lib.hid (J6.out.ex hx9 (fun hb => by have := H9.out _ hb; have := ORD.out; omega))
              have M9 := Lib.hid (M6.out.ex hx9 (fun hb => by have := H9.out _ hb; have := ORD.out; have := LMX.out; omega))
              have L9 := Lib.hid (Ex.below L6.out hx9 (fun b hb => by have := H9.out _ hb; have := ORD.out; omega))
              have Z9 := Lib.hid (Nat.le_trans Z6.out hx9.size)
              have N9 := Lib.hid ((((N6.out.pub TOK.out HM.out k s.x).lam_ hlam).ex hx9 (fun b hb => by have h9 := H9.out _ hb; have := ORD.out; rcases h9 with h9 | h9; exact .inl (by omega); exact .inr (by rw [hlam b h9.2.1]; omega))).later)
              have hob : ¬ ((dv k).ownBlock = some ob ∨ ob = db) := fun hb => by have := H9.out _ hb; have := ORD.out; have := LMX.out; omega
              have hxx : Ex (fun b => (b = g ∨ b = h ∨ b = s.o) ∨ ((dv k).ownBlock = some b ∨ b = db)) wx w9 := (HX6.out.mono (fun b hb => .inl hb)).trans (hx9.mono (fun b hb => .inr hb))
              have hox : ¬ ((ob = g ∨ ob = h ∨ ob = s.o) ∨ ((dv k).ownBlock = some ob ∨ ob = db)) := fun hb => by rcases hb with hb | hb; (have := ORD.out; have := HSI.out; omega); exact hob hb
              have hpo := (PX.out.lam_ (lam' := lamy) (fun b hb => hlam b (Nat.lt_of_lt_of_le hb HX6.out.size))).end2 (by omega) HK.out hxx hox (fun b hb => by
                have := ORD.out
                rcases hb with (e | e | e) | hb
                · exact .inl (by omega)
                · exact .inl (by omega)
                · exact .inr (.inl (by rw [hlam b (by rw [e]; exact Nat.lt_of_lt_of_le HOS.out HX6.out.size), e]; exact HSI.out.2.2.2))
                · have h9 := H9.out _ hb
                  rcases h9 with h9 | h9
                  · exact .inl (by omega)
                  · exact .inr (.inr (by rw [hlam b h9.2.1]; omega))) (cnt k + 1)
              have PO := Lib.hid hpo
              have pc9 : w9.cell? ⟨ob, k, none⟩ = some (ptrV (some s)) := hxx.cell (by have h9 := PX.out.cell HK.out; rw [HST.out] at h9; exact h9) hox
              have pf9 : w9.frozen? ⟨ob, k, none⟩ = false := hxx.frozen (PX.out.row.frozen k) PX.out.row.lt hox
              have ee : Ex (fun b => b = ob) w9 (w9.setCell ⟨ob, k, none⟩ (.pointer none)) := (Ex.refl (fun b => b = ob) w9).setCell (q := ⟨ob, k, none⟩) (.inl rfl) (.pointer none)
              have hlo : lamy ob = 0 ∧ lamy (ob + 1) = 0 := ⟨by rw [hlam _ (by have := Z6.out; omega)]; exact LMX.out.1, by rw [hlam _ (by have := Z6.out; omega)]; exact LMX.out.2⟩
              have HLO := Lib.hid hlo
              have K7 := Lib.hid (K9.out.ex ee (by have := ORD.out; omega) (by have := ORD.out; omega))
              have S7 := Lib.hid (S9.out.ex ee (by have := ORD.out; omega))
              have J7 := Lib.hid (J9.out.ex ee (by have := ORD.out; omega))
              have M7 := Lib.hid (M9.out.ex ee (by omega))
              have D7 := Lib.hid (D8.out.ex ee (by have := ORD.out; omega) (fun b hb => by have hb : b = ob := hb; rw [hb, HLO.out.1]; exact .inr (by omega)))
              have N7 := Lib.hid (N9.out.ex ee (fun b hb => .inl (by have hb : b = ob := hb; omega)))
              have L7 := Lib.hid (Ex.below L9.out ee (fun b hb => by have := ORD.out; have hb : b = ob := hb; omega))
              have Z7 := Lib.hid (Nat.le_trans Z9.out ee.size)
              have ks5 : (sumC cnt n : Int) ≤ 400 := by have := HSM.out; omega
              have ks0 : (0 : Int) ≤ (sumC cnt n : Int) := by omega
              clear ee hx9 hlam hob hxx hox hpo hlo K6 S6 J6 M6 D6 N6 L6 Z6 D8 K9 S9 J9 M9 N9 L9 Z9 GR
              simp only [ptrV, Option.map_some] at pc9
              go_wp2_with fail
              exact ⟨⟨i + 1, _, _, _, _, _, _, _, _, _, by have := HIN.out; omega, by go_num, rfl, by rw [HSC.out]; go_num, CI.out, fun j => up_le HCN.out j, by rw [HSC.out]; have := HSM.out; omega, PO.out, D7.out, ⟨MMX.out.1, MM.out⟩, M7.out, K7.out, S7.out, J7.out, N7.out, Z7.out, HLO.out, L7.out⟩, by have := HIN.out; simp [intOf]; omega⟩
          | none =>
            as_aux_lemma =>
              have HSN := Lib.hid hst
              rw [hst] at pc
              simp only [ptrV, Option.map_none] at pc
              clear hst
              have mcell := M0.out.word (i := k) (by rw [HMI.out.1]; exact HK.out)
              have mfroz := Blk.frozen M0.out k
              obtain ⟨nx, hnx⟩ : ∃ nx, IntKind.u64.wrap (next + 77) = nx := ⟨_, rfl⟩
              go_upto_region 24 with fail
              clear hx3 hkk knz kd kg mcell mfroz hnx
              have ee : Ex (fun b => b = ob + 1) wc (wc.setCell ⟨ob + 1, k, none⟩ (.int .u64 nx)) := (Ex.refl (fun b => b = ob + 1) wc).setCell (q := ⟨ob + 1, k, none⟩) (.inl rfl) _
              have K1 := Lib.hid (K0.out.ex ee (by have := ORD.out; omega) (by have := ORD.out; omega))
              have S1 := Lib.hid (S0.out.ex ee (by have := ORD.out; omega))
              have J1 := Lib.hid (J0.out.ex ee (by have := ORD.out; omega))
              have P1 := Lib.hid (P0.out.ex ee (by omega) (fun b hb => by have hb : b = ob + 1 := hb; omega))
              have D1 := Lib.hid (D0.out.ex ee (by have := ORD.out; omega) (fun b hb => by have hb : b = ob + 1 := hb; rw [hb, LM.out.2]; exact .inr (by omega)))
              have N1 := Lib.hid (N0.out.ex ee (fun b hb => .inl (by have hb : b = ob + 1 := hb; omega)))
              have M1 := Lib.hid (M0.out.stored k nx)
              have Z1 := Lib.hid (Nat.le_trans Z0.out ee.size)
              have L1 := Lib.hid (Ex.below L0.out ee (fun b hb => by have := ORD.out; have hb : b = ob + 1 := hb; omega))
              have pc1 := ee.cell pc (by show ¬ (ob = ob + 1); omega)
              clear pc ee K0 S0 J0 P0 D0 N0 M0 Z0 L0
              generalize wc.setCell ⟨ob + 1, k, none⟩ (.int .u64 nx) = wm at *
              have HNW := Lib.hid (fun r c W (h : IntsIn W .u64 r c (recL (mT l k) nx)) => WNew_in (laidS l k) 1 r 0 (mT l k) c (recL (mT l k) nx) W (by unfold mayF; exact decide_eq_true ⟨HGE.out.1, by omega, by omega⟩) HGE.out.2.1.symm (recL_len _ _) h.lt (fun i hi => by rw [Nat.zero_add]; exact h.at_ i (by rw [recL_len]; exact hi)))
              unfold Spot.val at HNW
              have hne : Nonempty (Held (Below wm.heap.size wm)) := ⟨⟨wm, Below.refl _ _⟩⟩
              have s0 : ∀ y : Held (Below wm.heap.size wm), y.w.cell? ⟨r, k * 5, none⟩ = some (.int .i64 (laidS l k).owners) := fun y => (S1.out.bl y.ok).cell k HK.out 0 (by decide)
              have s1 : ∀ y : Held (Below wm.heap.size wm), y.w.cell? ⟨r, k * 5 + 1, none⟩ = some (.int .i64 (laidS l k).seq) := fun y => (S1.out.bl y.ok).cell k HK.out 1 (by decide)
              have s2 : ∀ y : Held (Below wm.heap.size wm), y.w.cell? ⟨r, k * 5 + 2, none⟩ = some (.int .i64 (laidS l k).first) := fun y => (S1.out.bl y.ok).cell k HK.out 2 (by decide)
              have s3 : ∀ y : Held (Below wm.heap.size wm), y.w.cell? ⟨r, k * 5 + 3, none⟩ = some (.int .i64 (laidS l k).words) := fun y => (S1.out.bl y.ok).cell k HK.out 3 (by decide)
              have s4 : ∀ y : Held (Below wm.heap.size wm), y.w.cell? ⟨r, k * 5 + 4, none⟩ = some (.int .i64 (laidS l k).depth) := fun y => (S1.out.bl y.ok).cell k HK.out 4 (by decide)
              have rt : ∀ y : Held (Below wm.heap.size wm), y.w.cell? ⟨tb, tob + k * 2, none⟩ = some (.int .i64 (mT l k : Int)) := fun y => by rw [← HGE.out.2.1]; exact ((bl L1.out y.ok).cell (p := ⟨tb, tob + k * 2, none⟩) HTB.out).trans (HTC.out k HK.out).1
              refine drawn_bars (S := (Below wm.heap.size wm)) [([0, 1, 2, 3, 4, 5, 6, 7, 8, 9], 10), ([], 11)] [12, 13, 14, 15, 16] (by kernel_rfl) (by kernel_rfl) (by kernel_rfl) rfl (Below.refl _ _).drew ?_
              refine Phased.go ?_
              simp only [pick, List.map_cons, List.map_nil, List.getElem?_cons_zero, List.getElem?_cons_succ, Option.getD_some]
              repeat (go_big_quiet_step (fail))
              refine wpQuiet_nil ?_
              go_wp2_with fail
              refine (record_any (mT l k) nx wm.drew (by have := HGE.out; omega)).mono ?_; rintro e w4 ⟨rv, rfl, hown, hl1⟩
              obtain ⟨rr, rc, rfl, hrb, hri⟩ := rec_slice hown (by have := HGE.out; omega) (by have := HGE.out; omega)
              have hl2 := bl ((Below.refl wm.heap.size wm).drew) hl1
              clear hown
              go_wp2_with fail
              refine behind_normal ⟨(Below wm.heap.size wm), fun W h => h, hl2, ?_⟩
              refine Phased.go ?_
              simp only [pick, List.map_cons, List.map_nil, List.getElem?_cons_zero, List.getElem?_cons_succ, Option.getD_some]
              repeat (go_big_quiet_step (fail))
              refine wpQuiet_nil ?_
              go_wp2_with fail
              refine (HNW.out _ _ _ hri).mono ?_; rintro e w5 ⟨ow, rw0, cc, rfl, hwo, q1, q2, hl3⟩
              have hl4 := bl hl2 hl3
              go_wp2_with fail
              refine behind_normal ⟨(Below wm.heap.size wm), fun W h => h, hl4, ?_⟩
              refine Phased.end_ ?_
              have hne5 : Nonempty (Held (fun W => W = w5)) := ⟨⟨_, rfl⟩⟩
              simp only [pick, List.map_cons, List.map_nil, List.getElem?_cons_zero, List.getElem?_cons_succ, Option.getD_some]
              repeat (go_big_quiet_step (fail))
              refine wpQuiet_nil ?_
              clear hne5 HNW hne s0 s1 s2 s3 s4 rt
              have hq3 : wm.heap.size ≤ rw0 := Nat.le_trans hl2.size q1
              have P5 := P1.out.bl hl4
              have pc5 : w5.cell? ⟨ob, k, none⟩ = some (.pointer none) := (hl4.cell (p := ⟨ob, k, none⟩) P1.out.row.lt).trans pc1
              have pf5 := P5.row.frozen k
              have hsm := P5.some_ (k := k) (s := ⟨ow, rw0, cc, nx, 0⟩) (size := wm.heap.size) (by omega) HK.out hwo (by have := HGE.out; show 0 < _; omega) Z1.out (by show wm.heap.size ≤ ow; omega) hq3 (fun j hj _ a ha => P1.out.lt hj ha)
              have hms := set_nth_mine HMI.out.1 HMI.out.2 (s0 := ⟨ow, rw0, cc, nx, 0⟩) (x := nx) rfl HK.out
              have HST := Lib.hid (upS_self st k (some ⟨ow, rw0, cc, nx, 0⟩))
              have HCX := Lib.hid (HCI.out.fresh HK.out HSN.out (s := ⟨ow, rw0, cc, nx, 0⟩) rfl)
              have hx8 : Ex (fun b => b = ob) wm (w5.setCell ⟨ob, k, none⟩ (.pointer (some ⟨ow, 0, none⟩))) := (Ex.of_below (T := fun b => b = ob) hl4).setCell (q := ⟨ob, k, none⟩) (.inl rfl) _
              obtain ⟨lamx, hlx⟩ : ∃ f : Nat → Nat, (fun b => if b < wm.heap.size then lam b else k) = f := ⟨_, rfl⟩
              rw [hlx] at hsm
              have hlam : ∀ b, b < wm.heap.size → lamx b = lam b := fun b hb => by rw [← hlx]; exact if_pos hb
              clear hlx
              have hlo : lamx ob = 0 ∧ lamx (ob + 1) = 0 := ⟨(hlam ob (by have := Z1.out; omega)).trans LM.out.1, (hlam (ob + 1) (by have := Z1.out; omega)).trans LM.out.2⟩
              have KX := Lib.hid (K1.out.ex hx8 (by have := ORD.out; omega) (by have := ORD.out; omega))
              have SX0 := Lib.hid (S1.out.ex hx8 (by have := ORD.out; omega))
              have JX := Lib.hid (J1.out.ex hx8 (by have := ORD.out; omega))
              have MX := Lib.hid (M1.out.ex hx8 (by omega))
              have LX := Lib.hid (Ex.below L1.out hx8 (fun b hb => by have := ORD.out; have hb : b = ob := hb; omega))
              have DX := Lib.hid ((D1.out.lam_ hlam).ex hx8 (by have := ORD.out; omega) (fun b hb => by have hb : b = ob := hb; rw [hb, hlo.1]; exact .inr (by omega)))
              have NX := Lib.hid ((N1.out.lam_ hlam).ex hx8 (fun b hb => .inl (by have hb : b = ob := hb; omega)))
              have ZX := Lib.hid (Nat.le_trans Z1.out hx8.size)
              have LMX := Lib.hid hlo
              have PX := Lib.hid hsm
              have MMX := Lib.hid (show (M.set k nx).length = n ∧ _ from ⟨by rw [List.length_set]; exact HMI.out.1, hms⟩)
              have pc : (w5.setCell ⟨ob, k, none⟩ (.pointer (some ⟨ow, 0, none⟩))).cell? ⟨ob, k, none⟩ = some (.pointer (some ⟨ow, 0, none⟩)) := by have h9 := hsm.cell HK.out; rw [upS_self] at h9; exact h9
              clear P1 K1 S1 L1 N1 Z1 J1 M1 D1 HCI HMI LM P5 hsm hms hx8 hwo q1 q2 hq3 hl1 hl2 hl3 hl4 hri hrb HSN hlam hlo pc1
              go_upto_region 28 with fail
              clear pc5 pf5
              generalize (w5.setCell ⟨ob, k, none⟩ (.pointer (some ⟨ow, 0, none⟩))) = wx at *
              generalize upS st k (some ⟨ow, rw0, cc, nx, 0⟩) = st at *
              generalize M.set k nx = M at *
              obtain ⟨s, hs9⟩ : ∃ s : W1, (⟨ow, rw0, cc, nx, 0⟩ : W1) = s := ⟨_, rfl⟩
              have hs8 : ow = s.o := by rw [← hs9]
              rw [hs9] at HST
              clear hs9
              subst hs8
              obtain ⟨hoa, hsi, hbo, hbr, hlo, hlr⟩ := PX.out.ops k HK.out s HST.out
              have HOA := Lib.hid hoa
              have HSI := Lib.hid (show s.i < mT l k + 3 ∧ ob + 2 ≤ s.o ∧ ob + 2 ≤ s.r ∧ lamx s.o = k from ⟨hsi, hbo, hbr, hlo⟩)
              clear hoa hsi hbo hbr hlo hlr
              have HWI := Lib.hid (alone_inv (cnt := cnt k) HGE.out (by have := HCN.out k; have := HI.out; have := HP2.out; omega) s.x (i := s.i) (by have := HSI.out; omega))
              have hqk : nth ws (qT l k) = if s.i ≤ 1 then 2 * (cnt k : Int) else 2 * (cnt k : Int) + 1 := by
                have h9 := HCX.out.b.2 k HK.out
                rw [HST.out] at h9
                simp only at h9
                rw [h9]
                by_cases e : s.i ≤ 1
                · rw [if_pos e, if_neg (by omega)]; omega
                · rw [if_neg e, if_pos (by omega)]
              have hws := w_step (s := laidS l k) (rec := recL (mT l k) s.x) (k := cnt k) (p := pG l k (cnt k)) (ws := ws) (q := qT l k) (t := t) (by rw [recL_len]; have := HGE.out; omega) HGE.out.2.2.1 (by rw [HCX.out.b.1]; exact HGE.out.2.2.2.1) (by have := HCN.out k; have := HI.out; have := HP2.out; omega) HGE.out.2.2.2.2.1 (by rw [recL_len, HCX.out.b.1]; exact HGE.out.2.2.2.2.2.1) (i := s.i) (by rw [recL_len]; exact HSI.out.1) hqk
              rw [recL_len] at hws
              have HWS := Lib.hid hws
              clear hws hqk
              have HHW := Lib.hid (aloneX_how (mT l k) (cnt k) (s.i + 1) (by have := HSI.out; omega))
              have HMX := Lib.hid (MMX.out.2 k HK.out s HST.out)
              go_wp2_with fail
              refine (WStep_any g h s.o s.r s.cc ws t (laidS l k) (recL (mT l k) s.x) 1 (aloneX (mT l k) (cnt k) s.i) wx KX.out HOA.out HWI.out (by have := HSI.out; have := ORD.out; omega)).mono ?_; rintro e w6 ⟨rfl, hk6, ho6, hx6⟩
              rw [HWS.out] at hk6 ho6 ⊢
              rw [HHW.out]
              clear HWS HHW HWI HOA
              have HX6 := Lib.hid hx6
              have K6 := Lib.hid hk6
              have O6 := Lib.hid ho6
              have S6 := Lib.hid (SX0.out.ex hx6 (by have := ORD.out; have := HSI.out; omega))
              have J6 := Lib.hid (JX.out.ex hx6 (by have := ORD.out; have := HSI.out; omega))
              have M6 := Lib.hid (MX.out.ex hx6 (by have := ORD.out; have := HSI.out; omega))
              have D6 := Lib.hid (DX.out.ex hx6 (by have := ORD.out; have := HSI.out; omega) (fun b hb => by have := ORD.out; have := HSI.out; have := HK.out; have hb : b = g ∨ b = h ∨ b = s.o := hb; rcases hb with e | e | e; exact .inl (by omega); exact .inl (by omega); exact .inr (by rw [e]; omega)))
              have L6 := Lib.hid (Ex.below LX.out hx6 (fun b hb => by have := ORD.out; have := HSI.out; have hb : b = g ∨ b = h ∨ b = s.o := hb; omega))
              have N6 := Lib.hid (NX.out.ex hx6 (fun b hb => by have := ORD.out; have := HSI.out; have := HK.out; have hb : b = g ∨ b = h ∨ b = s.o := hb; rcases hb with e | e | e; exact .inl (by omega); exact .inl (by omega); exact .inr (by rw [e]; omega)))
              have Z6 := Lib.hid (Nat.le_trans ZX.out hx6.size)
              clear hk6 ho6 hx6 SX0 LX NX KX ZX JX MX DX pc
              by_cases hlast : s.i + 1 = mT l k + 3
              case neg =>
                rw [if_neg hlast]
                have hpo := PX.out.step ⟨by have := ORD.out; omega, by have := ORD.out; omega, by have := ORD.out; omega⟩ (by have := ORD.out; omega) HK.out HST.out HX6.out O6.out (by have := HSI.out; omega)
                have hci := HCX.out.busy TOK.out HNN.out HK.out HST.out (by have := HSI.out; omega)
                have hmm := mine_step (s1 := { s with i := s.i + 1 }) MMX.out.2 HST.out rfl
                have PO := Lib.hid hpo
                have CI := Lib.hid hci
                have MM := Lib.hid hmm
                clear hpo hci hlast hmm
                go_wp2_with fail
                exact ⟨⟨i + 1, _, _, _, _, _, _, _, _, _, by have := HIN.out; omega, by go_num, rfl, rfl, CI.out, fun j => by have := HCN.out j; omega, by have := HSM.out; omega, PO.out, D6.out, ⟨MMX.out.1, MM.out⟩, M6.out, K6.out, S6.out, J6.out, N6.out.later, Z6.out, LMX.out, L6.out⟩, by have := HIN.out; simp [intOf]; omega⟩
              rw [if_pos hlast]
              have hci := HCX.out.last TOK.out HNN.out HK.out HST.out hlast
              have CI := Lib.hid hci
              have MM := Lib.hid (mine_end (k := k) MMX.out.2)
              have HSC := Lib.hid (sumC_up (cnt := cnt) HK.out)
              clear hci hlast
              obtain ⟨i0_, hi0, hz0, hz1, hz2⟩ := info_parts wordU_info
              have HDK := Lib.hid (D6.out.2 k HK.out)
              have HDL := Lib.hid D6.out.1.lt
              have dcell := D6.out.cell HK.out
              have mcell := M6.out.word (i := k) (by rw [MMX.out.1]; exact HK.out)
              rw [HMX.out] at mcell
              have HDC := Lib.hid dcell
              have HMC := Lib.hid mcell
              clear dcell mcell
              go_upto_region 30 with fail
              have hne : Nonempty (Held (Ex (fun b => ob + 2 ≤ b ∨ (dv k).ownBlock = some b) w6)) := ⟨⟨w6, Ex.refl _ _⟩⟩
              have hdo : ¬ (ob + 2 ≤ db ∨ (dv k).ownBlock = some db) := by
                intro e
                rcases e with e | e
                · have := ORD.out; omega
                · have := (HDK.out.1.lt db e).1; omega
              have hmo : ¬ (ob + 2 ≤ ob + 1 ∨ (dv k).ownBlock = some (ob + 1)) := by
                intro e
                rcases e with e | e
                · omega
                · have h1 := HDK.out.2 _ e
                  have h2 := LMX.out.2
                  omega
              have p1 : ∀ y : Held (Ex (fun b => ob + 2 ≤ b ∨ (dv k).ownBlock = some b) w6), y.w.cell? ⟨db, k, none⟩ = some (dv k) := fun y => Ex.cell (show Ex (fun b => ob + 2 ≤ b ∨ (dv k).ownBlock = some b) w6 y.w from y.ok) HDC.out hdo
              have p2 : ∀ y : Held (Ex (fun b => ob + 2 ≤ b ∨ (dv k).ownBlock = some b) w6), y.w.cell? ⟨ob + 1, k, none⟩ = some (.int .u64 s.x) := fun y => Ex.cell (show Ex (fun b => ob + 2 ≤ b ∨ (dv k).ownBlock = some b) w6 y.w from y.ok) HMC.out hmo
              refine drawn_tail (S := (Ex (fun b => ob + 2 ≤ b ∨ (dv k).ownBlock = some b) w6)) [13] [([0, 1, 2, 3, 4, 5, 6, 7, 8, 9], 10), ([], 11), ([12], 13)] (by kernel_rfl) (by kernel_rfl) (by kernel_rfl) rfl (Ex.refl _ _).drew ?_
              refine PhasedT.go ?_
              simp only [pick, List.map_cons, List.map_nil, List.getElem?_cons_zero, List.getElem?_cons_succ, Option.getD_some]
              repeat (go_big_quiet_step (fail))
              refine wpQuiet_nil ?_
              have EE0 := Lib.hid ((Ex.refl (fun b => ob + 2 ≤ b ∨ (dv k).ownBlock = some b) w6).drew)
              go_wp2_with fail
              refine behind_normal ⟨(Ex (fun b => ob + 2 ≤ b ∨ (dv k).ownBlock = some b) w6), fun W h => h, by first | exact EE0.out.alloc _ | exact fun _ => EE0.out.alloc _, ?_⟩
              refine PhasedT.go ?_
              simp only [pick, List.map_cons, List.map_nil, List.getElem?_cons_zero, List.getElem?_cons_succ, Option.getD_some]
              repeat (go_big_quiet_step (fail))
              refine wpQuiet_nil ?_
              have W7 := Lib.hid (World.ownsRow.alloc (ownsRow_ex (T := fun _ => False) HDK.out.1 ((Ex.refl _ w6).drew) (fun _ _ h => h)) (.cells #[.int .u64 s.x] 42))
              go_wp2_with (at_builtin; refine wpList_append_own_at _ rfl _ _ 41 rfl (db + 1) 42 i0_ (.int .u64 0) 1 8 Try.underlying41 hi0 hz0 hz1 hz2 rfl (by decide) _ _ _ rfl W7.out ⟨w6.drew.heap.size, 0, none⟩ 1 1 [.int .u64 s.x] rfl rfl ?c1 ?c2 ?c3 ?c4 ?c5 ?_)
              case c1 =>
                have hbn := Blk.new w6.drew 42 #[.int .u64 s.x]
                intro j u hj
                match j, hj with
                | 0, hj => simp at hj; subst hj; exact hbn.cell 0
              case c2 =>
                intro u hu
                simp only [List.mem_cons, List.not_mem_nil, or_false] at hu
                subst hu; rfl
              case c3 => have h1 := HCN.out k; have h2 := HI.out; have := HP2.out; unfold maxLen; omega
              case c4 => have h1 := HCN.out k; have h2 := HI.out; have := HP2.out; omega
              case c5 => have h1 := Z6.out; have := ORD.out; simp; omega
              intro v' w8 hown' hgrow _ hat
              have hgr2 : Ex (fun b => (dv k).ownBlock = some b) w6 w8 := (((Ex.refl _ w6).drew).alloc (.cells #[.int .u64 s.x] 42)).trans (Ex.of_grown hgrow)
              obtain ⟨va, vc, hvv⟩ := own_form3 hown'
              subst hvv
              have GR := Lib.hid hgr2
              have hS8 : Ex (fun b => ob + 2 ≤ b ∨ (dv k).ownBlock = some b) w6 w8 := hgr2.mono (fun b hb => .inr hb)
              have hsz8 : w6.heap.size ≤ w6.heap.size + 1 := by omega
              have hpu := D6.out.push (by omega) HK.out hgr2 hown' hat hsz8
              obtain ⟨lamy, hly⟩ : ∃ f : Nat → Nat, (fun b => if b < w6.heap.size then lamx b else n + 3 + k) = f := ⟨_, rfl⟩
              rw [hly] at hpu
              have D8 := Lib.hid hpu
              have dc8 : w8.cell? ⟨db, k, none⟩ = some (dv k) := hgr2.cell HDC.out (fun h => hdo (.inr h))
              have df8 : w8.frozen? ⟨db, k, none⟩ = false := hgr2.frozen (D6.out.1.frozen k) D6.out.1.lt (fun h => hdo (.inr h))
              have HDO := Lib.hid hdo
              have HMO := Lib.hid hmo
              clear hown' hgrow hat hsz8 hpu hgr2 W7 EE0 hdo hmo
              refine behind_normal ⟨(Ex (fun b => ob + 2 ≤ b ∨ (dv k).ownBlock = some b) w6), fun W h => h, by first | exact hS8 | exact fun _ => hS8, ?_⟩
              refine PhasedT.go ?_
              simp only [pick, List.map_cons, List.map_nil, List.getElem?_cons_zero, List.getElem?_cons_succ, Option.getD_some]
              repeat (go_big_quiet_step (fail))
              refine wpQuiet_nil ?_
              go_wp2_with fail
              refine behind_normal ⟨(Ex (fun b => ob + 2 ≤ b ∨ (dv k).ownBlock = some b) w6), fun W h => h, by first | exact fun h => absurd h (by decide) | trivial | simp, ?_⟩
              refine PhasedT.end_ ?_
              clear hne p1 p2 dc8 df8 hS8
              have hx9 : Ex (fun b => (dv k).ownBlock = some b ∨ b = db) w6 (w8.setCell ⟨db, k, none⟩ (.slice va (cnt k + 1 + 1) vc)) := (GR.out.mono (fun b hb => .inl hb)).setCell (q := ⟨db, k, none⟩) (.inl (.inr rfl)) _
              generalize w8.setCell ⟨db, k, none⟩ (.slice va (cnt k + 1 + 1) vc) = w9 at *
              have H9 := Lib.hid (show ∀ b, ((dv k).ownBlock = some b ∨ b = db) → (b = db ∨ (db + 1 ≤ b ∧ b < w6.heap.size ∧ lamx b = n + 3 + k)) from fun b hb => by rcases hb with hb | hb; exact .inr ⟨(HDK.out.1.lt b hb).1, (HDK.out.1.lt b hb).2, HDK.out.2 b hb⟩; exact .inl hb)
              have hlam : ∀ b, b < w6.heap.size → lamy b = lamx b := fun b hb => by rw [← hly]; exact if_pos hb
              clear hly
              have HOS := Lib.hid (show s.o < wx.heap.size from (PX.out.lt HK.out HST.out).1)
              have K9 := Lib.hid (K6.out.ex hx9 (fun hb => by have := H9.out _ hb; have := ORD.out; omega) (fun hb => by have := H9.out _ hb; have := ORD.out; omega))
              have S9 := Lib.hid (S6.out.ex hx9 (fun hb => by have := H9.out _ hb; have := ORD.out; omega))
              have J9 := Lib.hid (J6.out.ex hx9 (fun hb => by have := H9.out _ hb; have := ORD.out; omega))
              have M9 := Lib.hid (M6.out.ex hx9 (fun hb => by have := H9.out _ hb; have := ORD.out; have := LMX.out; omega))
              have L9 := Lib.hid (Ex.below L6.out hx9 (fun b hb => by have := H9.out _ hb; have := ORD.out; omega))
              have Z9 := Lib.hid (Nat.le_trans Z6.out hx9.size)
              have N9 := Lib.hid ((((N6.out.pub TOK.out HM.out k s.x).lam_ hlam).ex hx9 (fun b hb => by have h9 := H9.out _ hb; have := ORD.out; rcases h9 with h9 | h9; exact .inl (by omega); exact .inr (by rw [hlam b h9.2.1]; omega))).later)
              have hob : ¬ ((dv k).ownBlock = some ob ∨ ob = db) := fun hb => by have := H9.out _ hb; have := ORD.out; have := LMX.out; omega
              have hxx : Ex (fun b => (b = g ∨ b = h ∨ b = s.o) ∨ ((dv k).ownBlock = some b ∨ b = db)) wx w9 := (HX6.out.mono (fun b hb => .inl hb)).trans (hx9.mono (fun b hb => .inr hb))
              have hox : ¬ ((ob = g ∨ ob = h ∨ ob = s.o) ∨ ((dv k).ownBlock = some ob ∨ ob = db)) := fun hb => by rcases hb with hb | hb; (have := ORD.out; have := HSI.out; omega); exact hob hb
              have hpo := (PX.out.lam_ (lam' := lamy) (fun b hb => hlam b (Nat.lt_of_lt_of_le hb HX6.out.size))).end2 (by omega) HK.out hxx hox (fun b hb => by
                have := ORD.out
                rcases hb with (e | e | e) | hb
                · exact .inl (by omega)
                · exact .inl (by omega)
                · exact .inr (.inl (by rw [hlam b (by rw [e]; exact Nat.lt_of_lt_of_le HOS.out HX6.out.size), e]; exact HSI.out.2.2.2))
                · have h9 := H9.out _ hb
                  rcases h9 with h9 | h9
                  · exact .inl (by omega)
                  · exact .inr (.inr (by rw [hlam b h9.2.1]; omega))) (cnt k + 1)
              have PO := Lib.hid hpo
              have pc9 : w9.cell? ⟨ob, k, none⟩ = some (ptrV (some s)) := hxx.cell (by have h9 := PX.out.cell HK.out; rw [HST.out] at h9; exact h9) hox
              have pf9 : w9.frozen? ⟨ob, k, none⟩ = false := hxx.frozen (PX.out.row.frozen k) PX.out.row.lt hox
              have ee : Ex (fun b => b = ob) w9 (w9.setCell ⟨ob, k, none⟩ (.pointer none)) := (Ex.refl (fun b => b = ob) w9).setCell (q := ⟨ob, k, none⟩) (.inl rfl) (.pointer none)
              have hlo : lamy ob = 0 ∧ lamy (ob + 1) = 0 := ⟨by rw [hlam _ (by have := Z6.out; omega)]; exact LMX.out.1, by rw [hlam _ (by have := Z6.out; omega)]; exact LMX.out.2⟩
              have HLO := Lib.hid hlo
              have K7 := Lib.hid (K9.out.ex ee (by have := ORD.out; omega) (by have := ORD.out; omega))
              have S7 := Lib.hid (S9.out.ex ee (by have := ORD.out; omega))
              have J7 := Lib.hid (J9.out.ex ee (by have := ORD.out; omega))
              have M7 := Lib.hid (M9.out.ex ee (by omega))
              have D7 := Lib.hid (D8.out.ex ee (by have := ORD.out; omega) (fun b hb => by have hb : b = ob := hb; rw [hb, HLO.out.1]; exact .inr (by omega)))
              have N7 := Lib.hid (N9.out.ex ee (fun b hb => .inl (by have hb : b = ob := hb; omega)))
              have L7 := Lib.hid (Ex.below L9.out ee (fun b hb => by have := ORD.out; have hb : b = ob := hb; omega))
              have Z7 := Lib.hid (Nat.le_trans Z9.out ee.size)
              have ks5 : (sumC cnt n : Int) ≤ 400 := by have := HSM.out; omega
              have ks0 : (0 : Int) ≤ (sumC cnt n : Int) := by omega
              clear ee hx9 hlam hob hxx hox hpo hlo K6 S6 J6 M6 D6 N6 L6 Z6 D8 K9 S9 J9 M9 N9 L9 Z9 GR
              simp only [ptrV, Option.map_some] at pc9
              go_wp2_with fail
              exact ⟨⟨i + 1, _, _, _, _, _, _, _, _, _, by have := HIN.out; omega, by go_num, rfl, by rw [HSC.out]; go_num, CI.out, fun j => up_le HCN.out j, by rw [HSC.out]; have := HSM.out; omega, PO.out, D7.out, ⟨MMX.out.1, MM.out⟩, M7.out, K7.out, S7.out, J7.out, N7.out, Z7.out, HLO.out, L7.out⟩, by have := HIN.out; simp [intOf]; omega⟩
        case pos =>
          have kg : decide (p ≥ 0) = false := decide_eq_false (by omega)
          rcases N0.out with hnil | ⟨o, rs, cs, rg, rw, x, base, frm, NB, vals, hsp, hsl, hsnp, hsok, hnb, hsf, hnl⟩
          case inl =>
            subst hnil
            have jc := J0.out.cell 1
            simp only [List.getElem?_toArray, List.getElem?_cons_succ, List.getElem?_cons_zero] at jc
            go_wp2_with fail
            refine (SNew_in _ n (laidS l) T wc (S0.out.sps (by have := HN5.out; unfold maxLen; omega)) (laid_wrong TOK.out HT.out) m HM.out).mono ?_; rintro e w4 ⟨o, rs, cs, rg, rw, rfl, ho, q0, q1, q2, q3, hl⟩
            have hlam : ∀ b, b < wc.heap.size → (fun b => if b < wc.heap.size then lam b else n) b = lam b := fun b hb => if_pos hb
            have hsl : SnL w4 n m (ob + 2) l (fun b => if b < wc.heap.size then lam b else n) o rs cs rg rw (SX.zero T n m) := ⟨ho, by have := Z0.out; omega, if_neg (by omega), if_neg (by omega), if_neg (by omega), if_neg (by omega)⟩
            obtain ⟨lamx, hlx⟩ : ∃ f : Nat → Nat, (fun b => if b < wc.heap.size then lam b else n) = f := ⟨_, rfl⟩
            rw [hlx] at hsl
            have hlam : ∀ b, b < wc.heap.size → lamx b = lam b := fun b hb => by rw [← hlx]; exact if_pos hb
            clear hlx
            have KX := Lib.hid (K0.out.below hl)
            have SX0 := Lib.hid (S0.out.bl hl)
            have JX := Lib.hid (J0.out.bl hl)
            have MX := Lib.hid (M0.out.bl hl)
            have LX := Lib.hid (bl L0.out hl)
            have PX := Lib.hid ((P0.out.lam_ hlam).bl hl)
            have DX := Lib.hid ((D0.out.lam_ hlam).bl hl)
            have ZX := Lib.hid (Nat.le_trans Z0.out hl.size)
            have LMX := Lib.hid (show lamx ob = 0 ∧ lamx (ob + 1) = 0 from ⟨(hlam ob (by have := Z0.out; omega)).trans LM.out.1, (hlam (ob + 1) (by have := Z0.out; omega)).trans LM.out.2⟩)
            have SLX := Lib.hid hsl
            obtain ⟨NB, vals, hNB, hvals⟩ : ∃ (NB : List (Nat → Nat)) (vals : List Value), NB = [] ∧ vals = [] := ⟨_, _, rfl, rfl⟩
            have SPX := Lib.hid (show Snp n m l T (SX.zero T n m) cnt cnt (sumC cnt n) NB dn from by rw [hNB]; exact Snp.fresh HN5.out.1 HT.out.1)
            have SKX := Lib.hid (show SOk n m (laidS l) T (SX.zero T n m) i from Snp.mono_ (SOk.zero (laid_wrong TOK.out HT.out) HM.out) (Nat.zero_le _))
            have NBX := Lib.hid (show NbAt w4 n (ob + 2) lamx (.slice none 0 0) NB vals from by rw [hNB, hvals]; exact NbAt.nil _ _ _ _)
            have NLX := Lib.hid (show NB.length ≤ i from by rw [hNB]; exact Nat.zero_le _)
            clear hNB hvals
            clear jc hsl hlam ho q0 q1 q2 q3 hl K0 S0 J0 M0 L0 P0 D0 Z0 LM N0
            generalize SX.zero T n m = x at *
            go_wp2_with fail
            as_aux_lemma =>
              have OQ := Lib.hid (show ob + 2 ≤ o ∧ ob + 2 ≤ rs ∧ ob + 2 ≤ rg ∧ ob + 2 ≤ rw ∧ lamx o = n ∧ lamx rg = n ∧ lamx rw = n from ⟨SLX.out.2.1.1, SLX.out.2.1.2.1, SLX.out.2.1.2.2.1, SLX.out.2.1.2.2.2, SLX.out.2.2.1, SLX.out.2.2.2.2.1, SLX.out.2.2.2.2.2⟩)
              refine (SStep_any g h o rs cs rg rw n m ws t (laidS l) x w4 KX.out SLX.out.1 SKX.out.inv (by have := OQ.out; have := ORD.out; omega)).mono ?_; rintro e w6 ⟨rfl, hk6, ho6, hx6⟩
              have K6 := Lib.hid hk6
              have O6 := Lib.hid ho6
              have TT := Lib.hid (show ∀ b, (b = g ∨ b = h ∨ b = o ∨ b = rg ∨ b = rw) → (b < db ∨ (ob + 2 ≤ b ∧ lamx b = n)) from fun b hb => by have h1 := OQ.out; have h2 := ORD.out; rcases hb with e | e | e | e | e; exact .inl (by omega); exact .inl (by omega); exact .inr (by rw [e]; omega); exact .inr (by rw [e]; omega); exact .inr (by rw [e]; omega))
              have S6 := Lib.hid (SX0.out.ex hx6 (by have := ORD.out; have := OQ.out; omega))
              have J6 := Lib.hid (JX.out.ex hx6 (by have := ORD.out; have := OQ.out; omega))
              have M6 := Lib.hid (MX.out.ex hx6 (by have := ORD.out; have := OQ.out; omega))
              have L6 := Lib.hid (Ex.below LX.out hx6 (fun b hb => by have := ORD.out; have := OQ.out; have hb : b = g ∨ b = h ∨ b = o ∨ b = rg ∨ b = rw := hb; omega))
              have P6 := Lib.hid (PX.out.ex2 hx6 (by have := ORD.out; have := OQ.out; omega) (fun b hb => by have := TT.out b hb; have := ORD.out; omega))
              have D6 := Lib.hid (DX.out.ex hx6 (by have := ORD.out; have := OQ.out; omega) (fun b hb => by have := TT.out b hb; omega))
              have NB6 := Lib.hid (NBX.out.ex hx6 (fun b hb => by have := TT.out b hb; have := ORD.out; omega))
              have Z6 := Lib.hid (Nat.le_trans ZX.out hx6.size)
              have ST := Lib.hid (SPX.out.step TOK.out HNN.out HM.out HCI.out)
              have SK6 := Lib.hid (SKX.out.step HWF.out (by have := HI.out; have := HP2.out; omega))
              have SL6 := Lib.hid (show SnL w6 n m (ob + 2) l lamx o rs cs rg rw (sStepF (laidS l) n m ws x) from ⟨O6.out, SLX.out.2⟩)
              clear hk6 ho6 hx6 KX SX0 JX MX LX PX DX ZX NBX SLX SPX SKX O6 TT
              generalize sStepF (laidS l) n m ws x = x6 at *
              generalize sTickF (laidS l) n m ws x t = t6 at *
              obtain ⟨hw, hhw⟩ : ∃ a, x6.how = a := ⟨_, rfl⟩
              rw [hhw]
              have HHW := Lib.hid hhw
              obtain ⟨i0_, hi0, hz0, hz1, hz2⟩ := info_parts int_info
              clear hhw
              go_wp2_with fail
              obtain ⟨wk6, rfl⟩ : ∃ wk6 : World, wk6 = w6 := ⟨_, rfl⟩
              go_loopw [27, 28] (fun s27 s28 wr => ∃ (k : Nat), k ≤ n ∧ s28 = .int .i64 k ∧ wr.ownsRow wk6.heap.size 3 1 s27 k ((ofF k fun j => (cnt j : Int)).map (Value.int .i64)) ∧ Below wk6.heap.size wk6 wr) (fun s27 s28 _ => n - (intOf s28).toNat)
              case atStart => exact ⟨0, by omega, rfl, World.ownsRow_nil _ _ _ _, Below.refl _ _⟩
              case round =>
                obtain ⟨k, hk, rfl, how, hl⟩ := hrel
                have W0 := Lib.hid how
                have X0 := Lib.hid hl
                clear how hl
                by_cases hlt : k < n
                · have kd : decide ((k : Int) < (n : Int)) = true := decide_eq_true (by omega)
                  have ki0 : (0 : Int) ≤ (k : Int) := by omega
                  have ki1 : (k : Int) < (n : Int) := by omega
                  have ki5 : (k : Int) ≤ 5 := by have := HN5.out; omega
                  have HK := Lib.hid hlt
                  obtain ⟨ck, hck⟩ : ∃ z, cnt k = z := ⟨_, rfl⟩
                  obtain ⟨da, dc, hdv⟩ := own_form3 (D6.out.2 k HK.out).1
                  have d1 : wr.cell? ⟨db, k, none⟩ = some (dv k) := (X0.out.cell (p := ⟨db, k, none⟩) D6.out.1.lt).trans (D6.out.cell HK.out)
                  rw [hdv, hck] at d1
                  have HCK := Lib.hid (show cnt k = ck ∧ ck ≤ 400 from ⟨hck, by have := HCN.out k; have := HI.out; have := HP2.out; omega⟩)
                  have kc5 : (ck : Int) ≤ 400 := by have := HCK.out; omega
                  clear hk hlt hdv hck
                  go_wp2_with (at_builtin; refine wpList_append_own _ rfl _ _ 57 rfl wk6.heap.size 3 i0_ (.int .i64 0) 1 8 Try.underlying57 hi0 hz0 hz1 hz2 rfl (by decide) _ _ _ rfl (World.ownsRow.alloc W0.out _) ⟨wr.heap.size, 0, none⟩ 1 1 [.int .i64 (ck : Int)] rfl rfl ?c1 ?c2 ?c3 ?c4 ?c5 ?_)
                  case c1 =>
                    have hbn := Blk.new wr 3 #[.int .i64 (ck : Int)]
                    intro j u hj
                    match j, hj with
                    | 0, hj => simp at hj; subst hj; exact hbn.cell 0
                  case c2 =>
                    intro u hu
                    simp only [List.mem_cons, List.not_mem_nil, or_false] at hu
                    subst hu; rfl
                  case c3 => have := HN5.out; have := HK.out; unfold maxLen; omega
                  case c4 => have := HN5.out; have := HK.out; omega
                  case c5 => have := X0.out.size; simp; omega
                  intro v' w8 hown' hgrow _
                  have hbel := (X0.out.alloc (Nat.le_trans (Nat.le_refl _) X0.out.size) (.cells #[.int .i64 (ck : Int)] 3)).grown hgrow (by have := X0.out.size; simp; omega) (fun k hk => (World.ownsRow.lt W0.out k hk).1)
                  rw [show (ofF k fun j => (cnt j : Int)).map (Value.int .i64) ++ [Value.int .i64 (ck : Int)] = (ofF (k + 1) fun j => (cnt j : Int)).map (Value.int .i64) by rw [ofF_succ, List.map_append, HCK.out.1]; rfl] at hown'
                  have W9 := Lib.hid hown'
                  have X9 := Lib.hid hbel
                  clear hown' hbel hgrow
                  go_wp2_with fail
                  exact ⟨⟨k + 1, by have := HK.out; omega, by go_num, W9.out, X9.out⟩, by have := HK.out; simp [intOf]; omega⟩
                · obtain rfl : k = n := by omega
                  have kd : decide ((k : Int) < (k : Int)) = false := decide_eq_false (by omega)
                  obtain ⟨n, rfl⟩ : ∃ n, n = k := ⟨_, rfl⟩
                  have how : wr.ownsRow wk6.heap.size 3 1 u27 (ofF n fun j => (cnt j : Int)).length ((ofF n fun j => (cnt j : Int)).map (Value.int .i64)) := by rw [ofF_len]; exact W0.out
                  obtain ⟨nr, nc, hnw, hnr, hni⟩ := intsIn_of_own how (by rw [ofF_len]; have := HN5.out; unfold maxLen; omega) (by intro e; have h1 := ofF_len n (fun j => (cnt j : Int)); have := HN5.out; rw [e] at h1; simp at h1; omega)
                  rw [ofF_len] at hnw
                  subst hnw
                  have HNI := Lib.hid hni
                  have HNR := Lib.hid hnr
                  clear how hni hnr hlt hk
                  obtain ⟨j0_, hj0, hy0, hy1, hy2⟩ := info_parts irow_info
                  obtain ⟨lamy, hly⟩ : ∃ f : Nat → Nat, (fun b => if b < wk6.heap.size then lamx b else n + 2) = f := ⟨_, rfl⟩
                  have hlam : ∀ b, b < wk6.heap.size → lamy b = lamx b := fun b hb => by rw [← hly]; exact if_pos hb
                  have HLY := Lib.hid hlam
                  have HLN := Lib.hid (show lamy nr = n + 2 from by rw [← hly]; exact if_neg (by have := HNR.out; omega))
                  have NB7 := Lib.hid ((NB6.out.lam_ hlam).bl X0.out)
                  clear hly hlam
                  go_wp2_with (at_builtin; refine wpList_append_own_at _ rfl _ _ 73 rfl (ob + 2) 57 j0_ (.slice none 0 0) 1 24 Try.underlying73 hj0 hy0 hy1 hy2 rfl (by decide) _ _ _ rfl (World.ownsRow.alloc NB7.out.2.1 _) ⟨wr.heap.size, 0, none⟩ 1 1 [.slice (some ⟨nr, 0, none⟩) n nc] rfl rfl ?d1 ?d2 ?d3 ?d4 ?d5 ?_)
                  case d1 =>
                    have hbn := Blk.new wr 57 #[.slice (some ⟨nr, 0, none⟩) n nc]
                    intro j u hj
                    match j, hj with
                    | 0, hj => simp at hj; subst hj; exact hbn.cell 0
                  case d2 =>
                    intro u hu
                    simp only [List.mem_cons, List.not_mem_nil, or_false] at hu
                    subst hu; rfl
                  case d3 => have := NLX.out; have := HI.out; have := HP2.out; unfold maxLen; omega
                  case d4 => have := NLX.out; have := HI.out; have := HP2.out; omega
                  case d5 => have := X0.out.size; have := Z6.out; simp; omega
                  intro v' w8 hown' hgrow _ hat
                  have hgr2 := ((Ex.refl _ wr).alloc (.cells #[.slice (some ⟨nr, 0, none⟩) n nc] 57)).trans (Ex.of_grown hgrow)
                  have hsz8 : wr.heap.size ≤ wr.heap.size + 1 := by omega
                  have hpu := NB7.out.push hgr2 hown' (by simpa using hat) hsz8 (by have := HNR.out; have := Z6.out; omega) HLN.out HNI.out
                  obtain ⟨lamz, hlz⟩ : ∃ f : Nat → Nat, (fun b => if b < wr.heap.size then lamy b else n + 1) = f := ⟨_, rfl⟩
                  rw [hlz] at hpu
                  have hlamz : ∀ b, b < wk6.heap.size → lamz b = lamx b := fun b hb => by rw [← hlz]; exact (if_pos (Nat.lt_of_lt_of_le hb X0.out.size)).trans (HLY.out b hb)
                  obtain ⟨q, hq⟩ : ∃ q : Nat, NB.length + 1 = q := ⟨_, rfl⟩
                  have HQ := Lib.hid hq
                  rw [hq] at hown'
                  obtain ⟨va, vc, hvv⟩ := own_form3 hown'
                  subst hvv
                  have NB8 := Lib.hid hpu
                  have hx8 := (Ex.of_below X0.out).trans hgr2
                  have T8 := Lib.hid (fun (b : Nat) hb => And.intro (NB6.out.2.1.lt b hb) ((hlamz b (NB6.out.2.1.lt b hb).2).trans (NB6.out.2.2.1 b hb)))
                  have K8 := Lib.hid (K6.out.ex hx8 (fun hb => by have := T8.out _ hb; have := ORD.out; omega) (fun hb => by have := T8.out _ hb; have := ORD.out; omega))
                  have S8 := Lib.hid (S6.out.ex hx8 (fun hb => by have := T8.out _ hb; have := ORD.out; omega))
                  have J8 := Lib.hid (J6.out.ex hx8 (fun hb => by have := T8.out _ hb; have := ORD.out; omega))
                  have M8 := Lib.hid (M6.out.ex hx8 (fun hb => by have := T8.out _ hb; have := ORD.out; omega))
                  have L8 := Lib.hid (Ex.below L6.out hx8 (fun b hb => by have := T8.out b hb; have := ORD.out; omega))
                  have P8 := Lib.hid ((P6.out.lam_ hlamz).ex2 hx8 (fun hb => by have := T8.out _ hb; omega) (fun b hb => by have := T8.out b hb; omega))
                  have D8 := Lib.hid ((D6.out.lam_ hlamz).ex hx8 (fun hb => by have := T8.out _ hb; have := ORD.out; omega) (fun b hb => .inr (by have := T8.out b hb; omega)))
                  have SL8 := Lib.hid ((SL6.out.lam_ hlamz).ex hx8 (fun b hb => .inr (by have := T8.out b hb; omega)))
                  have Z8 := Lib.hid (Nat.le_trans Z6.out hx8.size)
                  have LM8 := Lib.hid (show lamz ob = 0 ∧ lamz (ob + 1) = 0 from ⟨(hlamz ob (by have := Z6.out; omega)).trans LMX.out.1, (hlamz (ob + 1) (by have := Z6.out; omega)).trans LMX.out.2⟩)
                  have HQX := Lib.hid (step_cnt ST.out q hq)
                  have HMM := Lib.hid (most_laid TOK.out HT.out HM.out)
                  clear hpu hlz hlamz hown' hgr2 hgrow hat hsz8 hx8 T8 X0 HNI HNR HLN HLY NB7 NB6 K6 S6 J6 M6 L6 P6 D6 SL6 Z6 hq LMX
                  obtain ⟨wj, rfl⟩ : ∃ wj : World, wj = w8 := ⟨_, rfl⟩
                  have jc := J8.out.cell 1
                  simp only [List.getElem?_toArray, List.getElem?_cons_succ, List.getElem?_cons_zero] at jc
                  obtain ⟨mx, hmx⟩ : ∃ z, sMostF n (laidS l) T = z := ⟨_, rfl⟩
                  have HMX := Lib.hid hmx
                  have k1 : ((q : Int) != (q : Int)) = false := by simp
                  have k2 : decide ((q : Int) > mx) = false := decide_eq_false (by have h1 := HQX.out.2.1; have h2 := HMM.out; rw [hmx] at h2; omega)
                  have k3 : (hw == (3 : Int)) = false := beq_eq_false_iff_ne.2 (by rw [← HHW.out]; exact HQX.out.2.2)
                  clear hmx
                  go_wp2_with fail
                  refine (XSteps_any o rs cs rg rw n m (laidS l) x6 wj SL8.out.1).mono ?_; rintro e w9 ⟨rfl, hw9⟩
                  subst hw9
                  rw [HQX.out.1]
                  go_wp2_with fail
                  refine (sMost_any _ n (laidS l) T wj (S8.out.sps (by have := HN5.out; unfold maxLen; omega))).mono ?_; rintro e w9 ⟨rfl, hl9⟩
                  rw [HMX.out]
                  have K9 := Lib.hid (K8.out.below hl9)
                  have S9 := Lib.hid (S8.out.bl hl9)
                  have J9 := Lib.hid (J8.out.bl hl9)
                  have M9 := Lib.hid (M8.out.bl hl9)
                  have L9 := Lib.hid (bl L8.out hl9)
                  have P9 := Lib.hid (P8.out.bl hl9)
                  have D9 := Lib.hid (D8.out.bl hl9)
                  have SL9 := Lib.hid (SL8.out.ex (T := fun _ => False) (Ex.of_below hl9) (fun _ hb => hb.elim))
                  have NB9 := Lib.hid (NB8.out.bl hl9)
                  have Z9 := Lib.hid (Nat.le_trans Z8.out hl9.size)
                  have jc9 := J9.out.cell 1
                  simp only [List.getElem?_toArray, List.getElem?_cons_succ, List.getElem?_cons_zero] at jc9
                  clear hl9 jc K8 S8 J8 M8 L8 P8 D8 SL8 NB8 Z8
                  rcases ST.out with ⟨e0, base', hs⟩ | ⟨e0, hsf, -, -⟩ | ⟨e0, hfr, -, -⟩
                  · have HSN := Lib.hid hs
                    obtain rfl : hw = 0 := HHW.out.symm.trans e0
                    clear hs e0 k3
                    go_wp2_with fail
                    exact ⟨⟨i + 1, _, _, _, _, _, _, _, _, _, by have := HIN.out; omega, by go_num, rfl, rfl, HCI.out, fun j => by have := HCN.out j; omega, by have := HSM.out; omega, P9.out, D9.out, HMI.out, M9.out, K9.out, S9.out, J9.out, .inr ⟨o, rs, cs, rg, rw, x6, base', _, _, _, rfl, SL9.out, HSN.out, SK6.out, NB9.out, rfl, by rw [List.length_append]; have := NLX.out; simp; omega⟩, Z9.out, LM8.out, L9.out⟩, by have := HIN.out; simp [intOf]; omega⟩
                  · have HSF := Lib.hid hsf
                    obtain rfl : hw = 1 := HHW.out.symm.trans e0
                    clear hsf e0 k3
                    go_wp2_with fail
                    refine (told_any o rs cs rg rw n m db (db + 1) l x6 lamz cnt dn dv (NB ++ [cnt]) _ _ _ w9 TOK.out HM.out SL9.out.1 HHW.out HSF.out (HTP.out.below L9.out) D9.out (NB9.out.low (by have := ORD.out; omega)) (by rw [List.length_append]; have := NLX.out; have := HI.out; have := HP2.out; simp; omega) (fun j _ => by have := HCN.out j; have := HI.out; have := HP2.out; omega)).mono ?_; rintro e wz ⟨rfl, hlz⟩
                    have KA := Lib.hid (K9.out.below hlz)
                    have SA := Lib.hid (S9.out.bl hlz)
                    have JA := Lib.hid (J9.out.bl hlz)
                    have MA := Lib.hid (M9.out.bl hlz)
                    have LA := Lib.hid (bl L9.out hlz)
                    have PA := Lib.hid (P9.out.bl hlz)
                    have DA := Lib.hid (D9.out.bl hlz)
                    have ZA := Lib.hid (Nat.le_trans Z9.out hlz.size)
                    clear hlz jc9 K9 S9 J9 M9 L9 P9 D9 Z9
                    go_wp2_with fail
                    exact ⟨⟨i + 1, _, _, _, _, _, _, _, _, _, by have := HIN.out; omega, by go_num, rfl, rfl, HCI.out, fun j => by have := HCN.out j; omega, by have := HSM.out; omega, PA.out, DA.out, HMI.out, MA.out, KA.out, SA.out, JA.out, .inl rfl, ZA.out, LM8.out, LA.out⟩, by have := HIN.out; simp [intOf]; omega⟩
                  · exact absurd hfr (by have := HT.out; omega)
          case inr =>
            subst hsp
            subst hsf
            have KX := Lib.hid K0.out
            have SX0 := Lib.hid S0.out
            have JX := Lib.hid J0.out
            have MX := Lib.hid M0.out
            have LX := Lib.hid L0.out
            have PX := Lib.hid P0.out
            have DX := Lib.hid D0.out
            have ZX := Lib.hid Z0.out
            have LMX := Lib.hid LM.out
            have SLX := Lib.hid hsl
            have SPX := Lib.hid hsnp
            have SKX := Lib.hid hsok
            have NBX := Lib.hid hnb
            have NLX := Lib.hid hnl
            clear hsl hsnp hsok hnb hnl K0 S0 J0 M0 L0 P0 D0 Z0 LM N0
            obtain ⟨lamx, rfl⟩ : ∃ f, f = lam := ⟨_, rfl⟩
            go_wp2_with fail
            as_aux_lemma =>
              have OQ := Lib.hid (show ob + 2 ≤ o ∧ ob + 2 ≤ rs ∧ ob + 2 ≤ rg ∧ ob + 2 ≤ rw ∧ lamx o = n ∧ lamx rg = n ∧ lamx rw = n from ⟨SLX.out.2.1.1, SLX.out.2.1.2.1, SLX.out.2.1.2.2.1, SLX.out.2.1.2.2.2, SLX.out.2.2.1, SLX.out.2.2.2.2.1, SLX.out.2.2.2.2.2⟩)
              refine (SStep_any g h o rs cs rg rw n m ws t (laidS l) x wc KX.out SLX.out.1 SKX.out.inv (by have := OQ.out; have := ORD.out; omega)).mono ?_; rintro e w6 ⟨rfl, hk6, ho6, hx6⟩
              have K6 := Lib.hid hk6
              have O6 := Lib.hid ho6
              have TT := Lib.hid (show ∀ b, (b = g ∨ b = h ∨ b = o ∨ b = rg ∨ b = rw) → (b < db ∨ (ob + 2 ≤ b ∧ lamx b = n)) from fun b hb => by have h1 := OQ.out; have h2 := ORD.out; rcases hb with e | e | e | e | e; exact .inl (by omega); exact .inl (by omega); exact .inr (by rw [e]; omega); exact .inr (by rw [e]; omega); exact .inr (by rw [e]; omega))
              have S6 := Lib.hid (SX0.out.ex hx6 (by have := ORD.out; have := OQ.out; omega))
              have J6 := Lib.hid (JX.out.ex hx6 (by have := ORD.out; have := OQ.out; omega))
              have M6 := Lib.hid (MX.out.ex hx6 (by have := ORD.out; have := OQ.out; omega))
              have L6 := Lib.hid (Ex.below LX.out hx6 (fun b hb => by have := ORD.out; have := OQ.out; have hb : b = g ∨ b = h ∨ b = o ∨ b = rg ∨ b = rw := hb; omega))
              have P6 := Lib.hid (PX.out.ex2 hx6 (by have := ORD.out; have := OQ.out; omega) (fun b hb => by have := TT.out b hb; have := ORD.out; omega))
              have D6 := Lib.hid (DX.out.ex hx6 (by have := ORD.out; have := OQ.out; omega) (fun b hb => by have := TT.out b hb; omega))
              have NB6 := Lib.hid (NBX.out.ex hx6 (fun b hb => by have := TT.out b hb; have := ORD.out; omega))
              have Z6 := Lib.hid (Nat.le_trans ZX.out hx6.size)
              have ST := Lib.hid (SPX.out.step TOK.out HNN.out HM.out HCI.out)
              have SK6 := Lib.hid (SKX.out.step HWF.out (by have := HI.out; have := HP2.out; omega))
              have SL6 := Lib.hid (show SnL w6 n m (ob + 2) l lamx o rs cs rg rw (sStepF (laidS l) n m ws x) from ⟨O6.out, SLX.out.2⟩)
              clear hk6 ho6 hx6 KX SX0 JX MX LX PX DX ZX NBX SLX SPX SKX O6 TT
              generalize sStepF (laidS l) n m ws x = x6 at *
              generalize sTickF (laidS l) n m ws x t = t6 at *
              obtain ⟨hw, hhw⟩ : ∃ a, x6.how = a := ⟨_, rfl⟩
              rw [hhw]
              have HHW := Lib.hid hhw
              obtain ⟨i0_, hi0, hz0, hz1, hz2⟩ := info_parts int_info
              clear hhw
              go_wp2_with fail
              obtain ⟨wk6, rfl⟩ : ∃ wk6 : World, wk6 = w6 := ⟨_, rfl⟩
              go_loopw [27, 28] (fun s27 s28 wr => ∃ (k : Nat), k ≤ n ∧ s28 = .int .i64 k ∧ wr.ownsRow wk6.heap.size 3 1 s27 k ((ofF k fun j => (cnt j : Int)).map (Value.int .i64)) ∧ Below wk6.heap.size wk6 wr) (fun s27 s28 _ => n - (intOf s28).toNat)
              case atStart => exact ⟨0, by omega, rfl, World.ownsRow_nil _ _ _ _, Below.refl _ _⟩
              case round =>
                obtain ⟨k, hk, rfl, how, hl⟩ := hrel
                have W0 := Lib.hid how
                have X0 := Lib.hid hl
                clear how hl
                by_cases hlt : k < n
                · have kd : decide ((k : Int) < (n : Int)) = true := decide_eq_true (by omega)
                  have ki0 : (0 : Int) ≤ (k : Int) := by omega
                  have ki1 : (k : Int) < (n : Int) := by omega
                  have ki5 : (k : Int) ≤ 5 := by have := HN5.out; omega
                  have HK := Lib.hid hlt
                  obtain ⟨ck, hck⟩ : ∃ z, cnt k = z := ⟨_, rfl⟩
                  obtain ⟨da, dc, hdv⟩ := own_form3 (D6.out.2 k HK.out).1
                  have d1 : wr.cell? ⟨db, k, none⟩ = some (dv k) := (X0.out.cell (p := ⟨db, k, none⟩) D6.out.1.lt).trans (D6.out.cell HK.out)
                  rw [hdv, hck] at d1
                  have HCK := Lib.hid (show cnt k = ck ∧ ck ≤ 400 from ⟨hck, by have := HCN.out k; have := HI.out; have := HP2.out; omega⟩)
                  have kc5 : (ck : Int) ≤ 400 := by have := HCK.out; omega
                  clear hk hlt hdv hck
                  go_wp2_with (at_builtin; refine wpList_append_own _ rfl _ _ 57 rfl wk6.heap.size 3 i0_ (.int .i64 0) 1 8 Try.underlying57 hi0 hz0 hz1 hz2 rfl (by decide) _ _ _ rfl (World.ownsRow.alloc W0.out _) ⟨wr.heap.size, 0, none⟩ 1 1 [.int .i64 (ck : Int)] rfl rfl ?c1 ?c2 ?c3 ?c4 ?c5 ?_)
                  case c1 =>
                    have hbn := Blk.new wr 3 #[.int .i64 (ck : Int)]
                    intro j u hj
                    match j, hj with
                    | 0, hj => simp at hj; subst hj; exact hbn.cell 0
                  case c2 =>
                    intro u hu
                    simp only [List.mem_cons, List.not_mem_nil, or_false] at hu
                    subst hu; rfl
                  case c3 => have := HN5.out; have := HK.out; unfold maxLen; omega
                  case c4 => have := HN5.out; have := HK.out; omega
                  case c5 => have := X0.out.size; simp; omega
                  intro v' w8 hown' hgrow _
                  have hbel := (X0.out.alloc (Nat.le_trans (Nat.le_refl _) X0.out.size) (.cells #[.int .i64 (ck : Int)] 3)).grown hgrow (by have := X0.out.size; simp; omega) (fun k hk => (World.ownsRow.lt W0.out k hk).1)
                  rw [show (ofF k fun j => (cnt j : Int)).map (Value.int .i64) ++ [Value.int .i64 (ck : Int)] = (ofF (k + 1) fun j => (cnt j : Int)).map (Value.int .i64) by rw [ofF_succ, List.map_append, HCK.out.1]; rfl] at hown'
                  have W9 := Lib.hid hown'
                  have X9 := Lib.hid hbel
                  clear hown' hbel hgrow
                  go_wp2_with fail
                  exact ⟨⟨k + 1, by have := HK.out; omega, by go_num, W9.out, X9.out⟩, by have := HK.out; simp [intOf]; omega⟩
                · obtain rfl : k = n := by omega
                  have kd : decide ((k : Int) < (k : Int)) = false := decide_eq_false (by omega)
                  obtain ⟨n, rfl⟩ : ∃ n, n = k := ⟨_, rfl⟩
                  have how : wr.ownsRow wk6.heap.size 3 1 u27 (ofF n fun j => (cnt j : Int)).length ((ofF n fun j => (cnt j : Int)).map (Value.int .i64)) := by rw [ofF_len]; exact W0.out
                  obtain ⟨nr, nc, hnw, hnr, hni⟩ := intsIn_of_own how (by rw [ofF_len]; have := HN5.out; unfold maxLen; omega) (by intro e; have h1 := ofF_len n (fun j => (cnt j : Int)); have := HN5.out; rw [e] at h1; simp at h1; omega)
                  rw [ofF_len] at hnw
                  subst hnw
                  have HNI := Lib.hid hni
                  have HNR := Lib.hid hnr
                  clear how hni hnr hlt hk
                  obtain ⟨j0_, hj0, hy0, hy1, hy2⟩ := info_parts irow_info
                  obtain ⟨lamy, hly⟩ : ∃ f : Nat → Nat, (fun b => if b < wk6.heap.size then lamx b else n + 2) = f := ⟨_, rfl⟩
                  have hlam : ∀ b, b < wk6.heap.size → lamy b = lamx b := fun b hb => by rw [← hly]; exact if_pos hb
                  have HLY := Lib.hid hlam
                  have HLN := Lib.hid (show lamy nr = n + 2 from by rw [← hly]; exact if_neg (by have := HNR.out; omega))
                  have NB7 := Lib.hid ((NB6.out.lam_ hlam).bl X0.out)
                  clear hly hlam
                  go_wp2_with (at_builtin; refine wpList_append_own_at _ rfl _ _ 73 rfl (ob + 2) 57 j0_ (.slice none 0 0) 1 24 Try.underlying73 hj0 hy0 hy1 hy2 rfl (by decide) _ _ _ rfl (World.ownsRow.alloc NB7.out.2.1 _) ⟨wr.heap.size, 0, none⟩ 1 1 [.slice (some ⟨nr, 0, none⟩) n nc] rfl rfl ?d1 ?d2 ?d3 ?d4 ?d5 ?_)
                  case d1 =>
                    have hbn := Blk.new wr 57 #[.slice (some ⟨nr, 0, none⟩) n nc]
                    intro j u hj
                    match j, hj with
                    | 0, hj => simp at hj; subst hj; exact hbn.cell 0
                  case d2 =>
                    intro u hu
                    simp only [List.mem_cons, List.not_mem_nil, or_false] at hu
                    subst hu; rfl
                  case d3 => have := NLX.out; have := HI.out; have := HP2.out; unfold maxLen; omega
                  case d4 => have := NLX.out; have := HI.out; have := HP2.out; omega
                  case d5 => have := X0.out.size; have := Z6.out; simp; omega
                  intro v' w8 hown' hgrow _ hat
                  have hgr2 := ((Ex.refl _ wr).alloc (.cells #[.slice (some ⟨nr, 0, none⟩) n nc] 57)).trans (Ex.of_grown hgrow)
                  have hsz8 : wr.heap.size ≤ wr.heap.size + 1 := by omega
                  have hpu := NB7.out.push hgr2 hown' (by simpa using hat) hsz8 (by have := HNR.out; have := Z6.out; omega) HLN.out HNI.out
                  obtain ⟨lamz, hlz⟩ : ∃ f : Nat → Nat, (fun b => if b < wr.heap.size then lamy b else n + 1) = f := ⟨_, rfl⟩
                  rw [hlz] at hpu
                  have hlamz : ∀ b, b < wk6.heap.size → lamz b = lamx b := fun b hb => by rw [← hlz]; exact (if_pos (Nat.lt_of_lt_of_le hb X0.out.size)).trans (HLY.out b hb)
                  obtain ⟨q, hq⟩ : ∃ q : Nat, NB.length + 1 = q := ⟨_, rfl⟩
                  have HQ := Lib.hid hq
                  rw [hq] at hown'
                  obtain ⟨va, vc, hvv⟩ := own_form3 hown'
                  subst hvv
                  have NB8 := Lib.hid hpu
                  have hx8 := (Ex.of_below X0.out).trans hgr2
                  have T8 := Lib.hid (fun (b : Nat) hb => And.intro (NB6.out.2.1.lt b hb) ((hlamz b (NB6.out.2.1.lt b hb).2).trans (NB6.out.2.2.1 b hb)))
                  have K8 := Lib.hid (K6.out.ex hx8 (fun hb => by have := T8.out _ hb; have := ORD.out; omega) (fun hb => by have := T8.out _ hb; have := ORD.out; omega))
                  have S8 := Lib.hid (S6.out.ex hx8 (fun hb => by have := T8.out _ hb; have := ORD.out; omega))
                  have J8 := Lib.hid (J6.out.ex hx8 (fun hb => by have := T8.out _ hb; have := ORD.out; omega))
                  have M8 := Lib.hid (M6.out.ex hx8 (fun hb => by have := T8.out _ hb; have := ORD.out; omega))
                  have L8 := Lib.hid (Ex.below L6.out hx8 (fun b hb => by have := T8.out b hb; have := ORD.out; omega))
                  have P8 := Lib.hid ((P6.out.lam_ hlamz).ex2 hx8 (fun hb => by have := T8.out _ hb; omega) (fun b hb => by have := T8.out b hb; omega))
                  have D8 := Lib.hid ((D6.out.lam_ hlamz).ex hx8 (fun hb => by have := T8.out _ hb; have := ORD.out; omega) (fun b hb => .inr (by have := T8.out b hb; omega)))
                  have SL8 := Lib.hid ((SL6.out.lam_ hlamz).ex hx8 (fun b hb => .inr (by have := T8.out b hb; omega)))
                  have Z8 := Lib.hid (Nat.le_trans Z6.out hx8.size)
                  have LM8 := Lib.hid (show lamz ob = 0 ∧ lamz (ob + 1) = 0 from ⟨(hlamz ob (by have := Z6.out; omega)).trans LMX.out.1, (hlamz (ob + 1) (by have := Z6.out; omega)).trans LMX.out.2⟩)
                  have HQX := Lib.hid (step_cnt ST.out q hq)
                  have HMM := Lib.hid (most_laid TOK.out HT.out HM.out)
                  clear hpu hlz hlamz hown' hgr2 hgrow hat hsz8 hx8 T8 X0 HNI HNR HLN HLY NB7 NB6 K6 S6 J6 M6 L6 P6 D6 SL6 Z6 hq LMX
                  obtain ⟨wj, rfl⟩ : ∃ wj : World, wj = w8 := ⟨_, rfl⟩
                  have jc := J8.out.cell 1
                  simp only [List.getElem?_toArray, List.getElem?_cons_succ, List.getElem?_cons_zero] at jc
                  obtain ⟨mx, hmx⟩ : ∃ z, sMostF n (laidS l) T = z := ⟨_, rfl⟩
                  have HMX := Lib.hid hmx
                  have k1 : ((q : Int) != (q : Int)) = false := by simp
                  have k2 : decide ((q : Int) > mx) = false := decide_eq_false (by have h1 := HQX.out.2.1; have h2 := HMM.out; rw [hmx] at h2; omega)
                  have k3 : (hw == (3 : Int)) = false := beq_eq_false_iff_ne.2 (by rw [← HHW.out]; exact HQX.out.2.2)
                  clear hmx
                  go_wp2_with fail
                  refine (XSteps_any o rs cs rg rw n m (laidS l) x6 wj SL8.out.1).mono ?_; rintro e w9 ⟨rfl, hw9⟩
                  subst hw9
                  rw [HQX.out.1]
                  go_wp2_with fail
                  refine (sMost_any _ n (laidS l) T wj (S8.out.sps (by have := HN5.out; unfold maxLen; omega))).mono ?_; rintro e w9 ⟨rfl, hl9⟩
                  rw [HMX.out]
                  have K9 := Lib.hid (K8.out.below hl9)
                  have S9 := Lib.hid (S8.out.bl hl9)
                  have J9 := Lib.hid (J8.out.bl hl9)
                  have M9 := Lib.hid (M8.out.bl hl9)
                  have L9 := Lib.hid (bl L8.out hl9)
                  have P9 := Lib.hid (P8.out.bl hl9)
                  have D9 := Lib.hid (D8.out.bl hl9)
                  have SL9 := Lib.hid (SL8.out.ex (T := fun _ => False) (Ex.of_below hl9) (fun _ hb => hb.elim))
                  have NB9 := Lib.hid (NB8.out.bl hl9)
                  have Z9 := Lib.hid (Nat.le_trans Z8.out hl9.size)
                  have jc9 := J9.out.cell 1
                  simp only [List.getElem?_toArray, List.getElem?_cons_succ, List.getElem?_cons_zero] at jc9
                  clear hl9 jc K8 S8 J8 M8 L8 P8 D8 SL8 NB8 Z8
                  rcases ST.out with ⟨e0, base', hs⟩ | ⟨e0, hsf, -, -⟩ | ⟨e0, hfr, -, -⟩
                  · have HSN := Lib.hid hs
                    obtain rfl : hw = 0 := HHW.out.symm.trans e0
                    clear hs e0 k3
                    go_wp2_with fail
                    exact ⟨⟨i + 1, _, _, _, _, _, _, _, _, _, by have := HIN.out; omega, by go_num, rfl, rfl, HCI.out, fun j => by have := HCN.out j; omega, by have := HSM.out; omega, P9.out, D9.out, HMI.out, M9.out, K9.out, S9.out, J9.out, .inr ⟨o, rs, cs, rg, rw, x6, base', _, _, _, rfl, SL9.out, HSN.out, SK6.out, NB9.out, rfl, by rw [List.length_append]; have := NLX.out; simp; omega⟩, Z9.out, LM8.out, L9.out⟩, by have := HIN.out; simp [intOf]; omega⟩
                  · have HSF := Lib.hid hsf
                    obtain rfl : hw = 1 := HHW.out.symm.trans e0
                    clear hsf e0 k3
                    go_wp2_with fail
                    refine (told_any o rs cs rg rw n m db (db + 1) l x6 lamz cnt dn dv (NB ++ [cnt]) _ _ _ w9 TOK.out HM.out SL9.out.1 HHW.out HSF.out (HTP.out.below L9.out) D9.out (NB9.out.low (by have := ORD.out; omega)) (by rw [List.length_append]; have := NLX.out; have := HI.out; have := HP2.out; simp; omega) (fun j _ => by have := HCN.out j; have := HI.out; have := HP2.out; omega)).mono ?_; rintro e wz ⟨rfl, hlz⟩
                    have KA := Lib.hid (K9.out.below hlz)
                    have SA := Lib.hid (S9.out.bl hlz)
                    have JA := Lib.hid (J9.out.bl hlz)
                    have MA := Lib.hid (M9.out.bl hlz)
                    have LA := Lib.hid (bl L9.out hlz)
                    have PA := Lib.hid (P9.out.bl hlz)
                    have DA := Lib.hid (D9.out.bl hlz)
                    have ZA := Lib.hid (Nat.le_trans Z9.out hlz.size)
                    clear hlz jc9 K9 S9 J9 M9 L9 P9 D9 Z9
                    go_wp2_with fail
                    exact ⟨⟨i + 1, _, _, _, _, _, _, _, _, _, by have := HIN.out; omega, by go_num, rfl, rfl, HCI.out, fun j => by have := HCN.out j; omega, by have := HSM.out; omega, PA.out, DA.out, HMI.out, MA.out, KA.out, SA.out, JA.out, .inl rfl, ZA.out, LM8.out, LA.out⟩, by have := HIN.out; simp [intOf]; omega⟩
                  · have HFR := Lib.hid hfr
                    obtain rfl : hw = 2 := HHW.out.symm.trans e0
                    have ks0 : (0 : Int) ≤ (sumC cnt n : Int) := by omega
                    have ks5 : (sumC cnt n : Int) ≤ 400 := by have := HSM.out; have := HI.out; have := HP2.out; omega
                    have kf0 : (0 : Int) ≤ (frm : Int) := by omega
                    have kf5 : (frm : Int) ≤ 400 := by have := HFR.out; have := HT.out; omega
                    have kdd : decide ((sumC cnt n : Int) - (frm : Int) < T) = false := decide_eq_false (by have := HFR.out; omega)
                    clear hfr e0 k3
                    go_wp2_with fail
                    exact ⟨⟨i + 1, _, _, _, _, _, _, _, _, _, by have := HIN.out; omega, by go_num, rfl, rfl, HCI.out, fun j => by have := HCN.out j; omega, by have := HSM.out; omega, P9.out, D9.out, HMI.out, M9.out, K9.out, S9.out, J9.out, .inl rfl, Z9.out, LM8.out, L9.out⟩, by have := HIN.out; simp [intOf]; omega⟩
end Go.Proofs.Ytjdalllfnlpmnaa.Bank
