/-
  The document's answer for the log: Told. Printed by wip/tools/mkltd.py. Conditions stand at it. By an AI agent.
-/
import Derived.Test.YthhellgaafbokaaLgRe
namespace Go.Proofs.Ythhellgaafbokaa.Lg
set_option linter.unusedVariables false
set_option linter.unusedSimpArgs false
open Go Go.RowKit Go.Proofs.Ythhellgaafbokaa.Base Go.Proofs.Ythhellgaafbokaa.Reg
def toldF (log long : Int) (rd : List Int) (i : Nat) : List St := sortS (keepL log long 0 (rd.take i))
theorem toldF_zero (log long : Int) (rd : List Int) : toldF log long rd 0 = [] := by simp [toldF, keepL, sortS]
theorem toldF_hit {log long : Int} {rd : List Int} {k : Nat} (hk : k < rd.length) (h1 : unE (nth rd k) = 0) (h2 : entF log long (unS (nth rd k)).epoch = log + (k : Int)) : toldF log long rd (k + 1) = insS (unS (nth rd k)) (toldF log long rd k) := by
  unfold toldF
  rw [keepL_take hk, show keep1 log long (log + (k : Int)) (nth rd k) = [unS (nth rd k)] from if_pos ⟨h1, h2⟩, sortS_push]
theorem toldF_miss {log long : Int} {rd : List Int} {k : Nat} (hk : k < rd.length) (h : ¬ (unE (nth rd k) = 0 ∧ entF log long (unS (nth rd k)).epoch = log + (k : Int))) : toldF log long rd (k + 1) = toldF log long rd k := by
  unfold toldF
  rw [keepL_take hk, show keep1 log long (log + (k : Int)) (nth rd k) = [] from if_neg h, List.append_nil]
theorem toldF_len {log long : Int} {rd : List Int} {k : Nat} : (toldF log long rd k).length ≤ rd.length := by
  unfold toldF
  rw [(sortS_perm _).length_eq]
  have := keepL_len log long (rd.take k) 0
  rw [List.length_take] at this
  omega
theorem right_un {v : Int} (h : rightB (partsOf v) = true) : unE v = 0 ∧ unS v = partsOf v := by
  unfold rightB at h
  have := of_decide_eq_true h
  exact ⟨if_pos this, if_pos this⟩
theorem right_no {v : Int} (h : rightB (partsOf v) = false) : unE v ≠ 0 := by
  unfold rightB at h
  have := of_decide_eq_false h
  unfold unE
  rw [if_neg this]
  decide
set_option maxRecDepth 100000 in
set_option maxHeartbeats 8000000 in
theorem Told_any (log long : Int) (hp : HasP log long) (A : Option Addr) (nr c rq : Nat) (rd : List Int) (w : World) (hR : RowAt w rq (.slice A nr c) rd) (hnr : rd.length = nr) (h64 : nr ≤ 64) (hfit : ∀ x ∈ rd, 0 ≤ x ∧ x ≤ 18446744073709551615) :
    Calls Try.prog 30 #[.agg #[.int .i64 log, .int .i64 long], .slice A nr c] w fun e w' => ∃ r1 c1 n, e = .returned (.slice (some ⟨r1, 0, none⟩) n c1) ∧ (sortS (keepL log long 0 rd)).length = n ∧ (StRow w' r1 (.slice (some ⟨r1, 0, none⟩) n c1) (sortS (keepL log long 0 rd)) ∧ w.heap.size ≤ r1) ∧ Below w.heap.size w w' := by
  have HRD := Lib.hid hR
  have HP := Lib.hid hp
  have HFI := Lib.hid hfit
  have HNR := Lib.hid hnr
  have H64 := Lib.hid h64
  clear hR hp hfit hnr h64
  go_enter Try.func30, Try.ntmps30
  go_upto_region 1 with fail
  have hP := Blk.new w 58 #[.int .i64 log, .int .i64 long]
  have hL : Lo w.heap.size w (w.alloc (.cells #[.int .i64 log, .int .i64 long] 58)) := ⟨(Below.refl _ w).alloc (Nat.le_refl _) _, by simp⟩
  obtain ⟨kb, hfb⟩ : ∃ kb, w.heap.size = kb := ⟨_, rfl⟩
  have HBS := Lib.hid (Nat.le_of_eq hfb)
  simp only [hfb] at hP hL ⊢
  generalize w.alloc (.cells #[.int .i64 log, .int .i64 long] 58) = w1 at *
  have B0 := Lib.hid hP
  have L0 := Lib.hid hL
  clear hP hL hfb
  have ORD1 := Lib.hid (show kb = kb from by rfl)
  have RD0 := Lib.hid (HRD.out.ex (T := fun _ => False) (Ex.of_below (L0.out.low.mono HBS.out)) (fun h => h))
  have ORQ := Lib.hid (show rq < kb from Nat.lt_of_lt_of_le HRD.out.lt HBS.out)
  clear HRD
  have ORD2 := Lib.hid (show kb = kb ∧ rq < kb from by have o_ := ORD1.out; have := ORQ.out; omega)
  clear ORD1
  clear ORQ
  go_upto_region 2 with fail
  have hn := StRow.nil w1
  obtain ⟨r0, hnb⟩ : ∃ r0, w1.heap.size = r0 := ⟨_, rfl⟩
  have hlt_kb : kb < r0 := hnb ▸ B0.out.lt
  have hlt_rq : rq < r0 := hnb ▸ RD0.out.lt
  simp only [hnb] at hn ⊢
  have ORD3 := Lib.hid (show kb = kb ∧ rq < kb ∧ kb < r0 ∧ rq < r0 from by have o_ := ORD2.out; omega)
  clear ORD2
  have ee : Ex (fun _ => False) w1 (w1.alloc (.cells #[] 28)) := (Ex.refl _ w1).alloc (.cells #[] 28)
  have B4 := Lib.hid (B0.out.ex ee (fun h => h))
  have L4 := Lib.hid (L0.out.ex ee (fun k hk => hk.elim))
  have RD4 := Lib.hid (RD0.out.ex ee (fun h => h))
  have R4 := Lib.hid (hn)
  clear ee B0 L0 RD0 hn hnb hlt_kb hlt_rq
  generalize w1.alloc (.cells #[] 28) = w2 at *
  go_wp2_with fail
  go_loopw [5, 6, 7, 8, 9, 10, 11] (fun s5 s6 s7 s8 s9 s10 s11 wr => ∃ (i n c1 r1 : Nat), i ≤ nr ∧ s6 = .int .i64 i ∧ s5 = .slice (some ⟨r1, 0, none⟩) n c1 ∧ (toldF log long rd i).length = n ∧ StRow wr r1 (.slice (some ⟨r1, 0, none⟩) n c1) (toldF log long rd i) ∧ kb < r1 ∧ Blk wr kb 58 #[.int .i64 log, .int .i64 long] ∧ Lo kb w wr ∧ RowAt wr rq (.slice A nr c) rd) (fun s5 s6 s7 s8 s9 s10 s11 _ => nr - (intOf s6).toNat)
  case atStart => exact ⟨0, 0, 0, r0, by omega, rfl, rfl, by rw [toldF_zero]; rfl, by rw [toldF_zero]; exact R4.out, by have o_ := ORD3.out; omega, B4.out, L4.out, RD4.out⟩
  case round =>
    clear B4 L4 RD4 R4
    obtain ⟨i, n, c1, r1, hi, rfl, rfl, hn, hR, hr1, hB, hL, hD⟩ := hrel
    have R9 := Lib.hid hR
    have B9 := Lib.hid hB
    have L9 := Lib.hid hL
    have D9 := Lib.hid hD
    have HN := Lib.hid hn
    have QQ := Lib.hid hr1
    clear hR hB hL hD hn hr1
    have ORD41 := Lib.hid (show kb = kb ∧ rq < kb ∧ kb < r0 ∧ rq < r0 ∧ kb < r1 from by have o_ := ORD3.out; have := QQ.out; omega)
    clear ORD3
    clear QQ
    by_cases hlt : i < nr
    · have kd : decide ((i : Int) < (nr : Int)) = true := decide_eq_true (by omega)
      have ki0 : (0 : Int) ≤ (i : Int) := by omega
      have ki1 : (i : Int) < (nr : Int) := by omega
      have HI := Lib.hid hlt
      have HTN := Lib.hid (turn_num i nr hlt (by have := H64.out; unfold maxLen; omega))
      obtain ⟨hA, hcc⟩ := D9.out.cell (i := i) (by rw [HNR.out]; exact hlt)
      subst hA
      have hv := HFI.out _ (nth_mem (rd := rd) (k := i) (by rw [HNR.out]; exact hlt))
      have HIT := Lib.hid (fun h1 h2 => toldF_hit (log := log) (long := long) (rd := rd) (k := i) (by rw [HNR.out]; exact hlt) h1 h2)
      have MISS := Lib.hid (fun h => toldF_miss (log := log) (long := long) (rd := rd) (k := i) (by rw [HNR.out]; exact hlt) h)
      have HLL := Lib.hid (toldF_len (log := log) (long := long) (rd := rd) (k := i))
      obtain ⟨vv, hvv⟩ : ∃ vv, nth rd i = vv := ⟨_, rfl⟩
      rw [hvv] at hcc hv HIT MISS
      obtain ⟨L, hL⟩ : ∃ L, toldF log long rd i = L := ⟨_, rfl⟩
      rw [hL] at HIT MISS R9 HN HLL
      have HQ := Lib.hid (Parts_any vv hv)
      have HO := Lib.hid (partsOf_ok hv)
      obtain ⟨s, hs⟩ : ∃ s, partsOf vv = s := ⟨_, rfl⟩
      have HRB := Lib.hid (show (rightB s = true → unE vv = 0 ∧ unS vv = s) ∧ (rightB s = false → unE vv ≠ 0) from by rw [← hs]; exact ⟨right_un, right_no⟩)
      rw [hs] at HQ HO
      unfold St.val at HQ
      clear hs hL hvv hv hi hlt
      go_wp2_with fail
      refine (HQ.out wr).mono ?_; rintro e w3 ⟨rfl, hb⟩
      clear HQ hcc
      have ee : Ex (fun _ => False) wr w3 := Ex.of_below hb
      have R42 := Lib.hid (R9.out.ex ee (fun h => h))
      have B42 := Lib.hid (B9.out.ex ee (fun h => h))
      have L42 := Lib.hid (L9.out.ex ee (fun k hk => hk.elim))
      have RD42 := Lib.hid (D9.out.ex ee (fun h => h))
      clear ee R9 B9 L9 D9 hb
      go_upto_region 6 with fail
      have hn := Blk.new w3 28 #[.int .i64 s.mode, .int .i64 s.source, .bool s.hold, .int .i64 s.flags, .int .u64 s.epoch]
      obtain ⟨sb, hnb⟩ : ∃ sb, w3.heap.size = sb := ⟨_, rfl⟩
      have hlt_kb : kb < sb := hnb ▸ B42.out.lt
      have hlt_rq : rq < sb := hnb ▸ RD42.out.lt
      have hlt_r1 : r1 < sb := hnb ▸ R42.out.lt
      simp only [hnb] at hn ⊢
      have ORD43 := Lib.hid (show kb = kb ∧ rq < kb ∧ kb < r0 ∧ rq < r0 ∧ kb < r1 ∧ kb < sb ∧ rq < sb ∧ r1 < sb from by have o_ := ORD41.out; omega)
      clear ORD41
      have ee : Ex (fun _ => False) w3 (w3.alloc (.cells #[.int .i64 s.mode, .int .i64 s.source, .bool s.hold, .int .i64 s.flags, .int .u64 s.epoch] 28)) := (Ex.refl _ w3).alloc (.cells #[.int .i64 s.mode, .int .i64 s.source, .bool s.hold, .int .i64 s.flags, .int .u64 s.epoch] 28)
      have R44 := Lib.hid (R42.out.ex ee (fun h => h))
      have B44 := Lib.hid (B42.out.ex ee (fun h => h))
      have L44 := Lib.hid (L42.out.ex ee (fun k hk => hk.elim))
      have RD44 := Lib.hid (RD42.out.ex ee (fun h => h))
      have S44 := Lib.hid (hn)
      clear ee R42 B42 L42 RD42 hn hnb hlt_kb hlt_rq hlt_r1
      generalize w3.alloc (.cells #[.int .i64 s.mode, .int .i64 s.source, .bool s.hold, .int .i64 s.flags, .int .u64 s.epoch] 28) = w4 at *
      have Sq0 := S44.out.cell 0
      have Sq1 := S44.out.cell 1
      have Sq2 := S44.out.cell 2
      have Sq3 := S44.out.cell 3
      have Sq4 := S44.out.cell 4
      simp only [List.getElem?_toArray, List.getElem?_cons_succ, List.getElem?_cons_zero] at Sq0 Sq1 Sq2 Sq3 Sq4
      go_wp2_with fail
      clear Sq0 Sq1 Sq2 Sq3 Sq4
      have HRR := Lib.hid (Right_any s HO.out w4)
      rw [show s.val = .agg #[.int .i64 s.mode, .int .i64 s.source, .bool s.hold, .int .i64 s.flags, .int .u64 s.epoch] from rfl] at HRR
      refine HRR.out.mono ?_; rintro e w5 ⟨rfl, hb⟩
      clear HRR
      have ee : Ex (fun _ => False) w4 w5 := Ex.of_below hb
      have R45 := Lib.hid (R44.out.ex ee (fun h => h))
      have B45 := Lib.hid (B44.out.ex ee (fun h => h))
      have L45 := Lib.hid (L44.out.ex ee (fun k hk => hk.elim))
      have RD45 := Lib.hid (RD44.out.ex ee (fun h => h))
      have S45 := Lib.hid (S44.out.ex ee (fun h => h))
      clear ee R44 B44 L44 RD44 S44 hb
      cases hrb : rightB s with
      | false =>
        have EQ := Lib.hid (MISS.out (fun h => HRB.out.2 hrb h.1))
        have HNN := HN
        clear hrb
        go_wp2_with fail
        go_quiet (fail)
        have ee : Ex (fun _ => False) w5 (w5.drewN nq) := (Ex.refl _ w5).drewN _
        have R46 := Lib.hid (R45.out.ex ee (fun h => h))
        have B46 := Lib.hid (B45.out.ex ee (fun h => h))
        have L46 := Lib.hid (L45.out.ex ee (fun k hk => hk.elim))
        have RD46 := Lib.hid (RD45.out.ex ee (fun h => h))
        have S46 := Lib.hid (S45.out.ex ee (fun h => h))
        clear ee R45 B45 L45 RD45 S45
        generalize (w5.drewN nq) = w6 at *
        go_wp2_with fail
        go_roundw
        case rel => exact ⟨i + 1, n, c1, r1, HI.out, HTN.out.1, rfl, by rw [EQ.out]; exact HNN.out, by rw [EQ.out]; exact R46.out, by have o_ := ORD43.out; omega, B46.out, L46.out, RD46.out⟩
        case measure => exact HTN.out.2
      | true =>
        obtain ⟨hu0, hu1⟩ := HRB.out.1 hrb
        have HU := Lib.hid (And.intro hu0 hu1)
        clear hrb hu0 hu1
        obtain ⟨en, hen⟩ : ∃ en, entF log long s.epoch = en := ⟨_, rfl⟩
        have HEN := Lib.hid (fun W => REntry_any log long s.epoch W HO.out.epoch HP.out)
        rw [hen] at HEN
        have kwa : wrap64 (log + (i : Int)) = log + (i : Int) := wrap64_in _ (by have := HP.out.2; have := HI.out; have := H64.out; omega)
        go_upto_region 7 with fail
        have hne : Nonempty (Held (Below w5.heap.size w5)) := ⟨⟨w5, Below.refl _ _⟩⟩
        have p0 : ∀ y : Held (Below w5.heap.size w5), y.w.cell? ⟨kb, 0, none⟩ = some (.int .i64 log) := fun y => (B45.out.bl y.ok).cell 0
        have p1 : ∀ y : Held (Below w5.heap.size w5), y.w.cell? ⟨kb, 1, none⟩ = some (.int .i64 long) := fun y => (B45.out.bl y.ok).cell 1
        have p4 : ∀ y : Held (Below w5.heap.size w5), y.w.cell? ⟨sb, 4, none⟩ = some (.int .u64 s.epoch) := fun y => (S45.out.bl y.ok).cell 4
        by_cases heq : en = log + (i : Int)
        · have kq : (en == log + (i : Int)) = true := by simpa using heq
          have kq2 : (en == wrap64 (log + (i : Int))) = true := by rw [kwa]; exact kq
          have EQ := Lib.hid (HIT.out HU.out.1 (by rw [HU.out.2, hen]; exact heq))
          rw [HU.out.2] at EQ
          clear heq hen
          refine drawn_bars (S := (Below w5.heap.size w5)) [([0, 1, 2, 3, 4, 6, 7, 8, 9], 5)] [10, 11] (by kernel_rfl) (by kernel_rfl) (by kernel_rfl) rfl (Below.refl _ _).drew ?_
          refine Phased.go ?_
          simp only [pick, List.map_cons, List.map_nil, List.getElem?_cons_zero, List.getElem?_cons_succ, Option.getD_some]
          repeat (go_big_quiet_step (fail))
          refine wpQuiet_nil ?_
          go_wp2_with fail
          refine (HEN.out w5.drew).mono ?_; rintro e w6 ⟨rfl, hb⟩
          have hb2 := bl (Below.refl w5.heap.size w5).drew hb
          go_wp2_with fail
          refine behind_normal ⟨_, fun W h => h, hb2, ?_⟩
          refine Phased.end_ ?_
          clear hne p0 p1 p4 hb
          have hne5 : Nonempty (Held (fun W => W = w6)) := ⟨⟨_, rfl⟩⟩
          simp only [pick, List.map_cons, List.map_nil, List.getElem?_cons_zero, List.getElem?_cons_succ, Option.getD_some]
          repeat (go_big_quiet_step (fail))
          refine wpQuiet_nil ?_
          clear hne5 kq kq2 kwa
          have ee : Ex (fun _ => False) w5 w6 := Ex.of_below hb2
          have R46 := Lib.hid (R45.out.ex ee (fun h => h))
          have B46 := Lib.hid (B45.out.ex ee (fun h => h))
          have L46 := Lib.hid (L45.out.ex ee (fun k hk => hk.elim))
          have RD46 := Lib.hid (RD45.out.ex ee (fun h => h))
          have S46 := Lib.hid (S45.out.ex ee (fun h => h))
          clear ee R45 B45 L45 RD45 S45 hb2
          go_wp2_with fail
          have HOUT := Lib.hid (And.intro R46.out S46.out)
          go_loopw [10] (fun s10 wr2 => ∃ k : Nat, k ≤ n ∧ s10 = .int .i64 k ∧ (∀ j, j < k → (L.getD j St.zero).epoch < s.epoch) ∧ Below w6.heap.size w6 wr2) (fun s10 _ => n - (intOf s10).toNat)
          case atStart => exact ⟨0, by omega, rfl, fun _ h => absurd h (by omega), Below.refl _ _⟩
          case round =>
            obtain ⟨k, hk, rfl, hks, hbl⟩ := hrel
            have B2 := Lib.hid hbl
            have KS := Lib.hid hks
            clear hbl hks
            by_cases hkn : k < n
            · have kd2 : decide ((k : Int) < (n : Int)) = true := decide_eq_true (by omega)
              have kk0 : (0 : Int) ≤ (k : Int) := by omega
              have kk1 : (k : Int) < (n : Int) := by omega
              have HK := Lib.hid hkn
              have HTK := Lib.hid (turn_num k n hkn (by have := HLL.out; have := HN.out; have := HNR.out; have := H64.out; unfold maxLen; omega))
              obtain ⟨t, ht⟩ : ∃ t, L[k]? = some t := ⟨_, List.getElem?_eq_getElem (by rw [HN.out]; exact hkn)⟩
              have hte : L.getD k St.zero = t := by rw [List.getD_eq_getElem?_getD, ht]; rfl
              have HTE := Lib.hid hte
              have z4 := (B2.out.cell (p := ⟨r1, k * 5 + 4, none⟩) HOUT.out.1.lt).trans ((HOUT.out.1.cells (by rw [HN.out]; omega)).2 k t ht).2.2.2.2
              have y4 := (HOUT.out.2.bl B2.out).cell 4
              simp only [List.getElem?_toArray, List.getElem?_cons_succ, List.getElem?_cons_zero] at y4
              clear hte ht hk hkn
              by_cases hle : t.epoch < s.epoch
              · have kle : decide (t.epoch < s.epoch) = true := decide_eq_true hle
                have HLE := Lib.hid hle
                clear hle
                go_upto_region 9 with fail
                go_quiet (fail)
                go_wp2_with fail
                go_roundw
                case rel => exact ⟨k + 1, HK.out, HTK.out.1, fun j hj => by
                  by_cases e : j = k
                  · subst e; rw [HTE.out]; exact HLE.out
                  · exact KS.out j (by omega), below_drewN B2.out _⟩
                case measure => exact HTK.out.2
              · have kle : decide (t.epoch < s.epoch) = false := decide_eq_false hle
                have KX := Lib.hid (show k ≤ n ∧ (k < L.length → ¬ (L.getD k St.zero).epoch < s.epoch) from ⟨by have := HK.out; omega, fun _ => by rw [HTE.out]; exact hle⟩)
                have KN := Lib.hid (show k < n from by have := HK.out; omega)
                clear hle
                go_upto_region 9 with fail
                go_quiet (fail)
                have B3 := Lib.hid (below_drewN B2.out nq)
                generalize wr.drewN nq = w7 at *
                clear B2 z4 y4
                have ee : Ex (fun _ => False) w6 w7 := Ex.of_below B3.out
                have R91 := Lib.hid (R46.out.ex ee (fun h => h))
                have B91 := Lib.hid (B46.out.ex ee (fun h => h))
                have L91 := Lib.hid (L46.out.ex ee (fun k hk => hk.elim))
                have RD91 := Lib.hid (RD46.out.ex ee (fun h => h))
                have S91 := Lib.hid (S46.out.ex ee (fun h => h))
                clear ee R46 B46 L46 RD46 S46 B3 HOUT
                have kr := R91.out.room
                have ka1 : (0 : Int) ≤ (k : Int) := by omega
                have ka2 : (k : Int) ≤ (n : Int) := by have := KX.out.1; omega
                have ka3 : (k : Int) ≤ (c1 : Int) := by have := KX.out.1; omega
                have ka4 : (n : Int) ≤ (c1 : Int) := by omega
                have KR := Lib.hid kr
                clear kr
                go_upto_region 11 with fail
                obtain ⟨i0, hi0, hz0, hz1, hz2⟩ := info_parts st_info
                go_wp2_with (at_builtin; refine wpList_append_own_at _ rfl _ _ 22 rfl 0 28 i0 (.agg #[.int .i64 0, .int .i64 0, .bool false, .int .i64 0, .int .u64 0]) 5 40 Try.underlying22 hi0 hz0 hz1 hz2 rfl (by decide) _ _ _ rfl ((StRow.nil w7).rowN rfl) ⟨r1, 0, none⟩ k _ (flatS (L.take k)) rfl (by rw [flatS_len, List.length_take, Nat.min_eq_left (by rw [HN.out]; exact KX.out.1)]) ?c1 ?c2 ?c3 ?c4 (Nat.zero_le _) ?_)
                case c1 => intro j u hj; (try rw [Addr.add_lit, Nat.zero_add]); exact ((R91.out.ex (T := fun _ => False) ((Ex.refl _ w7).alloc _) (fun h => h)).flat (flatS_sub hj))
                case c2 => exact flatS_one_cells
                case c3 => have h1 := H64.out; have h2 := HLL.out; have h3 := HNR.out; have h4 := HN.out; have h5 := KX.out.1; unfold maxLen; omega
                case c4 => have h1 := H64.out; have h2 := HLL.out; have h3 := HNR.out; have h4 := HN.out; have h5 := KX.out.1; omega
                intro v' w8 hown' hgrow hnil hat
                skip
                obtain ⟨c2, r2, hv9, hR9, hrq, hx⟩ := strow_app (xs := []) (ys := L.take k) (StRow.nil w7) rfl (by rw [List.length_take, Nat.min_eq_left (by rw [HN.out]; exact KX.out.1), Nat.zero_add]) hown' hgrow hnil (by first | exact hat | (rw [World.size_alloc]; exact hat))
                clear hown' hgrow hat hnil i0 hi0 hz0 hz1 hz2
                rw [List.nil_append] at hR9
                subst hv9
                have hr2 : w7.heap.size ≤ r2 := by rcases hrq with h | h <;> first | omega | (rw [World.size_alloc] at h; omega)
                have hlt_kb : kb < r2 := Nat.lt_of_lt_of_le B91.out.lt hr2
                have hlt_rq : rq < r2 := Nat.lt_of_lt_of_le RD91.out.lt hr2
                have hlt_r1 : r1 < r2 := Nat.lt_of_lt_of_le R91.out.lt hr2
                have hlt_sb : sb < r2 := Nat.lt_of_lt_of_le S91.out.lt hr2
                have ORD92 := Lib.hid (show kb = kb ∧ rq < kb ∧ kb < r0 ∧ rq < r0 ∧ kb < r1 ∧ kb < sb ∧ rq < sb ∧ r1 < sb ∧ kb < r2 ∧ rq < r2 ∧ r1 < r2 ∧ sb < r2 from by have o_ := ORD43.out; omega)
                clear ORD43
                have ee : Ex (fun _ => False) w7 w8 := Ex.cons ((Ex.refl (fun _ => False) w7).alloc (.cells #[] 28)) hx (fun k9 hk9 h9 => by have h9 : k9 = w7.heap.size := h9; omega)
                have R93 := Lib.hid (R91.out.ex ee (fun h => h))
                have B93 := Lib.hid (B91.out.ex ee (fun h => h))
                have L93 := Lib.hid (L91.out.ex ee (fun k hk => hk.elim))
                have RD93 := Lib.hid (RD91.out.ex ee (fun h => h))
                have S93 := Lib.hid (S91.out.ex ee (fun h => h))
                have N93 := Lib.hid (hR9)
                clear ee R91 B91 L91 RD91 S91 hR9 hrq hx hr2 hlt_kb hlt_rq hlt_r1 hlt_sb
                have Sq0 := S93.out.cell 0
                have Sq1 := S93.out.cell 1
                have Sq2 := S93.out.cell 2
                have Sq3 := S93.out.cell 3
                have Sq4 := S93.out.cell 4
                simp only [List.getElem?_toArray, List.getElem?_cons_succ, List.getElem?_cons_zero] at Sq0 Sq1 Sq2 Sq3 Sq4
                go_upto_region 12 with fail
                obtain ⟨i0, hi0, hz0, hz1, hz2⟩ := info_parts st_info
                go_wp2_with (at_builtin; refine wpList_append_own_at _ rfl _ _ 22 rfl 0 28 i0 (.agg #[.int .i64 0, .int .i64 0, .bool false, .int .i64 0, .int .u64 0]) 5 40 Try.underlying22 hi0 hz0 hz1 hz2 rfl (by decide) _ _ _ rfl (World.ownsRow.alloc (N93.out.rowN (by rw [List.length_take, Nat.min_eq_left (by rw [HN.out]; exact KX.out.1)])) _) ⟨w8.heap.size, 0, none⟩ 1 _ (encS s) rfl (rfl) ?c1 ?c2 ?c3 ?c4 (Nat.zero_le _) ?_)
                case c1 => 
                  have hbn := Blk.new w8 28 #[.int .i64 s.mode, .int .i64 s.source, .bool s.hold, .int .i64 s.flags, .int .u64 s.epoch]
                  intro j u9 hj
                  match j, hj with
                  | 0, hj => simp [encS] at hj; subst hj; first | exact hbn.cell 0 | rfl
                  | 1, hj => simp [encS] at hj; subst hj; first | exact hbn.cell 1 | rfl
                  | 2, hj => simp [encS] at hj; subst hj; first | exact hbn.cell 2 | rfl
                  | 3, hj => simp [encS] at hj; subst hj; first | exact hbn.cell 3 | rfl
                  | 4, hj => simp [encS] at hj; subst hj; first | exact hbn.cell 4 | rfl
                case c2 => exact encS_one s
                case c3 => have h1 := H64.out; have h2 := HLL.out; have h3 := HNR.out; have h4 := HN.out; have h5 := KX.out.1; unfold maxLen; omega
                case c4 => have h1 := H64.out; have h2 := HLL.out; have h3 := HNR.out; have h4 := HN.out; have h5 := KX.out.1; omega
                intro v' w9 hown' hgrow hnil hat
                rw [← flatS_one] at hown'
                obtain ⟨c3, r3, hv9, hR9, hrq, hx⟩ := strow_app (xs := L.take k) (ys := [s]) (N93.out.ex (T := fun _ => False) ((Ex.refl _ w8).alloc (.cells #[.int .i64 s.mode, .int .i64 s.source, .bool s.hold, .int .i64 s.flags, .int .u64 s.epoch] 28)) (fun h => h)) (by rw [List.length_take, Nat.min_eq_left (by rw [HN.out]; exact KX.out.1)]) (Eq.refl (k + 1)) hown' hgrow hnil (by first | exact hat | (rw [World.size_alloc]; exact hat))
                clear hown' hgrow hat hnil i0 hi0 hz0 hz1 hz2
                subst hv9
                clear Sq0 Sq1 Sq2 Sq3 Sq4
                have ORD94 := Lib.hid (show kb = kb ∧ rq < kb ∧ kb < r0 ∧ rq < r0 ∧ kb < r1 ∧ kb < sb ∧ rq < sb ∧ r1 < sb ∧ kb < r2 ∧ rq < r2 ∧ r1 < r2 ∧ sb < r2 ∧ (r3 = r2 ∨ (kb < r3 ∧ rq < r3 ∧ r1 < r3 ∧ sb < r3)) from by have o_ := ORD92.out; have k_kb := B93.out.lt; have k_rq := RD93.out.lt; have k_r1 := R93.out.lt; have k_sb := S93.out.lt; rcases hrq with h | h <;> first | omega | (rw [World.size_alloc] at h; omega))
                clear ORD92
                have ee : Ex (fun k => k = r2) w8 w9 := ((Ex.refl (fun k => k = r2) w8).alloc (.cells #[.int .i64 s.mode, .int .i64 s.source, .bool s.hold, .int .i64 s.flags, .int .u64 s.epoch] 28)).trans hx
                have R95 := Lib.hid (R93.out.ex ee (by have o_ := ORD94.out; omega))
                have B95 := Lib.hid (B93.out.ex ee (by have o_ := ORD94.out; omega))
                have L95 := Lib.hid (L93.out.ex ee (fun k hk => by have o_ := ORD94.out; have hk : k = r2 := hk; omega))
                have RD95 := Lib.hid (RD93.out.ex ee (by have o_ := ORD94.out; omega))
                have S95 := Lib.hid (S93.out.ex ee (by have o_ := ORD94.out; omega))
                have N95 := Lib.hid (hR9)
                clear ee R93 B93 L93 RD93 S93 N93 hR9 hrq hx
                go_upto_region 13 with fail
                have ka5 : (k : Int) < (c1 : Int) := by have := KN.out; omega
                have ka6 : (k : Int) < (n : Int) := by have := KN.out; omega
                obtain ⟨i0, hi0, hz0, hz1, hz2⟩ := info_parts st_info
                go_wp2_with (at_builtin; refine wpList_append_own_at _ rfl _ _ 22 rfl 0 28 i0 (.agg #[.int .i64 0, .int .i64 0, .bool false, .int .i64 0, .int .u64 0]) 5 40 Try.underlying22 hi0 hz0 hz1 hz2 rfl (by decide) _ _ _ rfl (N95.out.rowN (by rw [List.length_append, List.length_take, Nat.min_eq_left (by rw [HN.out]; exact KX.out.1)]; rfl)) _ _ _ (flatS (L.drop k)) rfl (by rw [flatS_len, List.length_drop, HN.out]) ?c1 ?c2 ?c3 ?c4 (Nat.zero_le _) ?_)
                case c1 => intro j u hj; (try rw [Addr.add_lit]); first | exact R95.out.flat (flatS_off (by rw [HN.out]; exact KX.out.1) hj) | (have h9 := R95.out.flat (flatS_off (by rw [HN.out]; exact KX.out.1) hj); simpa using h9)
                case c2 => exact flatS_one_cells
                case c3 => have h1 := H64.out; have h2 := HLL.out; have h3 := HNR.out; have h4 := HN.out; have h5 := KX.out.1; unfold maxLen; omega
                case c4 => have h1 := H64.out; have h2 := HLL.out; have h3 := HNR.out; have h4 := HN.out; have h5 := KX.out.1; omega
                intro v' w10 hown' hgrow hnil hat
                skip
                obtain ⟨c4, r4, hv9, hR9, hrq, hx⟩ := strow_app (xs := L.take k ++ [s]) (ys := L.drop k) (N95.out) (by rw [List.length_append, List.length_take, Nat.min_eq_left (by rw [HN.out]; exact KX.out.1)]; rfl) (by rw [List.length_drop, HN.out]) hown' hgrow hnil (by first | exact hat | (rw [World.size_alloc]; exact hat))
                clear hown' hgrow hat hnil i0 hi0 hz0 hz1 hz2
                subst hv9
                have ORD96 := Lib.hid (show kb = kb ∧ rq < kb ∧ kb < r0 ∧ rq < r0 ∧ kb < r1 ∧ kb < sb ∧ rq < sb ∧ r1 < sb ∧ kb < r2 ∧ rq < r2 ∧ r1 < r2 ∧ sb < r2 ∧ (r3 = r2 ∨ (kb < r3 ∧ rq < r3 ∧ r1 < r3 ∧ sb < r3)) ∧ (r4 = r3 ∨ (kb < r4 ∧ rq < r4 ∧ r1 < r4 ∧ sb < r4)) from by have o_ := ORD94.out; have k_kb := B95.out.lt; have k_rq := RD95.out.lt; have k_r1 := R95.out.lt; have k_sb := S95.out.lt; rcases hrq with h | h <;> omega)
                clear ORD94
                have ee : Ex (fun k => k = r3) w9 w10 := hx
                have B97 := Lib.hid (B95.out.ex ee (by have o_ := ORD96.out; omega))
                have L97 := Lib.hid (L95.out.ex ee (fun k hk => by have o_ := ORD96.out; have hk : k = r3 := hk; omega))
                have RD97 := Lib.hid (RD95.out.ex ee (by have o_ := ORD96.out; omega))
                have S97 := Lib.hid (S95.out.ex ee (by have o_ := ORD96.out; omega))
                have R97 := Lib.hid (hR9)
                clear ee B95 L95 RD95 S95 hR9 hrq hx R95 N95
                have HNN := Lib.hid R97.out.len
                have EQ2 := Lib.hid (show toldF log long rd (i + 1) = L.take k ++ [s] ++ L.drop k from by rw [EQ.out, insS_at L k (by rw [HN.out]; exact KX.out.1) KS.out (fun h => by have := KX.out.2 h; first | exact this | omega)]; simp)
                go_wp2_with fail
                go_roundw
                case rel => exact ⟨i + 1, _, c4, r4, HI.out, HTN.out.1, rfl, by rw [EQ2.out]; exact HNN.out, by rw [EQ2.out]; exact R97.out, by have o_ := ORD96.out; omega, B97.out, L97.out, RD97.out⟩
                case measure => exact HTN.out.2
            · obtain rfl : k = n := by omega
              have kd2 : decide ((k : Int) < (k : Int)) = false := decide_eq_false (by omega)
              have KX := Lib.hid (show k ≤ k ∧ (k < L.length → ¬ (L.getD k St.zero).epoch < s.epoch) from ⟨Nat.le_refl _, fun h => absurd h (by rw [HN.out]; omega)⟩)
              go_upto_region 9 with fail
              go_quiet (fail)
              have B3 := Lib.hid (below_drewN B2.out nq)
              generalize wr.drewN nq = w7 at *
              clear B2 hk hkn
              have ee : Ex (fun _ => False) w6 w7 := Ex.of_below B3.out
              have R91 := Lib.hid (R46.out.ex ee (fun h => h))
              have B91 := Lib.hid (B46.out.ex ee (fun h => h))
              have L91 := Lib.hid (L46.out.ex ee (fun k hk => hk.elim))
              have RD91 := Lib.hid (RD46.out.ex ee (fun h => h))
              have S91 := Lib.hid (S46.out.ex ee (fun h => h))
              clear ee R46 B46 L46 RD46 S46 B3 HOUT
              have kr := R91.out.room
              have ka1 : (0 : Int) ≤ (k : Int) := by omega
              have ka2 : (k : Int) ≤ (k : Int) := by have := KX.out.1; omega
              have ka3 : (k : Int) ≤ (c1 : Int) := by have := KX.out.1; omega
              have ka4 : (k : Int) ≤ (c1 : Int) := by omega
              have KR := Lib.hid kr
              clear kr
              go_upto_region 11 with fail
              obtain ⟨i0, hi0, hz0, hz1, hz2⟩ := info_parts st_info
              go_wp2_with (at_builtin; refine wpList_append_own_at _ rfl _ _ 22 rfl 0 28 i0 (.agg #[.int .i64 0, .int .i64 0, .bool false, .int .i64 0, .int .u64 0]) 5 40 Try.underlying22 hi0 hz0 hz1 hz2 rfl (by decide) _ _ _ rfl ((StRow.nil w7).rowN rfl) ⟨r1, 0, none⟩ k _ (flatS (L.take k)) rfl (by rw [flatS_len, List.length_take, Nat.min_eq_left (by rw [HN.out]; exact KX.out.1)]) ?c1 ?c2 ?c3 ?c4 (Nat.zero_le _) ?_)
              case c1 => intro j u hj; (try rw [Addr.add_lit, Nat.zero_add]); exact ((R91.out.ex (T := fun _ => False) ((Ex.refl _ w7).alloc _) (fun h => h)).flat (flatS_sub hj))
              case c2 => exact flatS_one_cells
              case c3 => have h1 := H64.out; have h2 := HLL.out; have h3 := HNR.out; have h4 := HN.out; have h5 := KX.out.1; unfold maxLen; omega
              case c4 => have h1 := H64.out; have h2 := HLL.out; have h3 := HNR.out; have h4 := HN.out; have h5 := KX.out.1; omega
              intro v' w8 hown' hgrow hnil hat
              skip
              obtain ⟨c2, r2, hv9, hR9, hrq, hx⟩ := strow_app (xs := []) (ys := L.take k) (StRow.nil w7) rfl (by rw [List.length_take, Nat.min_eq_left (by rw [HN.out]; exact KX.out.1), Nat.zero_add]) hown' hgrow hnil (by first | exact hat | (rw [World.size_alloc]; exact hat))
              clear hown' hgrow hat hnil i0 hi0 hz0 hz1 hz2
              rw [List.nil_append] at hR9
              subst hv9
              have hr2 : w7.heap.size ≤ r2 := by rcases hrq with h | h <;> first | omega | (rw [World.size_alloc] at h; omega)
              have hlt_kb : kb < r2 := Nat.lt_of_lt_of_le B91.out.lt hr2
              have hlt_rq : rq < r2 := Nat.lt_of_lt_of_le RD91.out.lt hr2
              have hlt_r1 : r1 < r2 := Nat.lt_of_lt_of_le R91.out.lt hr2
              have hlt_sb : sb < r2 := Nat.lt_of_lt_of_le S91.out.lt hr2
              have ORD92 := Lib.hid (show kb = kb ∧ rq < kb ∧ kb < r0 ∧ rq < r0 ∧ kb < r1 ∧ kb < sb ∧ rq < sb ∧ r1 < sb ∧ kb < r2 ∧ rq < r2 ∧ r1 < r2 ∧ sb < r2 from by have o_ := ORD43.out; omega)
              clear ORD43
              have ee : Ex (fun _ => False) w7 w8 := Ex.cons ((Ex.refl (fun _ => False) w7).alloc (.cells #[] 28)) hx (fun k9 hk9 h9 => by have h9 : k9 = w7.heap.size := h9; omega)
              have R93 := Lib.hid (R91.out.ex ee (fun h => h))
              have B93 := Lib.hid (B91.out.ex ee (fun h => h))
              have L93 := Lib.hid (L91.out.ex ee (fun k hk => hk.elim))
              have RD93 := Lib.hid (RD91.out.ex ee (fun h => h))
              have S93 := Lib.hid (S91.out.ex ee (fun h => h))
              have N93 := Lib.hid (hR9)
              clear ee R91 B91 L91 RD91 S91 hR9 hrq hx hr2 hlt_kb hlt_rq hlt_r1 hlt_sb
              have Sq0 := S93.out.cell 0
              have Sq1 := S93.out.cell 1
              have Sq2 := S93.out.cell 2
              have Sq3 := S93.out.cell 3
              have Sq4 := S93.out.cell 4
              simp only [List.getElem?_toArray, List.getElem?_cons_succ, List.getElem?_cons_zero] at Sq0 Sq1 Sq2 Sq3 Sq4
              go_upto_region 12 with fail
              obtain ⟨i0, hi0, hz0, hz1, hz2⟩ := info_parts st_info
              go_wp2_with (at_builtin; refine wpList_append_own_at _ rfl _ _ 22 rfl 0 28 i0 (.agg #[.int .i64 0, .int .i64 0, .bool false, .int .i64 0, .int .u64 0]) 5 40 Try.underlying22 hi0 hz0 hz1 hz2 rfl (by decide) _ _ _ rfl (World.ownsRow.alloc (N93.out.rowN (by rw [List.length_take, Nat.min_eq_left (by rw [HN.out]; exact KX.out.1)])) _) ⟨w8.heap.size, 0, none⟩ 1 _ (encS s) rfl (rfl) ?c1 ?c2 ?c3 ?c4 (Nat.zero_le _) ?_)
              case c1 => 
                have hbn := Blk.new w8 28 #[.int .i64 s.mode, .int .i64 s.source, .bool s.hold, .int .i64 s.flags, .int .u64 s.epoch]
                intro j u9 hj
                match j, hj with
                | 0, hj => simp [encS] at hj; subst hj; first | exact hbn.cell 0 | rfl
                | 1, hj => simp [encS] at hj; subst hj; first | exact hbn.cell 1 | rfl
                | 2, hj => simp [encS] at hj; subst hj; first | exact hbn.cell 2 | rfl
                | 3, hj => simp [encS] at hj; subst hj; first | exact hbn.cell 3 | rfl
                | 4, hj => simp [encS] at hj; subst hj; first | exact hbn.cell 4 | rfl
              case c2 => exact encS_one s
              case c3 => have h1 := H64.out; have h2 := HLL.out; have h3 := HNR.out; have h4 := HN.out; have h5 := KX.out.1; unfold maxLen; omega
              case c4 => have h1 := H64.out; have h2 := HLL.out; have h3 := HNR.out; have h4 := HN.out; have h5 := KX.out.1; omega
              intro v' w9 hown' hgrow hnil hat
              rw [← flatS_one] at hown'
              obtain ⟨c3, r3, hv9, hR9, hrq, hx⟩ := strow_app (xs := L.take k) (ys := [s]) (N93.out.ex (T := fun _ => False) ((Ex.refl _ w8).alloc (.cells #[.int .i64 s.mode, .int .i64 s.source, .bool s.hold, .int .i64 s.flags, .int .u64 s.epoch] 28)) (fun h => h)) (by rw [List.length_take, Nat.min_eq_left (by rw [HN.out]; exact KX.out.1)]) (Eq.refl (k + 1)) hown' hgrow hnil (by first | exact hat | (rw [World.size_alloc]; exact hat))
              clear hown' hgrow hat hnil i0 hi0 hz0 hz1 hz2
              subst hv9
              clear Sq0 Sq1 Sq2 Sq3 Sq4
              have ORD94 := Lib.hid (show kb = kb ∧ rq < kb ∧ kb < r0 ∧ rq < r0 ∧ kb < r1 ∧ kb < sb ∧ rq < sb ∧ r1 < sb ∧ kb < r2 ∧ rq < r2 ∧ r1 < r2 ∧ sb < r2 ∧ (r3 = r2 ∨ (kb < r3 ∧ rq < r3 ∧ r1 < r3 ∧ sb < r3)) from by have o_ := ORD92.out; have k_kb := B93.out.lt; have k_rq := RD93.out.lt; have k_r1 := R93.out.lt; have k_sb := S93.out.lt; rcases hrq with h | h <;> first | omega | (rw [World.size_alloc] at h; omega))
              clear ORD92
              have ee : Ex (fun k => k = r2) w8 w9 := ((Ex.refl (fun k => k = r2) w8).alloc (.cells #[.int .i64 s.mode, .int .i64 s.source, .bool s.hold, .int .i64 s.flags, .int .u64 s.epoch] 28)).trans hx
              have R95 := Lib.hid (R93.out.ex ee (by have o_ := ORD94.out; omega))
              have B95 := Lib.hid (B93.out.ex ee (by have o_ := ORD94.out; omega))
              have L95 := Lib.hid (L93.out.ex ee (fun k hk => by have o_ := ORD94.out; have hk : k = r2 := hk; omega))
              have RD95 := Lib.hid (RD93.out.ex ee (by have o_ := ORD94.out; omega))
              have S95 := Lib.hid (S93.out.ex ee (by have o_ := ORD94.out; omega))
              have N95 := Lib.hid (hR9)
              clear ee R93 B93 L93 RD93 S93 N93 hR9 hrq hx
              go_upto_region 13 with fail
              have hdr : L.drop k = [] := List.drop_of_length_le (by rw [HN.out]; exact Nat.le_refl _)
              have HDR := Lib.hid hdr
              clear hdr
              by_cases hck : k = c1
              · subst hck
                obtain ⟨i0, hi0, hz0, hz1, hz2⟩ := info_parts st_info
                go_wp2_with (at_builtin; refine wpList_append_own_at _ rfl _ _ 22 rfl 0 28 i0 (.agg #[.int .i64 0, .int .i64 0, .bool false, .int .i64 0, .int .u64 0]) 5 40 Try.underlying22 hi0 hz0 hz1 hz2 rfl (by decide) _ _ _ rfl (N95.out.rowN (by rw [List.length_append, List.length_take, Nat.min_eq_left (by rw [HN.out]; exact KX.out.1)]; rfl)) _ _ _ (flatS (L.drop k)) rfl (by rw [HDR.out]; simp [flatS]) ?c1 ?c2 ?c3 ?c4 (Nat.zero_le _) ?_)
                case c1 => intro j u hj; rw [HDR.out] at hj; simp [flatS] at hj
                case c2 => exact flatS_one_cells
                case c3 => have h1 := H64.out; have h2 := HLL.out; have h3 := HNR.out; have h4 := HN.out; have h5 := KX.out.1; unfold maxLen; omega
                case c4 => have h1 := H64.out; have h2 := HLL.out; have h3 := HNR.out; have h4 := HN.out; have h5 := KX.out.1; omega
                intro v' w10 hown' hgrow hnil hat
                skip
                obtain ⟨c4, r4, hv9, hR9, hrq, hx⟩ := strow_app (xs := L.take k ++ [s]) (ys := L.drop k) (N95.out) (by rw [List.length_append, List.length_take, Nat.min_eq_left (by rw [HN.out]; exact KX.out.1)]; rfl) (by rw [HDR.out]; simp) hown' hgrow hnil (by first | exact hat | (rw [World.size_alloc]; exact hat))
                clear hown' hgrow hat hnil i0 hi0 hz0 hz1 hz2
                subst hv9
                have ORD96 := Lib.hid (show kb = kb ∧ rq < kb ∧ kb < r0 ∧ rq < r0 ∧ kb < r1 ∧ kb < sb ∧ rq < sb ∧ r1 < sb ∧ kb < r2 ∧ rq < r2 ∧ r1 < r2 ∧ sb < r2 ∧ (r3 = r2 ∨ (kb < r3 ∧ rq < r3 ∧ r1 < r3 ∧ sb < r3)) ∧ (r4 = r3 ∨ (kb < r4 ∧ rq < r4 ∧ r1 < r4 ∧ sb < r4)) from by have o_ := ORD94.out; have k_kb := B95.out.lt; have k_rq := RD95.out.lt; have k_r1 := R95.out.lt; have k_sb := S95.out.lt; rcases hrq with h | h <;> omega)
                clear ORD94
                have ee : Ex (fun k => k = r3) w9 w10 := hx
                have B97 := Lib.hid (B95.out.ex ee (by have o_ := ORD96.out; omega))
                have L97 := Lib.hid (L95.out.ex ee (fun k hk => by have o_ := ORD96.out; have hk : k = r3 := hk; omega))
                have RD97 := Lib.hid (RD95.out.ex ee (by have o_ := ORD96.out; omega))
                have S97 := Lib.hid (S95.out.ex ee (by have o_ := ORD96.out; omega))
                have R97 := Lib.hid (hR9)
                clear ee B95 L95 RD95 S95 hR9 hrq hx R95 N95
                have HNN := Lib.hid R97.out.len
                have EQ2 := Lib.hid (show toldF log long rd (i + 1) = L.take k ++ [s] ++ L.drop k from by rw [EQ.out, insS_at L k (by rw [HN.out]; exact KX.out.1) KS.out (fun h => by have := KX.out.2 h; first | exact this | omega)]; simp)
                go_wp2_with fail
                go_roundw
                case rel => exact ⟨i + 1, _, c4, r4, HI.out, HTN.out.1, rfl, by rw [EQ2.out]; exact HNN.out, by rw [EQ2.out]; exact R97.out, by have o_ := ORD96.out; omega, B97.out, L97.out, RD97.out⟩
                case measure => exact HTN.out.2
              · have ka5 : (k : Int) < (c1 : Int) := by have := KR.out; omega
                clear hck
                obtain ⟨i0, hi0, hz0, hz1, hz2⟩ := info_parts st_info
                go_wp2_with (at_builtin; refine wpList_append_own_at _ rfl _ _ 22 rfl 0 28 i0 (.agg #[.int .i64 0, .int .i64 0, .bool false, .int .i64 0, .int .u64 0]) 5 40 Try.underlying22 hi0 hz0 hz1 hz2 rfl (by decide) _ _ _ rfl (N95.out.rowN (by rw [List.length_append, List.length_take, Nat.min_eq_left (by rw [HN.out]; exact KX.out.1)]; rfl)) _ _ _ (flatS (L.drop k)) rfl (by rw [HDR.out]; simp [flatS]) ?c1 ?c2 ?c3 ?c4 (Nat.zero_le _) ?_)
                case c1 => intro j u hj; rw [HDR.out] at hj; simp [flatS] at hj
                case c2 => exact flatS_one_cells
                case c3 => have h1 := H64.out; have h2 := HLL.out; have h3 := HNR.out; have h4 := HN.out; have h5 := KX.out.1; unfold maxLen; omega
                case c4 => have h1 := H64.out; have h2 := HLL.out; have h3 := HNR.out; have h4 := HN.out; have h5 := KX.out.1; omega
                intro v' w10 hown' hgrow hnil hat
                skip
                obtain ⟨c4, r4, hv9, hR9, hrq, hx⟩ := strow_app (xs := L.take k ++ [s]) (ys := L.drop k) (N95.out) (by rw [List.length_append, List.length_take, Nat.min_eq_left (by rw [HN.out]; exact KX.out.1)]; rfl) (by rw [HDR.out]; simp) hown' hgrow hnil (by first | exact hat | (rw [World.size_alloc]; exact hat))
                clear hown' hgrow hat hnil i0 hi0 hz0 hz1 hz2
                subst hv9
                have ORD96 := Lib.hid (show kb = kb ∧ rq < kb ∧ kb < r0 ∧ rq < r0 ∧ kb < r1 ∧ kb < sb ∧ rq < sb ∧ r1 < sb ∧ kb < r2 ∧ rq < r2 ∧ r1 < r2 ∧ sb < r2 ∧ (r3 = r2 ∨ (kb < r3 ∧ rq < r3 ∧ r1 < r3 ∧ sb < r3)) ∧ (r4 = r3 ∨ (kb < r4 ∧ rq < r4 ∧ r1 < r4 ∧ sb < r4)) from by have o_ := ORD94.out; have k_kb := B95.out.lt; have k_rq := RD95.out.lt; have k_r1 := R95.out.lt; have k_sb := S95.out.lt; rcases hrq with h | h <;> omega)
                clear ORD94
                have ee : Ex (fun k => k = r3) w9 w10 := hx
                have B97 := Lib.hid (B95.out.ex ee (by have o_ := ORD96.out; omega))
                have L97 := Lib.hid (L95.out.ex ee (fun k hk => by have o_ := ORD96.out; have hk : k = r3 := hk; omega))
                have RD97 := Lib.hid (RD95.out.ex ee (by have o_ := ORD96.out; omega))
                have S97 := Lib.hid (S95.out.ex ee (by have o_ := ORD96.out; omega))
                have R97 := Lib.hid (hR9)
                clear ee B95 L95 RD95 S95 hR9 hrq hx R95 N95
                have HNN := Lib.hid R97.out.len
                have EQ2 := Lib.hid (show toldF log long rd (i + 1) = L.take k ++ [s] ++ L.drop k from by rw [EQ.out, insS_at L k (by rw [HN.out]; exact KX.out.1) KS.out (fun h => by have := KX.out.2 h; first | exact this | omega)]; simp)
                go_wp2_with fail
                go_roundw
                case rel => exact ⟨i + 1, _, c4, r4, HI.out, HTN.out.1, rfl, by rw [EQ2.out]; exact HNN.out, by rw [EQ2.out]; exact R97.out, by have o_ := ORD96.out; omega, B97.out, L97.out, RD97.out⟩
                case measure => exact HTN.out.2
        · have kq : (en == log + (i : Int)) = false := by simpa using heq
          have kq2 : (en == wrap64 (log + (i : Int))) = false := by rw [kwa]; exact kq
          have EQ := Lib.hid (MISS.out (fun h => heq (by have h9 := h.2; rw [HU.out.2, hen] at h9; exact h9)))
          clear heq hen
          refine drawn_bars (S := (Below w5.heap.size w5)) [([0, 1, 2, 3, 4, 6, 7, 8, 9], 5)] [10, 11] (by kernel_rfl) (by kernel_rfl) (by kernel_rfl) rfl (Below.refl _ _).drew ?_
          refine Phased.go ?_
          simp only [pick, List.map_cons, List.map_nil, List.getElem?_cons_zero, List.getElem?_cons_succ, Option.getD_some]
          repeat (go_big_quiet_step (fail))
          refine wpQuiet_nil ?_
          go_wp2_with fail
          refine (HEN.out w5.drew).mono ?_; rintro e w6 ⟨rfl, hb⟩
          have hb2 := bl (Below.refl w5.heap.size w5).drew hb
          go_wp2_with fail
          refine behind_normal ⟨_, fun W h => h, hb2, ?_⟩
          refine Phased.end_ ?_
          clear hne p0 p1 p4 hb
          have hne5 : Nonempty (Held (fun W => W = w6)) := ⟨⟨_, rfl⟩⟩
          simp only [pick, List.map_cons, List.map_nil, List.getElem?_cons_zero, List.getElem?_cons_succ, Option.getD_some]
          repeat (go_big_quiet_step (fail))
          refine wpQuiet_nil ?_
          clear hne5 kq kq2 kwa
          have ee : Ex (fun _ => False) w5 w6 := Ex.of_below hb2
          have R46 := Lib.hid (R45.out.ex ee (fun h => h))
          have B46 := Lib.hid (B45.out.ex ee (fun h => h))
          have L46 := Lib.hid (L45.out.ex ee (fun k hk => hk.elim))
          have RD46 := Lib.hid (RD45.out.ex ee (fun h => h))
          have S46 := Lib.hid (S45.out.ex ee (fun h => h))
          clear ee R45 B45 L45 RD45 S45 hb2
          go_wp2_with fail
          have HNN := HN
          go_roundw
          case rel => exact ⟨i + 1, n, c1, r1, HI.out, HTN.out.1, rfl, by rw [EQ.out]; exact HNN.out, by rw [EQ.out]; exact R46.out, by have o_ := ORD43.out; omega, B46.out, L46.out, RD46.out⟩
          case measure => exact HTN.out.2
    · obtain rfl : i = nr := by omega
      have kd : decide ((i : Int) < (i : Int)) = false := decide_eq_false (by omega)
      have hfin : toldF log long rd i = sortS (keepL log long 0 rd) := by unfold toldF; rw [List.take_of_length_le (by rw [HNR.out]; exact Nat.le_refl _)]
      go_wp2_with fail
      go_ret
      refine ⟨r1, c1, n, rfl, by rw [← hfin]; exact HN.out, ?_, L9.out.low.mono HBS.out⟩
      rw [← hfin]
      exact ⟨R9.out, Nat.le_trans HBS.out (by have o_ := ORD41.out; omega)⟩
end Go.Proofs.Ythhellgaafbokaa.Lg
