/-
  Law 10: whether a snapshot that is done tells the newest records of one moment. Conditions stand at each. By an AI agent.
-/
import Derived.Test.YtjdalllfnlpmnaaSnPd
import Derived.Deep.CutRange
namespace Go.Proofs.Ytjdalllfnlpmnaa.Bank
set_option linter.unusedVariables false
set_option linter.unusedSimpArgs false
open Go Go.RowKit Go.Proofs.Ytjdalllfnlpmnaa.Base
theorem OwnR.ints_ {w : World} {base : Nat} {v : Value} {W : List Int} (h : OwnR w base v W) (hl : W.length ≤ maxLen) : Ints w .u64 v W := ints_of_own h hl
theorem one_cell_of {xs : List Int} : ∀ u ∈ xs.map (Value.int .u64), u.oneCell' = true := by
  intro u hu
  obtain ⟨y, _, rfl⟩ := List.mem_map.1 hu
  rfl
theorem row_cells {w : World} {r c : Nat} {xs : List Int} (h : IntsIn w .u64 r c xs) : ∀ j u, (xs.map (Value.int .u64))[j]? = some u → w.cell? ((⟨r, 0, none⟩ : Addr).add j) = some u := by
  intro j u hj
  have e : (⟨r, 0, none⟩ : Addr).add j = ⟨r, j, none⟩ := by unfold Addr.add; split <;> simp_all
  rw [e]
  have hlt : j < xs.length := by have := (List.getElem?_eq_some_iff.1 hj).1; simpa using this
  rw [h.at_ j hlt, ← hj]
  simp [nth, List.getD_eq_getElem?_getD, List.getElem?_eq_getElem hlt]
theorem mT_spec {l : Nat → Tp} {n : Nat} (h : TOk n l) {k : Nat} (hk : k < n) : (l k).words = (mT l k : Int) ∧ 1 ≤ mT l k ∧ mT l k ≤ 4 := by
  have h1 := (h.2 k hk).1
  unfold mT
  omega
theorem wid_succ {l : Nat → Tp} {n : Nat} (h : TOk n l) {k : Nat} (hk : k < n) : (widthF (laidS l) (k + 1)).toNat = (widthF (laidS l) k).toNat + mT l k ∧ (widthF (laidS l) k).toNat ≤ 20 := by
  have hr := (wrongE_zero (laid_wrong h (tries := 1) (by omega))).2.1
  have hb := widthF_bounds hr k (by omega)
  have hs : widthF (laidS l) (k + 1) = widthF (laidS l) k + (l k).words := rfl
  have h1 := mT_spec h hk
  have h4 : ∀ j, j ≤ n → widthF (laidS l) j ≤ 4 * (j : Int) := by
    intro j hj
    induction j with
    | zero => exact Int.le_refl _
    | succ j ih =>
      have h1 := ih (by omega)
      have h2 := (h.2 j (by omega)).1
      have h3 : widthF (laidS l) (j + 1) = widthF (laidS l) j + (l j).words := rfl
      push_cast
      omega
  have h5 := h4 k (by omega)
  have h6 := h.1
  omega
set_option maxRecDepth 100000 in
set_option maxHeartbeats 16000000 in
theorem told_any (o rs cs rg rw n m db B : Nat) (l : Nat → Tp) (x : SX) (lam cnt : Nat → Nat) (dn : Nat → Nat → Int) (dv : Nat → Value) (NB : List (Nat → Nat)) (vals : List Value) (tv nv : Value) (w : World)
    (hok : TOk n l) (hm : widthF (laidS l) n = (m : Int)) (ho : SnX w o rs cs rg rw n m (laidS l) x) (h1 : x.how = 1) (hf : SFin n m l x cnt NB dn) (ht : Tps w tv n l) (hd : DnAt w db n B lam cnt dn dv) (hn : NbAt w n B lam nv NB vals) (hlen : NB.length ≤ 100000) (hcn : ∀ j, j < n → cnt j ≤ 1000) :
    Calls Try.prog 27 #[.pointer (some ⟨o, 0, none⟩), tv, .slice (some ⟨db, 0, none⟩) n n, nv] w fun e w' => e = .returned (.bool true) ∧ Below w.heap.size w w' := by
  obtain ⟨f, f1, f2, f3, f4, f5⟩ := hf
  obtain ⟨b0, hb0⟩ : ∃ b0 : Nat, x.begun = (b0 : Int) + 1 := ⟨(x.begun - 1).toNat, by omega⟩
  rw [show x.begun.toNat - 1 = b0 by omega] at f1
  obtain ⟨nbk, ncap, rfl, hnlt, rr, rcap, hnc, hri⟩ := hn.at_ f1
  obtain ⟨nl, hnl⟩ : ∃ nl, NB.length = nl := ⟨_, rfl⟩
  rw [hnl] at f3 hlen ⊢
  obtain ⟨TA, tc, rfl, -, htf⟩ := ht.form
  obtain ⟨tb, tob, rfl, htb, htc⟩ := htf (by have := hok.1; omega)
  have TOK := Lib.hid hok
  have HM := Lib.hid hm
  have O0 := Lib.hid ho
  have H1 := Lib.hid h1
  have HBG := Lib.hid hb0
  have HB0 := Lib.hid (show b0 < nl ∧ nl ≤ 100000 by omega)
  have F4 := Lib.hid f4
  have F5 := Lib.hid f5
  have D0 := Lib.hid hd
  have HNC := Lib.hid hnc
  have HNL := Lib.hid hnlt
  have HRI := Lib.hid hri
  have HTB := Lib.hid htb
  have HTC := Lib.hid htc
  have HCN := Lib.hid hcn
  have HN5 := Lib.hid hok.1
  have HMB := Lib.hid (wide_bounds hok hm)
  have HXL := Lib.hid (show x.wl.length = m ∧ x.gl.length = n from ⟨ho.wlen, ho.glen⟩)
  clear hok hm ho h1 f1 f2 f3 f4 f5 hb0 hn hnl hd ht htf htb htc hcn hlen hnlt hnc hri
  go_enter Try.func27, Try.ntmps27
  go_wp2_with fail
  refine (XGot_done o rs cs rg rw n m (laidS l) x w O0.out H1.out ⟨by have := HMB.out; omega, by have := HMB.out; omega⟩ ⟨HN5.out.1, by have := HN5.out; omega⟩).mono ?_; rintro e w1 ⟨q, G, rfl, q0, hi1, hi2, hG, hown, hl⟩
  have I1 := Lib.hid hi1
  have I2 := Lib.hid hi2
  have L0 := Lib.hid hl
  have O1 := Lib.hid (O0.out.bl hl)
  have hqlt : q < w1.heap.size := (World.ownsRow.lt hown q rfl).2
  have HQ := Lib.hid hqlt
  clear q0 hi1 hi2 hG hown hl O0 hqlt
  go_wp2_with fail
  refine (XAt_any o rs cs rg rw n m (laidS l) x w1 O1.out).mono ?_; rintro e w2 ⟨rfl, rfl⟩
  rw [if_pos H1.out, HBG.out]
  have k1 : decide ((b0 : Int) + 1 < 1) = false := decide_eq_false (by omega)
  have k2 : decide ((b0 : Int) + 1 > (nl : Int)) = false := decide_eq_false (by have := HB0.out; omega)
  have k3 : ((n : Int) != (n : Int)) = false := by simp
  go_wp2_with fail
  clear k1 k2 k3
  have kb : wrap64 (b0 : Int) = (b0 : Int) := wrap64_in _ (by have := HB0.out; omega)
  have kb0 : (0 : Int) ≤ (b0 : Int) := by omega
  have kb1 : (b0 : Int) < (nl : Int) := by have := HB0.out; omega
  obtain ⟨wk, rfl⟩ : ∃ wk : World, wk = w1 := ⟨_, rfl⟩
  go_loopw [12, 13, 14] (fun s12 s13 s14 wr => ∃ (k : Nat), k ≤ n ∧ s13 = .int .i64 k ∧ wr.ownsRow wk.heap.size 42 1 s12 (widthF (laidS l) k).toNat ((x.wl.take (widthF (laidS l) k).toNat).map (Value.int .u64)) ∧ Below wk.heap.size wk wr) (fun s12 s13 s14 _ => n - (intOf s13).toNat)
  case atStart => exact ⟨0, by omega, rfl, World.ownsRow_nil _ _ _ _, Below.refl _ _⟩
  case round =>
    obtain ⟨k, hk, rfl, how, hl⟩ := hrel
    have W0 := Lib.hid how
    have X0 := Lib.hid hl
    clear how hl
    by_cases hlt : k < n
    · have kd : decide ((k : Int) < (n : Int)) = true := decide_eq_true (by omega)
      have ki0 : (0 : Int) ≤ (k : Int) := by omega
      have ki1 : (k : Int) < (n : Int) := by omega
      have ki5 : (k : Int) ≤ 5 := by have := HN5.out; omega
      have HK := Lib.hid hlt
      clear hk hlt
      have L1 := Lib.hid (show Below w.heap.size w wr from bl L0.out (X0.out))
      obtain ⟨fk, hfk⟩ : ∃ fk, f k = fk := ⟨_, rfl⟩
      have HFK := Lib.hid hfk
      have n1 := (L1.out.cell (p := ⟨nbk, b0, none⟩) HNL.out).trans HNC.out
      have n2 : wr.cell? ⟨rr, k, none⟩ = some (.int .i64 (fk : Int)) := (L1.out.cell (p := ⟨rr, k, none⟩) HRI.out.lt).trans (by have h9 := HRI.out.at_ k (by rw [ofF_len]; exact HK.out); rw [ofF_nth _ _ HK.out, hfk] at h9; exact h9)
      have n3 : wr.cell? ⟨q, m + k, none⟩ = some (.int .u64 (fk : Int)) := (X0.out.cell (p := ⟨q, m + k, none⟩) HQ.out).trans (by have h9 := ints_cell I2.out (i := k) (by rw [HXL.out.2]; exact HK.out); rw [(F4.out k HK.out).1, hfk] at h9; exact h9)
      have hfc : fk ≤ cnt k ∧ cnt k ≤ 1000 := ⟨hfk ▸ (F4.out k HK.out).2, HCN.out k HK.out⟩
      have HFC := Lib.hid hfc
      have kf : IntKind.u64.wrap (fk : Int) = (fk : Int) := u64_wrap_in (by omega)
      have kne : ((fk : Int) != (fk : Int)) = false := by simp
      have HMT := Lib.hid (mT_spec TOK.out HK.out)
      have HWS := Lib.hid (wid_succ TOK.out HK.out)
      have HTN := Lib.hid (take_next TOK.out HM.out HXL.out.1 F5.out HK.out)
      have t1 : wr.cell? ⟨tb, tob + k * 2, none⟩ = some (.int .i64 (mT l k : Int)) := by rw [← HMT.out.1]; exact (L1.out.cell (p := ⟨tb, tob + k * 2, none⟩) HTB.out).trans (HTC.out k HK.out).1
      by_cases hz : fk = 0
      · have kz : ((fk : Int) == 0) = true := beq_iff_eq.2 (by omega)
        obtain ⟨v', w', hr, hown', hgrow⟩ := run_app_zeros (ty := 41) W0.out (mT l k) (by have := HMT.out; omega) (by have := HMT.out; omega) (by have := HWS.out; omega) X0.out.size
        have hbel := X0.out.grown hgrow X0.out.size (fun b hb => (W0.out.lt b hb).1)
        rw [← RW_zero (dn := dn) (k := k) (m := mT l k) (c := f k) (by omega), ← List.map_append, ← HTN.out, ← HWS.out.1] at hown'
        have W9 := Lib.hid hown'
        have X9 := Lib.hid hbel
        clear hown' hbel hgrow hz
        go_wp2_with (at_builtin; refine Lib.wpList_append_run _ rfl _ _ _ _ rfl _ _ rfl rfl _ _ hr ?_)
        clear hr
        go_wp2_with fail
        exact ⟨⟨k + 1, by have := HK.out; omega, by go_num, W9.out, X9.out⟩, by have := HK.out; simp [intOf]; omega⟩
      · have kz : ((fk : Int) == 0) = false := beq_eq_false_iff_ne.2 (by omega)
        obtain ⟨rk, ck, hdv, hrk, hik⟩ := D0.out.row HK.out (by have := HFC.out; omega)
        have HIK := Lib.hid hik
        have kf0 : (0 : Int) ≤ (fk : Int) := by omega
        have kf1 : (fk : Int) < ((cnt k + 1 : Nat) : Int) := by have := HFC.out; omega
        have kf2 : (fk : Int) < (cnt k : Int) + 1 := by have := HFC.out; omega
        have dc := D0.out.cell HK.out
        rw [hdv] at dc
        have HDC := Lib.hid dc
        have HDL := Lib.hid D0.out.1.lt
        clear hdv hrk hik dc
        go_upto_region 14 with fail
        clear n1 n2 n3 kz kb
        have hne : Nonempty (Held (Below wk.heap.size wr)) := ⟨⟨wr, Below.refl _ _⟩⟩
        have p1 : ∀ y : Held (Below wk.heap.size wr), y.w.cell? ⟨tb, tob + k * 2, none⟩ = some (.int .i64 (mT l k : Int)) := fun y => by rw [← HMT.out.1]; exact ((bl L0.out (X0.out.trans y.ok)).cell (p := ⟨tb, tob + k * 2, none⟩) HTB.out).trans (HTC.out k HK.out).1
        have p2 : ∀ y : Held (Below wk.heap.size wr), y.w.cell? ⟨db, k, none⟩ = some (.slice (some ⟨rk, 0, none⟩) (cnt k + 1) ck) := fun y => ((bl L0.out (X0.out.trans y.ok)).cell (p := ⟨db, k, none⟩) HDL.out).trans HDC.out
        have p3 : ∀ y : Held (Below wk.heap.size wr), y.w.cell? ⟨rk, fk, none⟩ = some (.int .u64 (dn k fk)) := fun y => ((bl L0.out (X0.out.trans y.ok)).cell (p := ⟨rk, fk, none⟩) HIK.out.lt).trans (by have h9 := HIK.out.at_ fk (by rw [ofF_len]; have := HFC.out; omega); rw [ofF_nth _ _ (by have := HFC.out; omega)] at h9; exact h9)
        refine drawn_bars (S := Below wk.heap.size wr) [([0, 1, 2, 3, 4, 5, 6, 7, 8, 9, 10, 11, 12], 13), ([], 14)] [15] (by kernel_rfl) (by kernel_rfl) (by kernel_rfl) rfl (Below.refl _ _).drew ?_
        refine Phased.go ?_
        simp only [pick, List.map_cons, List.map_nil, List.getElem?_cons_zero, List.getElem?_cons_succ, Option.getD_some]
        repeat (go_big_quiet_step (fail))
        refine wpQuiet_nil ?_
        go_wp2_with fail
        refine (record_any (mT l k) (dn k fk) wr.drew (by have := HMT.out; omega)).mono ?_; rintro e w4 ⟨rv, rfl, hown, hl1⟩
        obtain ⟨r2, c2, rfl, hrb, hri2⟩ := rec_slice hown (by have := HMT.out; omega) (by have := HMT.out; omega)
        have hl2 : Below wr.heap.size wr w4 := bl ((Below.refl wr.heap.size wr).drew) hl1
        have hl3 : Below wk.heap.size wr w4 := hl2.mono X0.out.size
        have W4 := Lib.hid (ownsRow_ex (T := fun _ => False) W0.out (Ex.of_below hl2) (fun _ _ h => h))
        have X4 := Lib.hid (X0.out.trans hl3)
        have HL3 := Lib.hid hl3
        have HR2 := Lib.hid hri2
        obtain ⟨i0_, hi0, hz0, hz1, hz2⟩ := info_parts wordU_info
        clear hown hrb hl1 hl2 hl3 hri2
        go_wp2_with fail
        refine behind_normal ⟨Below wk.heap.size wr, fun W h => h, HL3.out, ?_⟩
        refine Phased.go ?_
        simp only [pick, List.map_cons, List.map_nil, List.getElem?_cons_zero, List.getElem?_cons_succ, Option.getD_some]
        repeat (go_big_quiet_step (fail))
        refine wpQuiet_nil ?_
        go_wp2_with (at_builtin; refine wpList_append_own _ rfl _ _ 41 rfl wk.heap.size 42 i0_ (.int .u64 0) 1 8 Try.underlying41 hi0 hz0 hz1 hz2 rfl (by decide) _ _ _ rfl W4.out ⟨r2, 0, none⟩ (mT l k) c2 ((recL (mT l k) (dn k fk)).map (Value.int .u64)) rfl (by simp [recL_len]) (row_cells HR2.out) one_cell_of ?c3 ?c4 X4.out.size ?_)
        case c3 => have := HWS.out; have := HMT.out; unfold maxLen; omega
        case c4 => have := HWS.out; have := HMT.out; omega
        intro v' w8 hown' hgrow _
        have hbel := X4.out.grown hgrow X4.out.size (fun b hb => (W4.out.lt b hb).1)
        have hbel2 := HL3.out.grown hgrow X4.out.size (fun b hb => (W4.out.lt b hb).1)
        rw [← RW_rec (dn := dn) (k := k) (m := mT l k) (c := fk) hz, ← List.map_take, ← List.map_append, ← HFK.out, ← HTN.out, ← HWS.out.1] at hown'
        have W9 := Lib.hid hown'
        have X9 := Lib.hid hbel
        have HL9 := Lib.hid hbel2
        clear hown' hgrow hbel hbel2
        refine behind_normal ⟨Below wk.heap.size wr, fun W h => h, HL9.out, ?_⟩
        refine Phased.end_ ?_
        have hne5 : Nonempty (Held (fun W => W = w8)) := ⟨⟨_, rfl⟩⟩
        simp only [pick, List.map_cons, List.map_nil, List.getElem?_cons_zero, List.getElem?_cons_succ, Option.getD_some]
        repeat (go_big_quiet_step (fail))
        refine wpQuiet_nil ?_
        clear hne5 hne p1 p2 p3
        go_wp2_with fail
        exact ⟨⟨k + 1, by have := HK.out; omega, by go_num, W9.out, X9.out⟩, by have := HK.out; simp [intOf]; omega⟩
    · obtain rfl : k = n := by omega
      have kd : decide ((k : Int) < (k : Int)) = false := decide_eq_false (by omega)
      have hmn : (widthF (laidS l) k).toNat = m := by have := HM.out; omega
      have how := W0.out
      rw [hmn, List.take_of_length_le (by rw [HXL.out.1]; exact Nat.le_refl _)] at how
      have hor : OwnR wr wk.heap.size u12 x.wl := by unfold OwnR; rw [HXL.out.1]; exact how
      have HOR := Lib.hid (hor.ints_ (by rw [HXL.out.1]; have := HMB.out; unfold maxLen; omega))
      clear hmn how hor
      go_wp2_with fail
      refine (words_any _ _ x.wl x.wl wr (I1.out.below X0.out) HOR.out (by rw [HXL.out.1]; have := HMB.out; omega)).mono ?_; rintro e w9 ⟨rfl, hl9⟩
      rw [decide_eq_true (show x.wl = x.wl from rfl)]
      have L9 := Lib.hid (bl (bl L0.out X0.out) hl9)
      clear hl9
      go_wp2_with fail
      go_ret
      exact ⟨rfl, L9.out⟩
end Go.Proofs.Ytjdalllfnlpmnaa.Bank
