/-
  A reading: its small functions, and those of package seq that it needs. Conditions stand at each. By an AI agent.
-/
import Derived.Test.YtihogagnjikghaaWrA
import Derived.Deep.CutRange
import Derived.Laws.CopyOwn
namespace Go.Proofs.Ytihogagnjikghaa.Bank
set_option linter.unusedVariables false
set_option linter.unusedSimpArgs false
open Go Go.RowKit Go.Proofs.Ytihogagnjikghaa.Base

def bnth (bs : List Bool) (i : Nat) : Bool := bs.getD i false
theorem all_of_bnth {bs : List Bool} (h : ∀ j, j < bs.length → bnth bs j = true) : bs.all id = true := by
  rw [List.all_eq_true]
  intro x hx
  obtain ⟨j, hj, rfl⟩ := List.getElem_of_mem hx
  have := h j hj
  simpa [bnth, List.getD_eq_getElem?_getD, List.getElem?_eq_getElem hj] using this
theorem all_of_not {bs : List Bool} {j : Nat} (hj : j < bs.length) (h : bnth bs j = false) : bs.all id = false := by
  rw [List.all_eq_false]
  refine ⟨bs[j], List.getElem_mem hj, ?_⟩
  simpa [bnth, List.getD_eq_getElem?_getD, List.getElem?_eq_getElem hj] using h
set_option maxHeartbeats 2000000 in
theorem all_any (b n c : Nat) (bs : List Bool) (w : World) (hn : bs.length = n) (hs : n ≤ 100) (hc : ∀ i : Nat, i < n → w.cell? ⟨b, i, none⟩ = some (.bool (bnth bs i))) :
    Calls Try.prog 50 #[.slice (some ⟨b, 0, none⟩) n c] w fun e w' => e = .returned (.bool (bs.all id)) ∧ w = w' := by
  have HC := Lib.hid hc
  have HN := Lib.hid hn
  clear hc hn
  go_enter Try.func50, Try.ntmps50
  go_wp2_with fail
  obtain ⟨w0, rfl⟩ : ∃ w0 : World, w0 = w := ⟨_, rfl⟩
  go_loopw [4, 7] (fun _ iv wr => ∃ i : Nat, i ≤ n ∧ iv = .int .i64 i ∧ (∀ j, j < i → bnth bs j = true) ∧ wr = w0) (fun _ iv _ => n - (intOf iv).toNat)
  case atStart => exact ⟨0, by omega, rfl, fun j hj => by omega, rfl⟩
  case round =>
    obtain ⟨i, hi, rfl, hp, rfl⟩ := hrel
    have HP := Lib.hid hp
    clear hp
    by_cases hlt : i < n
    · have kd : decide ((i : Int) < (n : Int)) = true := decide_eq_true (by omega)
      have ki0 : (0 : Int) ≤ (i : Int) := by omega
      have ki1 : (i : Int) < (n : Int) := by omega
      have ki2 : (i : Int) ≤ 100 := by omega
      have qc := HC.out i hlt
      obtain ⟨bi, hbi⟩ : ∃ bi, bnth bs i = bi := ⟨_, rfl⟩
      rw [hbi] at qc
      have HBI := Lib.hid hbi
      clear hbi
      cases bi with
      | true =>
        go_wp2_with fail
        go_roundw
        case rel => exact ⟨i + 1, by omega, by go_num, fun j hj => by
          by_cases h : j = i
          · rw [h]; exact HBI.out
          · exact HP.out j (by omega), trivial⟩
        case measure => simp [intOf]; omega
      | false =>
        go_wp2_with fail
        go_ret
        exact ⟨by rw [all_of_not (by rw [HN.out]; exact hlt) HBI.out]; rfl, rfl⟩
    · obtain rfl : i = n := by omega
      have kd : decide ((i : Int) < (i : Int)) = false := decide_eq_false (by omega)
      go_wp2_with fail
      go_ret
      exact ⟨by rw [all_of_bnth (fun j hj => HP.out j (by rw [HN.out] at hj; exact hj))]; rfl, rfl⟩
theorem between_any (n lo hi : Int) (w : World) :
    Calls Try.prog 64 #[.int .i64 n, .int .i64 lo, .int .i64 hi] w fun e w' => e = .returned (.bool (decide (lo ≤ n ∧ n ≤ hi))) ∧ w = w' := by
  by_cases h1 : lo ≤ n
  · by_cases h2 : n ≤ hi
    · have hd : decide (lo ≤ n ∧ n ≤ hi) = true := decide_eq_true ⟨h1, h2⟩
      rw [hd]
      clear hd
      go_enter Try.func64, Try.ntmps64
      go_wp2_with fail
      go_ret
      exact ⟨rfl, rfl⟩
    · have hd : decide (lo ≤ n ∧ n ≤ hi) = false := decide_eq_false (fun h => h2 h.2)
      rw [hd]
      clear hd
      have hd2 : decide (n ≤ hi) = false := decide_eq_false h2
      go_enter Try.func64, Try.ntmps64
      go_wp2_with fail
      go_ret
      exact ⟨rfl, rfl⟩
  · have hd : decide (lo ≤ n ∧ n ≤ hi) = false := decide_eq_false (fun h => h1 h.1)
    rw [hd]
    clear hd
    have hd2 : decide (n ≥ lo) = false := decide_eq_false h1
    go_enter Try.func64, Try.ntmps64
    go_wp2_with fail
    go_ret
    exact ⟨rfl, rfl⟩
theorem smay_any (d : Int) (w : World) :
    Calls Try.prog 54 #[.int .i64 d] w fun e w' => e = .returned (.bool (decide (2 ≤ d ∧ d ≤ 16))) ∧ w = w' := by
  generalize hk : decide (2 ≤ d ∧ d ≤ 16) = k
  have HK := Lib.hid hk
  clear hk
  go_enter Try.func54, Try.ntmps54
  go_wp2_with fail
  refine (between_any _ _ _ _).mono ?_; rintro e w' ⟨rfl, rfl⟩
  rw [HK.out]
  go_wp2_with fail
  go_ret
  exact ⟨rfl, rfl⟩
/-- the newest generation, by a sequence: that which is being written counts -/
def newF (v : Int) : Int := v / 2 + v % 2
theorem newest_any (v : Int) (w : World) (h : 0 ≤ v ∧ v ≤ 18446744073709551615) :
    Calls Try.prog 55 #[.int .u64 v] w fun e w' => e = .returned (.int .u64 (newF v)) ∧ w = w' := by
  have hw : IntKind.u64.wrap (v / 2 + bits BinOp.and IntKind.u64 v 1) = newF v := by
    rw [and_one_u64 v h.1 h.2]; exact u64_wrap_in (by omega)
  have HW := Lib.hid hw
  clear h hw
  go_enter Try.func55, Try.ntmps55
  go_wp2_with fail
  refine (Gen_any _ _).mono ?_; rintro e w' ⟨rfl, rfl⟩
  go_wp2_with fail
  go_ret
  exact ⟨by rw [← HW.out]; rfl, rfl⟩
/-- whether a sequence keeps a generation -/
def keptB (v g d : Int) : Bool := decide (2 ≤ d ∧ d ≤ 16) && (decide (g ≤ v / 2) && decide (IntKind.u64.wrap (newF v - g) < d))
theorem Kept_any (v g d : Int) (w : World) (h : 0 ≤ v ∧ v ≤ 18446744073709551615) :
    Calls Try.prog 39 #[.int .u64 v, .int .u64 g, .int .i64 d] w fun e w' => e = .returned (.bool (keptB v g d)) ∧ w = w' := by
  unfold keptB
  have HV := Lib.hid h
  have hmay := smay_any d w
  by_cases hd : 2 ≤ d ∧ d ≤ 16
  · rw [decide_eq_true hd] at hmay ⊢
    rw [Bool.true_and]
    have HM := Lib.hid hmay
    have hu : IntKind.u64.wrap d = d := u64_wrap_in (by omega)
    clear h hmay hd
    have hgen := Lib.hid (Gen_any v w)
    have hnew := Lib.hid (newest_any v w HV.out)
    generalize hq : v / 2 = q at *
    generalize hz : newF v = z at *
    clear hq hz
    cases hg : decide (g ≤ q) with
    | false =>
      rw [Bool.false_and]
      go_enter Try.func39, Try.ntmps39
      go_wp2_with fail
      refine HM.out.mono ?_; rintro e w' ⟨rfl, rfl⟩
      go_wp2_with fail
      refine hgen.out.mono ?_; rintro e w' ⟨rfl, rfl⟩
      go_wp2_with fail
      go_ret
      exact ⟨rfl, rfl⟩
    | true =>
      rw [Bool.true_and]
      cases hl : decide (IntKind.u64.wrap (z - g) < d) with
      | _ =>
        go_enter Try.func39, Try.ntmps39
        go_wp2_with fail
        refine HM.out.mono ?_; rintro e w' ⟨rfl, rfl⟩
        go_wp2_with fail
        refine hgen.out.mono ?_; rintro e w' ⟨rfl, rfl⟩
        go_wp2_with fail
        refine hnew.out.mono ?_; rintro e w' ⟨rfl, rfl⟩
        go_wp2_with fail
        go_ret
        exact ⟨rfl, rfl⟩
  · rw [decide_eq_false hd] at hmay ⊢
    rw [Bool.false_and]
    have HM := Lib.hid hmay
    clear h hmay hd
    go_enter Try.func39, Try.ntmps39
    go_wp2_with fail
    refine HM.out.mono ?_; rintro e w' ⟨rfl, rfl⟩
    go_wp2_with fail
    go_ret
    exact ⟨rfl, rfl⟩
def ritems (ow sq fi wo de tries : Int) : List Bool := [decide (1 ≤ wo), decide (wo ≤ 64), decide (2 ≤ de), decide (de ≤ 16), decide (0 ≤ ow), decide (ow ≤ 1048576), decide (0 ≤ sq), decide (sq ≤ 1048576), decide (0 ≤ fi), decide (fi ≤ 1048576), decide (1 ≤ tries), decide (tries ≤ 16)]
theorem ritems_all (ow sq fi wo de tries : Int) : (ritems ow sq fi wo de tries).all id = mayF ⟨ow, sq, fi, wo, de⟩ tries := by
  unfold ritems mayF Spot.Right
  simp only [List.all_cons, List.all_nil, id, Bool.and_true, Bool.decide_and, Bool.and_assoc]
set_option maxRecDepth 100000 in
theorem rright_any (s : Spot) (tries : Int) (w : World) :
    Calls Try.prog 30 #[s.val, .int .i64 tries] w fun e w' => e = .returned (.bool (mayF s tries)) ∧ Below w.heap.size w w' := by
  obtain ⟨ow, sq, fi, wo, de⟩ := s
  have HM := Lib.hid (ritems_all ow sq fi wo de tries)
  unfold Spot.val
  simp only
  generalize mayF ⟨ow, sq, fi, wo, de⟩ tries = mm at *
  go_enter Try.func30, Try.ntmps30
  go_wp2_with fail
  have L0 := Lib.hid (((Below.refl w.heap.size w).alloc (Nat.le_refl _) (.cells #[.int .i64 ow, .int .i64 sq, .int .i64 fi, .int .i64 wo, .int .i64 de] 23)).alloc (by simp) (.cells ((ritems ow sq fi wo de tries).map Value.bool).toArray 4))
  have BL := Lib.hid (Blk.new (w.alloc (.cells #[.int .i64 ow, .int .i64 sq, .int .i64 fi, .int .i64 wo, .int .i64 de] 23)) 4 ((ritems ow sq fi wo de tries).map Value.bool).toArray)
  refine (all_any _ 12 12 (ritems ow sq fi wo de tries) _ rfl (by omega) (fun i hi => ?hcells)).mono ?_
  case hcells =>
    have := BL.out.cell i
    simp only [World.size_alloc] at this
    refine this.trans ?_
    match i, hi with
    | 0, _ => rfl
    | 1, _ => rfl
    | 2, _ => rfl
    | 3, _ => rfl
    | 4, _ => rfl
    | 5, _ => rfl
    | 6, _ => rfl
    | 7, _ => rfl
    | 8, _ => rfl
    | 9, _ => rfl
    | 10, _ => rfl
    | 11, _ => rfl
  rintro e w' ⟨rfl, rfl⟩
  rw [HM.out]
  go_wp2_with fail
  go_ret
  exact ⟨rfl, L0.out⟩

/-- how a reading stands: how, what is next, how many tries failed, the generation, how many words were loaded, the step with which that try began, its steps -/
structure RS where
  how : Int
  next : Int
  had : Int
  gen : Int
  n : Int
  begun : Int
  steps : Int
def RS.zero : RS := ⟨0, 0, 0, 0, 0, 0, 0⟩
def Row (w : World) (r : Nat) (xs : List Int) : Prop := Blk w r 43 (xs.map (Value.int .u64)).toArray
theorem Row.word {w : World} {r : Nat} {xs : List Int} (b : Row w r xs) {i : Nat} (hi : i < xs.length) : w.cell? ⟨r, i, none⟩ = some (.int .u64 (nth xs i)) := by
  rw [Blk.cell b i]
  simp [nth, List.getD_eq_getElem?_getD, List.getElem?_eq_getElem hi]
theorem Row.stored {w : World} {r : Nat} {xs : List Int} (b : Row w r xs) (i : Nat) (x : Int) : Row (w.setCell ⟨r, i, none⟩ (.int .u64 x)) r (xs.set i x) := by
  have := Blk.set_ b i (.int .u64 x)
  unfold Row
  have e : ((xs.map (Value.int .u64)).toArray.setIfInBounds i (.int .u64 x)) = ((xs.set i x).map (Value.int .u64)).toArray := by
    rw [List.setIfInBounds_toArray, List.map_set]
  rwa [e] at this
theorem Row.ex {T : Nat → Prop} {w w' : World} {r : Nat} {xs : List Int} (b : Row w r xs) (p : Ex T w w') (h : ¬ T r) : Row w' r xs := Blk.ex b p h
theorem Row.bl {w w' : World} {r : Nat} {xs : List Int} (b : Row w r xs) (p : Below w.heap.size w w') : Row w' r xs := Blk.bl b p
theorem Row.lt {w : World} {r : Nat} {xs : List Int} (b : Row w r xs) : r < w.heap.size := Blk.lt b
/-- its struct's cells -/
def rCs (s : Spot) (tries : Int) (r n : Nat) (x : RS) : Array Value :=
  #[.int .i64 s.owners, .int .i64 s.seq, .int .i64 s.first, .int .i64 s.words, .int .i64 s.depth, .int .i64 (tries - x.had), .int .i64 x.next, .int .u64 x.gen, .slice (some ⟨r, 0, none⟩) n n, .int .i64 x.n, .int .i64 x.begun, .int .i64 x.steps, .int .i64 x.how]
structure RdAt (w : World) (o r : Nat) (s : Spot) (tries : Int) (x : RS) (got : List Int) : Prop where
  head : Blk w o 82 (rCs s tries r got.length x)
  row : Row w r got
  ne : o ≠ r
theorem RdAt.ex {T : Nat → Prop} {w w' : World} {o r : Nat} {s : Spot} {tries : Int} {x : RS} {got : List Int} (h : RdAt w o r s tries x got) (p : Ex T w w') (ho : ¬ T o) (hr : ¬ T r) : RdAt w' o r s tries x got :=
  ⟨h.head.ex p ho, h.row.ex p hr, h.ne⟩
theorem RdAt.below {w w' : World} {o r : Nat} {s : Spot} {tries : Int} {x : RS} {got : List Int} (h : RdAt w o r s tries x got) (p : Below w.heap.size w w') : RdAt w' o r s tries x got :=
  ⟨h.head.bl p, h.row.bl p, h.ne⟩
/-- where the next word of the place is -/
def placeR (s : Spot) (gen n : Int) : Int := atF s gen + n
def atR (s : Spot) (x : RS) : Int := if x.next = 1 then placeR s x.gen x.n else s.seq
structure RInv (s : Spot) (tries : Int) (x : RS) (got : List Int) : Prop where
  right : s.Right
  tr : 1 ≤ tries ∧ tries ≤ 16
  len : (got.length : Int) = s.words
  next : x.next = 0 ∨ x.next = 1 ∨ x.next = 2
  how : x.how = 0 ∨ x.how = 1 ∨ x.how = 2 ∨ x.how = 3
  had : 0 ≤ x.had ∧ x.had ≤ tries ∧ (x.how = 0 → x.had < tries)
  gen : 0 ≤ x.gen ∧ x.gen ≤ 9223372036854775807
  n : 0 ≤ x.n ∧ x.n ≤ s.words ∧ (x.how = 0 → x.next = 1 → x.n < s.words) ∧ (x.how = 0 → x.next = 2 → x.n = s.words)
  steps : x.how = 0 → x.steps = (s.words + 2) * x.had + (if x.next = 0 then 0 else 1 + x.n)
  most : 0 ≤ x.steps ∧ x.steps ≤ (s.words + 2) * tries
  begun : 0 ≤ x.begun ∧ x.begun ≤ x.steps
  fit : ∀ y ∈ got, 0 ≤ y ∧ y ≤ 18446744073709551615
def mostR (s : Spot) (tries : Int) : Int := if mayF s tries = true then (s.words + 2) * tries else 0
theorem words_tries {s : Spot} {tries : Int} (h : s.Right) (ht : 1 ≤ tries ∧ tries ≤ 16) : 0 ≤ (s.words + 2) * tries ∧ (s.words + 2) * tries ≤ 1056 := by
  have h1 := h.1
  refine ⟨Int.mul_nonneg (by omega) (by omega), ?_⟩
  calc (s.words + 2) * tries ≤ 66 * tries := Int.mul_le_mul_of_nonneg_right (by omega) (by omega)
    _ ≤ 66 * 16 := Int.mul_le_mul_of_nonneg_left ht.2 (by omega)
    _ = 1056 := rfl
theorem RInv.wst {s : Spot} {tries : Int} {x : RS} {got : List Int} (h : RInv s tries x got) : wrap64 (x.steps + 1) = x.steps + 1 := by
  have h1 := h.most
  have h2 := words_tries h.right h.tr
  exact wrap64_in _ (by omega)
theorem RInv.zero_ {s : Spot} {tries : Int} (hm : mayF s tries = true) : RInv s tries RS.zero (zeros s.words.toNat) := by
  have h : s.Right ∧ 1 ≤ tries ∧ tries ≤ 16 := of_decide_eq_true hm
  have h1 := h.1.1
  have h2 := words_tries h.1 h.2
  refine ⟨h.1, h.2, by rw [zeros_len]; omega, .inl rfl, .inl rfl, ⟨by decide, by simp only [RS.zero]; omega, fun _ => by simp only [RS.zero]; omega⟩, ⟨by decide, by decide⟩, ⟨by decide, by simp only [RS.zero]; omega, fun _ h => by simp [RS.zero] at h, fun _ h => by simp [RS.zero] at h⟩, fun _ => by simp [RS.zero], ⟨by decide, by simp only [RS.zero]; omega⟩, ⟨by decide, by decide⟩, zeros_fit _⟩
theorem RMost_any (s : Spot) (tries : Int) (w : World) :
    Calls Try.prog 12 #[s.val, .int .i64 tries] w fun e w' => e = .returned (.int .i64 (mostR s tries)) ∧ Below w.heap.size w w' := by
  obtain ⟨ow, sq, fi, wo, de⟩ := s
  have hr := rright_any ⟨ow, sq, fi, wo, de⟩ tries (w.alloc (.cells #[.int .i64 ow, .int .i64 sq, .int .i64 fi, .int .i64 wo, .int .i64 de] 23))
  have L0 := Lib.hid ((Below.refl w.heap.size w).alloc (Nat.le_refl _) (.cells #[.int .i64 ow, .int .i64 sq, .int .i64 fi, .int .i64 wo, .int .i64 de] 23))
  have B0 := Lib.hid (Blk.new w 23 #[.int .i64 ow, .int .i64 sq, .int .i64 fi, .int .i64 wo, .int .i64 de])
  unfold mostR
  by_cases hm : mayF ⟨ow, sq, fi, wo, de⟩ tries = true
  · rw [if_pos hm]
    rw [hm] at hr
    have h : Spot.Right ⟨ow, sq, fi, wo, de⟩ ∧ 1 ≤ tries ∧ tries ≤ 16 := of_decide_eq_true hm
    have h2 := words_tries h.1 h.2
    have h1 := h.1.1
    simp only at h1 h2
    have kw1 : wrap64 (wo + 2) = wo + 2 := wrap64_in _ (by omega)
    have kw2 : wrap64 ((wo + 2) * tries) = (wo + 2) * tries := wrap64_in _ (by omega)
    unfold Spot.val at hr ⊢
    simp only at hr ⊢
    have HR := Lib.hid hr
    have KW2 := Lib.hid kw2
    clear hm h h1 h2 hr kw2
    go_enter Try.func12, Try.ntmps12
    go_wp2_with fail
    refine HR.out.mono ?_; rintro e w' ⟨rfl, hb⟩
    have q3 := (B0.out.bl hb).cell 3
    simp only [List.getElem?_toArray, List.getElem?_cons_succ, List.getElem?_cons_zero] at q3
    have L1 := Lib.hid (bl L0.out hb)
    clear hb
    go_wp2_with fail
    go_ret
    exact ⟨congrArg (fun z => Ending.returned (.int .i64 z)) KW2.out, L1.out⟩
  · rw [if_neg hm]
    rw [Bool.not_eq_true] at hm
    rw [hm] at hr
    unfold Spot.val at hr ⊢
    simp only at hr ⊢
    have HR := Lib.hid hr
    clear hm hr
    go_enter Try.func12, Try.ntmps12
    go_wp2_with fail
    refine HR.out.mono ?_; rintro e w' ⟨rfl, hb⟩
    have L1 := Lib.hid (bl L0.out hb)
    clear hb
    go_wp2_with fail
    go_ret
    exact ⟨rfl, L1.out⟩
end Go.Proofs.Ytihogagnjikghaa.Bank
