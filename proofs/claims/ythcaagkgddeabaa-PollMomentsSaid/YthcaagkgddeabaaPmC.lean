/-
  Law 12, the stage's theorem: how far a poll is, and what it will tell, in plain words. No program. By an AI agent.
-/
import Derived.Test.YthcaagkgddeabaaPmB
import Derived.Test.YthcaagkgddeabaaPoAl
namespace Go.Proofs.Ythcaagkgddeabaa.Bank
set_option linter.unusedVariables false
set_option linter.unusedSimpArgs false
open Go Go.RowKit Go.Proofs.Ythcaagkgddeabaa.Base Go.Deep Go.ChangeShapes Go.WideShapes Go.Proofs.Ythcaagkgddeabaa.Queue
/-- two topics of a play, two subscriptions each: words, places; ranks, rooms -/
structure MT where
  W : Nat → Int
  D : Nat → Int
  rk : Nat → Int
  rm : Nat → Int
structure MT.Ok (a : MT) : Prop where
  top : ∀ k, k < 2 → (1 ≤ a.W k ∧ a.W k ≤ 4) ∧ (2 ≤ a.D k ∧ a.D k ≤ 6)
  sub : ∀ j, j < 4 → (1 ≤ a.rm j ∧ a.rm j ≤ a.D (j / 2) - 1) ∧ (0 ≤ a.rk j ∧ a.rk j ≤ 255)
def spotM (a : MT) (k : Nat) : Spot := ⟨30 * (k : Int), 30 * (k : Int) + 1, 30 * (k : Int) + 2, a.W k, a.D k⟩
def sM (a : MT) (j : Nat) : Spot := spotM a (j / 2)
def lM (a : MT) (cu : Nat → Cur) (j : Nat) : Queue.Sub := ⟨((j / 2 : Nat) : Int), a.rk j, cu j⟩
def cM (a : MT) : PC := cOf 4 (lM a (fun _ => Cur.zero)) (sM a)
theorem cM_is (a : MT) (cu : Nat → Cur) : cOf 4 (lM a cu) (sM a) = cM a := rfl
theorem cM_tops (a : MT) (cu : Nat → Cur) : topsS (lM a cu) (sM a) 4 = [⟨0, spotM a 0⟩, ⟨1, spotM a 1⟩] := by
  have h : topsL (lM a cu) (sM a) 4 = [⟨0, spotM a 0⟩, ⟨1, spotM a 1⟩] := by
    unfold topsL topsL topsL topsL topsL
    simp [lM, sM]
  refine (topsS_only (d := [⟨0, spotM a 0⟩, ⟨1, spotM a 1⟩]) (by rw [h]) ?_).symm
  simp
theorem cM_T (a : MT) : (cM a).T = 2 := by
  show (topsS (lM a (fun _ => Cur.zero)) (sM a) 4).length = 2
  rw [cM_tops]; rfl
theorem cM_tp0 (a : MT) : ((cM a).tp 0).spot = spotM a 0 := by
  show ((topsS (lM a (fun _ => Cur.zero)) (sM a) 4).getD 0 default).spot = _
  rw [cM_tops]; rfl
theorem cM_tp1 (a : MT) : ((cM a).tp 1).spot = spotM a 1 := by
  show ((topsS (lM a (fun _ => Cur.zero)) (sM a) 4).getD 1 default).spot = _
  rw [cM_tops]; rfl
theorem cM_tp (a : MT) {k : Nat} (h : k < 2) : ((cM a).tp k).spot = spotM a k := by
  have : k = 0 ∨ k = 1 := by omega
  rcases this with rfl | rfl
  · exact cM_tp0 a
  · exact cM_tp1 a
theorem cM_ix (a : MT) {j : Nat} (h : j < 4) : (cM a).ix j = j / 2 := by
  show (topsS (lM a (fun _ => Cur.zero)) (sM a) 4).findIdx (fun t => t.n == (lM a (fun _ => Cur.zero) j).topic) = j / 2
  rw [cM_tops]
  have : j = 0 ∨ j = 1 ∨ j = 2 ∨ j = 3 := by omega
  rcases this with rfl | rfl | rfl | rfl <;> simp [lM, List.findIdx_cons]
theorem cM_n (a : MT) : (cM a).n = 4 := rfl
theorem cM_sub (a : MT) (cu : Nat → Cur) : (cM a).sub cu = lM a cu := rfl
/-- cursors that are right, and not ahead of what is published -/
def Curs (a : MT) (cu : Nat → Cur) (P : Nat → Int) : Prop := ∀ j, j < 4 → (cu j).Right ∧ (cu j).Ok ∧ (cu j).cap = a.rm j ∧ 1 ≤ (cu j).next ∧ (cu j).next ≤ P (j / 2) + 1
theorem MT.Ok.at_ {a : MT} (h : a.Ok) {k : Nat} (hk : k < 2) : (spotM a k).AtOk := by
  have := h.top k hk
  unfold spotM Spot.AtOk
  simp only
  omega
theorem Curs.fits {a : MT} {cu : Nat → Cur} {P : Nat → Int} (h : Curs a cu P) (ha : a.Ok) : Fits 4 4 (lM a cu) (sM a) := by
  refine ⟨by decide, rfl, fun i hi => ⟨ha.at_ (by omega), ?_, (h i hi).1, fun k hk => ⟨fun e => ?_, fun e => ?_⟩⟩⟩
  · have h1 := (h i hi).2.2.1
    have h2 := (ha.sub i hi).1
    show (cu i).cap ≤ a.D (i / 2) - 1
    omega
  · have e : ((i / 2 : Nat) : Int) = ((k / 2 : Nat) : Int) := e
    have e2 : i / 2 = k / 2 := by omega
    show spotM a (i / 2) = spotM a (k / 2)
    rw [e2]
  · have e : ((i / 2 : Nat) : Int) ≠ ((k / 2 : Nat) : Int) := e
    show 30 * ((i / 2 : Nat) : Int) + 1 ≠ 30 * ((k / 2 : Nat) : Int) + 1
    omega
theorem Curs.ok {a : MT} {cu : Nat → Cur} {P : Nat → Int} (h : Curs a cu P) (ha : a.Ok) : ∀ i, i < 4 → (lM a cu i).Ok := fun i hi => ⟨by have h1 := (ha.sub i hi).2; show -9223372036854775808 ≤ a.rk i ∧ a.rk i ≤ 9223372036854775807; omega, (h i hi).2.1⟩
theorem Curs.cok {a : MT} {cu : Nat → Cur} {P : Nat → Int} (h : Curs a cu P) (ha : a.Ok) : (cM a).Ok := by
  have h9 : (cOf 4 (lM a cu) (sM a)).Ok := cOf_ok (h.fits ha) (by decide) (h.ok ha)
  exact h9
theorem Curs.mono {a : MT} {cu : Nat → Cur} {P P' : Nat → Int} (h : Curs a cu P) (hp : ∀ k, k < 2 → P k ≤ P' k) : Curs a cu P' := fun j hj => by
  obtain ⟨h1, h2, h3, h4, h5⟩ := h j hj
  have := hp (j / 2) (by omega)
  exact ⟨h1, h2, h3, h4, by omega⟩
/-- the greatest record -/
def mwM (a : MT) : Int := maxW (sM a) 4
theorem mwM_ge {a : MT} (k : Nat) (hk : k < 2) : a.W k ≤ mwM a := by
  have := maxW_ge (sM a) (k := 2 * k) (n := 4) (by omega)
  have e : (sM a (2 * k)).words = a.W k := by
    show (spotM a (2 * k / 2)).words = _
    rw [show 2 * k / 2 = k by omega]; rfl
  rw [e] at this
  exact this
theorem mostM {a : MT} (ha : a.Ok) {tries : Int} (ht : 1 ≤ tries ∧ tries ≤ 16) : mostF 4 (sM a) tries = tries * (4 + mwM a) := by
  unfold mostF
  rw [if_pos ⟨by decide, ht, fun i hi => ha.at_ (by omega)⟩]
  have : (seqsL (sM a) 4).length = 2 := by
    unfold seqsL seqsL seqsL seqsL seqsL
    simp [sM, spotM]
  rw [this]
  rfl
def thN (th : List (Int × Int)) (i : Int) : Int × Int := th.getD i.toNat (0, 0)
theorem thN_push_lt {th : List (Int × Int)} {v : Int × Int} {i : Int} (h0 : 0 ≤ i) (h : i < (th.length : Int)) : thN (th ++ [v]) i = thN th i := by
  unfold thN
  rw [List.getD_eq_getElem?_getD, List.getD_eq_getElem?_getD, List.getElem?_append_left (by omega)]
theorem thN_push_eq (th : List (Int × Int)) (v : Int × Int) {i : Int} (h : i = (th.length : Int)) : thN (th ++ [v]) i = v := by
  unfold thN
  rw [List.getD_eq_getElem?_getD, h, Int.toNat_natCast]
  simp
/-- how many steps this attempt took -/
def attN (x : PX) : Int := if x.round = 1 then x.next else if x.round = 2 then 2 + x.next else 2 + x.size + x.next
/-- a poll under way beside who publishes -/
structure Prog (a : MT) (cu : Nat → Cur) (tries seen : Int) (P : Nat → Int) (x : PX) (th : List (Int × Int)) : Prop where
  how : x.how = 0
  good : PGood (cM a) cu x x.steps
  len : (th.length : Int) = x.steps
  tr : x.left ≤ tries ∧ tries ≤ 16
  att : ∃ A : Nat → Int, tries - x.left + seen ≤ A 0 + A 1 ∧ (∀ k, k < 2 → A k ≤ P k) ∧ ∀ k : Nat, k < 2 → (x.round ≠ 1 ∨ (k : Int) < x.next) → A k ≤ nth x.gl k ∧ nth x.gl k ≤ P k
  cnt : x.steps ≤ (tries - x.left) * (4 + mwM a) + attN x
  mom : x.round ≠ 1 → (1 ≤ x.begun ∧ x.begun ≤ x.steps) ∧ nth x.gl 1 = (thN th (x.begun - 1)).2 ∧ nth x.gl 0 ≤ (thN th (x.begun - 1)).1 ∧ (thN th (x.begun - 1)).1 ≤ P 0 ∧ (x.round = 3 → 1 ≤ x.next → (thN th (x.begun - 1)).1 = nth x.gl 0)
  wrd : x.round ≠ 1 → 0 ≤ x.pick → (P (x.pick.toNat / 2) = nth x.gl (x.pick.toNat / 2) ∨ (x.round = 3 ∧ ((x.pick.toNat / 2 : Nat) : Int) < x.next)) → ∀ i : Nat, i < x.words.length → nth x.words i = recW ((x.pick.toNat / 2 : Nat) : Int) x.gen i
/-- what a poll that is done tells, and what its queues were -/
structure Told (a : MT) (cu : Nat → Cur) (x : PX) (th : List (Int × Int)) : Prop where
  at_ : 1 ≤ x.begun ∧ x.begun ≤ (th.length : Int)
  was : thN th (x.begun - 1) = (nth x.gl 0, nth x.gl 1)
  wrd : 0 ≤ x.pick → (∀ i : Nat, i < x.words.length → nth x.words i = recW ((x.pick.toNat / 2 : Nat) : Int) x.gen i) ∧ (x.words.length : Int) = a.W (x.pick.toNat / 2)
  non : ¬ 0 ≤ x.pick → x.words = []
  gn : 0 ≤ x.pick → 1 ≤ x.gen ∧ x.gen ≤ nth x.gl (x.pick.toNat / 2) ∧ x.pick < 4
section
variable {a : MT} {cu : Nat → Cur} {tries seen : Int} {P P' : Nat → Int} {x : PX} {th : List (Int × Int)} {WS : List Int} {b : Nat → Pb}
/-- whose the picked one is -/
theorem Prog.pk (h : Prog a cu tries seen P x th) (hr : x.round ≠ 1) : Chosen (cM a) x ∧ x.pick < 4 := by
  obtain ⟨_, hw⟩ := h.good.way h.how
  have : Chosen (cM a) x := by
    rcases hw with ⟨c, _⟩ | ⟨_, _, c, _⟩ | ⟨_, _, c, _⟩
    · exact absurd c hr
    · exact c
    · exact c
  exact ⟨this, by rw [this.pick]; exact (pickF_ge (cM a) x).2⟩
/-- who publishes does a step -/
theorem Prog.pub (h : Prog a cu tries seen P x th) (hp : ∀ k, k < 2 → P k ≤ P' k) : Prog a cu tries seen P' x th := by
  obtain ⟨A, h1, h2, h3⟩ := h.att
  refine ⟨h.how, h.good, h.len, h.tr, ⟨A, h1, fun k hk => Int.le_trans (h2 k hk) (hp k hk), fun k hk hr => ⟨(h3 k hk hr).1, Int.le_trans (h3 k hk hr).2 (hp k hk)⟩⟩, h.cnt, fun hr => ?_, fun hr hpk hor => ?_⟩
  · obtain ⟨m1, m2, m3, m4, m5⟩ := h.mom hr
    exact ⟨m1, m2, m3, Int.le_trans m4 (hp 0 (by decide)), m5⟩
  · refine h.wrd hr hpk ?_
    rcases hor with e | e
    · left
      have hk : x.pick.toNat / 2 < 2 := by have := (h.pk hr).2; omega
      have h4 := (h3 _ hk (.inl hr)).2
      have h5 := hp _ hk
      omega
    · exact .inr e
/-- which word the poll loads -/
theorem at_round (c : PC) {x : PX} (h : x.round ≠ 2) : pAtF c x = (c.tp x.next.toNat).spot.seq := if_neg h
theorem two_of {n : Int} (h0 : 0 ≤ n) (h : n < 2) : n = 0 ∨ n = 1 := by omega
/-- the picked record is one that lies whole while no more are published -/
theorem Prog.rec_ (h : Prog a cu tries seen P x th) (ha : a.Ok) (hc : Curs a cu P) (hr : x.round ≠ 1) (hp : 0 ≤ x.pick) :
    x.place = 30 * ((x.pick.toNat / 2 : Nat) : Int) + 2 + x.gen % a.D (x.pick.toNat / 2) * a.W (x.pick.toNat / 2) ∧ x.size = a.W (x.pick.toNat / 2) ∧ x.pick.toNat / 2 < 2 ∧
    1 ≤ x.gen ∧ x.gen ≤ nth x.gl (x.pick.toNat / 2) ∧ nth x.gl (x.pick.toNat / 2) + 2 ≤ x.gen + a.D (x.pick.toNat / 2) := by
  obtain ⟨hch, hp4⟩ := h.pk hr
  have hcu := h.good.not (by rw [h.how]; decide)
  obtain ⟨j, hj⟩ : ∃ j : Nat, x.pick = (j : Int) := ⟨x.pick.toNat, by omega⟩
  have hj4 : j < 4 := by omega
  have hk2 : j / 2 < 2 := by omega
  have hpf : pickF (cM a) x = (j : Int) := by rw [← hch.pick, hj]
  obtain ⟨hg, hpl, hsz⟩ := hch.some (by omega)
  rw [hpf, Int.toNat_natCast] at hg
  rw [hpf, Int.toNat_natCast, cM_ix a hj4, cM_tp a hk2] at hpl hsz
  have hgl := h.good.gl _ (nth_mem (i := (cM a).ix j) (by rw [h.good.glen, cM_T, cM_ix a hj4]; exact hk2))
  obtain ⟨h1, h2, h3, h4, h5⟩ := hc j hj4
  have hhas := best_has (lM a cu) (gensL (cM a) x.gl) 4 (by
    have e : best (lM a cu) (gensL (cM a) x.gl) 4 = (j : Int) := by rw [← hpf, ← cM_sub, ← hcu]; rfl
    omega)
  have e : best (lM a cu) (gensL (cM a) x.gl) 4 = (j : Int) := by rw [← hpf, ← cM_sub, ← hcu]; rfl
  rw [e, Int.toNat_natCast, gensL_nth _ _ (show j < (cM a).n from hj4)] at hhas
  have hhas : ¬ nth x.gl ((cM a).ix j) < (Queue.seen (cu j) (nth x.gl ((cM a).ix j))).next := hhas
  have hgen : x.gen = (Queue.seen (cu j) (nth x.gl ((cM a).ix j))).next := by
    rw [hg]
    unfold genF takeX takeE
    rw [hcu, if_pos (mayE_yes h1 hgl.2), if_neg hhas, if_pos rfl]
  rw [hj, Int.toNat_natCast]
  rw [cM_ix a hj4] at hgen hhas
  have hhas : ¬ nth x.gl (j / 2) < (Queue.seen (cu j) (nth x.gl (j / 2))).next := hhas
  have es := seen_n (cu j) (nth x.gl (j / 2))
  have hroom := (ha.sub j hj4).1
  refine ⟨?_, hsz, hk2, ?_, ?_, ?_⟩
  · rw [hpl, atF_ok (ha.at_ hk2)]
    rfl
  · rw [hgen]; (repeat' split at es) <;> omega
  · rw [hgen]; omega
  · rw [hgen]; (repeat' split at es) <;> omega
theorem wordF_place {k : Nat} {b : Pb} (ht : TInv WS (k : Int) (a.W k) (a.D k) b) {g i : Int} (h1 : 1 ≤ g) (h2 : g ≤ b.p) (h3 : b.p + 2 ≤ g + a.D k) (h4 : 0 ≤ i) (h5 : i < a.W k) : wordF WS (30 * (k : Int) + 2 + g % a.D k * a.W k + i) = recW k g i := ht.rcd g h1 h2 h3 i h4 h5
set_option maxHeartbeats 2000000 in
/-- the poll does a step -/
theorem Prog.step (h : Prog a cu tries seen P x th) (ha : a.Ok) (hc : Curs a cu P) (hlen : WS.length = 60) (hfit : ∀ v ∈ WS, 0 ≤ v ∧ v ≤ 18446744073709551615) (ht : ∀ k : Nat, k < 2 → TInv WS (k : Int) (a.W k) (a.D k) (b k)) (hP : ∀ k, k < 2 → P k = (b k).p) :
    (pStepF (cM a) WS x).steps = x.steps + 1 ∧ (pStepF (cM a) WS x).steps ≤ tries * (4 + mwM a) ∧ PGood (cM a) cu (pStepF (cM a) WS x) (x.steps + 1) ∧
    (((pStepF (cM a) WS x).how = 0 ∧ Prog a cu tries seen P (pStepF (cM a) WS x) (th ++ [(P 0, P 1)])) ∨ ((pStepF (cM a) WS x).how = 2 ∧ tries + seen ≤ P 0 + P 1) ∨ ((pStepF (cM a) WS x).how = 1 ∧ Told a cu (pStepF (cM a) WS x) (th ++ [(P 0, P 1)]) ∧ ∀ k : Nat, k < 2 → nth (pStepF (cM a) WS x).gl k ≤ P k)) := by
  have hgs := h.good.step hfit
  have hmw := mwM_ge (a := a) 0 (by decide)
  have hmw1 := mwM_ge (a := a) 1 (by decide)
  have hw0 := ha.top 0 (by decide)
  have hw1 := ha.top 1 (by decide)
  have hrec := fun hr hp => h.rec_ ha hc hr hp
  have hpk := fun hr => h.pk hr
  obtain ⟨left, round, next, pk, gen, place, size, how, steps, begun, words, gl, cu'⟩ := x
  have hhow := h.how
  obtain ⟨hl1, hway⟩ := h.good.way hhow
  have hnx := h.good.nx
  have hglen := h.good.glen
  have hlth := h.len
  have htr := h.tr
  have hcnt := h.cnt
  have hmom := h.mom
  have hwrd := h.wrd
  obtain ⟨A, hA1, hA2, hA3⟩ := h.att
  have hcu := h.good.not (by rw [hhow]; decide)
  simp only at hhow hl1 hway hnx hglen hlth htr hcnt hmom hwrd hA1 hA2 hA3 hcu hgs hrec hpk
  subst hhow
  subst hcu
  rw [cM_T] at hglen hway
  have hmul : (tries - left) * (4 + mwM a) + (4 + mwM a) ≤ tries * (4 + mwM a) := by
    have e : (tries - left) * (4 + mwM a) + (4 + mwM a) = (tries - left + 1) * (4 + mwM a) := by rw [Int.add_mul (tries - left) 1, Int.one_mul]
    rw [e]
    exact Int.mul_le_mul_of_nonneg_right (by omega) (by omega)
  have hseq : ∀ k : Nat, k < 2 → inW WS (spotM a k).seq ∧ wordF WS (spotM a k).seq / 2 = P k := fun k hk => by
    refine ⟨?_, ?_⟩
    · unfold inW spotM; simp only; omega
    · rw [hP k hk, ← (ht k hk).half]; rfl
  have ep : pStepF (cM a) WS ⟨left, round, next, pk, gen, place, size, 0, steps, begun, words, gl, cu'⟩ = if ¬ inW WS (pAtF (cM a) ⟨left, round, next, pk, gen, place, size, 0, steps, begun, words, gl, cu'⟩) then ⟨left, round, next, pk, gen, place, size, 3, steps, begun, words, gl, cu'⟩ else if round = 2 then pRecord ⟨left, round, next, pk, gen, place, size, 0, steps, begun, words, gl, cu'⟩ (wordF WS (pAtF (cM a) ⟨left, round, next, pk, gen, place, size, 0, steps, begun, words, gl, cu'⟩)) else if round = 3 then pSecond (cM a) ⟨left, round, next, pk, gen, place, size, 0, steps, begun, words, gl, cu'⟩ (wordF WS (pAtF (cM a) ⟨left, round, next, pk, gen, place, size, 0, steps, begun, words, gl, cu'⟩)) else pFirst (cM a) ⟨left, round, next, pk, gen, place, size, 0, steps, begun, words, gl, cu'⟩ (wordF WS (pAtF (cM a) ⟨left, round, next, pk, gen, place, size, 0, steps, begun, words, gl, cu'⟩)) := rfl
  have hlt2 : ((th ++ [(P 0, P 1)]).length : Int) = steps + 1 := by rw [List.length_append]; simp; omega
  rcases hway with ⟨rfl, hj⟩ | ⟨rfl, hj, hch, hwl⟩ | ⟨rfl, hj, hch, hwl⟩
  · -- the first round
    obtain ⟨j, rfl⟩ : ∃ j : Nat, next = (j : Int) := ⟨next.toNat, by omega⟩
    have hj2 : j < 2 := by omega
    have ea : pAtF (cM a) ⟨left, 1, (j : Int), pk, gen, place, size, 0, steps, begun, words, gl, cu'⟩ = (spotM a j).seq := by
      rw [at_round _ (by show (1 : Int) ≠ 2; decide)]
      show ((cM a).tp ((j : Int)).toNat).spot.seq = _
      rw [Int.toNat_natCast, cM_tp a hj2]
    obtain ⟨hin, hv⟩ := hseq j hj2
    rw [ea, if_neg (fun e => e hin), if_neg (by decide), if_neg (by decide)] at ep
    rw [ep] at hgs ⊢
    generalize wordF WS (spotM a j).seq = v at hv hgs ⊢
    unfold pFirst at hgs ⊢
    simp only [Int.toNat_natCast, cM_T] at hgs ⊢
    have hgj : ∀ k : Nat, k < 2 → nth (gl.set j (v / 2)) k = if k = j then P j else nth gl k := fun k hk => by
      rw [nth_set _ _ _ _ (by omega), hv]
    have hatt : ∀ k : Nat, k < 2 → (k : Int) < (j : Int) + 1 → A k ≤ nth (gl.set j (v / 2)) k ∧ nth (gl.set j (v / 2)) k ≤ P k := fun k hk hkj => by
      rw [hgj k hk]
      by_cases e : k = j
      · rw [if_pos e, e]; exact ⟨hA2 j hj2, Int.le_refl _⟩
      · rw [if_neg e]
        exact hA3 k hk (.inr (by omega))
    have hcn : steps ≤ (tries - left) * (4 + mwM a) + (j : Int) := hcnt
    by_cases he : (j : Int) + 1 = 2
    · rw [if_pos (by exact he)] at hgs ⊢
      unfold firstP at hgs ⊢
      have hch := chooseP_chosen (cM a) ⟨left, 1, (j : Int) + 1, pk, gen, place, size, 0, steps + 1, begun, words, gl.set j (v / 2), cu'⟩
      obtain ⟨pk2, gen2, place2, size2, e⟩ := chooseP_form (cM a) ⟨left, 1, (j : Int) + 1, pk, gen, place, size, 0, steps + 1, begun, words, gl.set j (v / 2), cu'⟩
      rw [e] at hch hgs ⊢
      simp only at hch hgs ⊢
      have hs2 := hch.size (hc.cok ha)
      simp only at hs2
      refine ⟨trivial, by omega, hgs, .inl ⟨trivial, ?_⟩⟩
      have hrd : (if size2 = 0 then (3 : Int) else 2) ≠ 1 := by split <;> decide
      have hth : thN (th ++ [(P 0, P 1)]) (steps + 1 - 1) = (P 0, P 1) := thN_push_eq _ _ (by omega)
      have hj1 : j = 1 := by omega
      subst hj1
      refine ⟨rfl, hgs, hlt2, htr, ⟨A, hA1, hA2, fun k hk _ => hatt k hk (by omega)⟩, ?_, fun _ => ?_, fun _ _ _ i hi => by simp at hi⟩
      · unfold attN
        simp only
        rw [if_neg hrd]
        by_cases hz : size2 = 0
        · simp only [if_pos hz, if_neg (show ¬ (3 : Int) = 2 by decide)]; omega
        · simp only [if_neg hz, if_true]; omega
      · have h0 := hatt 0 (by decide) (by decide)
        have h1 := hgj 1 (by decide)
        simp only [if_true] at h1
        simp only
        rw [hth]
        exact ⟨⟨by have := h.good.st.1; simp only at this; omega, by omega⟩, h1, h0.2, Int.le_refl _, fun _ h9 => absurd h9 (by decide)⟩
    · rw [if_neg (by exact he)] at hgs ⊢
      simp only at hgs ⊢
      refine ⟨trivial, by omega, hgs, .inl ⟨trivial, ?_⟩⟩
      refine ⟨rfl, hgs, hlt2, htr, ⟨A, hA1, hA2, fun k hk hr => hatt k hk (by rcases hr with e | e; exact absurd rfl e; exact e)⟩, ?_, fun hr => absurd rfl hr, fun hr => absurd rfl hr⟩
      unfold attN
      simp only [if_true]
      omega
  · -- the second round
    obtain ⟨j, rfl⟩ : ∃ j : Nat, next = (j : Int) := ⟨next.toNat, by omega⟩
    have hj2 : j < 2 := by omega
    have ea : pAtF (cM a) ⟨left, 3, (j : Int), pk, gen, place, size, 0, steps, begun, words, gl, cu'⟩ = (spotM a j).seq := by
      rw [at_round _ (by show (3 : Int) ≠ 2; decide)]
      show ((cM a).tp ((j : Int)).toNat).spot.seq = _
      rw [Int.toNat_natCast, cM_tp a hj2]
    obtain ⟨hin, hv⟩ := hseq j hj2
    rw [ea, if_neg (fun e => e hin), if_neg (by decide), if_pos rfl] at ep
    rw [ep] at hgs ⊢
    generalize wordF WS (spotM a j).seq = v at hv hgs ⊢
    unfold pSecond at hgs ⊢
    simp only [Int.toNat_natCast, cM_T] at hgs ⊢
    obtain ⟨m1, m2, m3, m4, m5⟩ := hmom (by decide)
    have hs2 := hch.size (hc.cok ha)
    simp only at hs2
    have hszm : size ≤ mwM a := by
      by_cases hp : 0 ≤ pk
      · obtain ⟨_, r2, r3, _⟩ := hrec (by decide) hp
        rw [r2]
        exact mwM_ge _ r3
      · have := (hch.none (by have := hch.pick; simp only at this; omega)).2
        simp only at this
        omega
    have hcn : steps ≤ (tries - left) * (4 + mwM a) + (2 + size + (j : Int)) := hcnt
    rw [hv] at hgs ⊢
    have hthl : thN (th ++ [(P 0, P 1)]) (begun - 1) = thN th (begun - 1) := thN_push_lt (by omega) (by omega)
    by_cases hk : P j = nth gl j
    · rw [if_pos hk] at hgs ⊢
      have hq0 : j = 0 → (thN th (begun - 1)).1 = nth gl 0 := fun e => by
        subst e
        omega
      have hwr : 0 ≤ pk → (P (pk.toNat / 2) = nth gl (pk.toNat / 2) ∨ ((pk.toNat / 2 : Nat) : Int) < (j : Int) + 1) → ∀ i : Nat, i < words.length → nth words i = recW ((pk.toNat / 2 : Nat) : Int) gen i := fun hp hor => by
        refine hwrd (by decide) hp ?_
        rcases hor with e | e
        · exact .inl e
        · by_cases e2 : pk.toNat / 2 = j
          · left; rw [e2]; exact hk
          · exact .inr ⟨rfl, by omega⟩
      by_cases he : (j : Int) + 1 = 2
      · rw [if_pos (by exact he)] at hgs ⊢
        unfold finishP at hgs ⊢
        simp only at hgs ⊢
        refine ⟨trivial, by omega, hgs, .inr (.inr ⟨trivial, ?_, fun k hk2 => (hA3 k hk2 (.inl (by decide))).2⟩)⟩
        have hj1 : j = 1 := by omega
        subst hj1
        refine ⟨⟨m1.1, by show begun ≤ ((th ++ [(P 0, P 1)]).length : Int); omega⟩, ?_, fun hp => ⟨hwr hp ?_, ?_⟩, fun hp => ?_, fun hp => ⟨(hrec (by decide) hp).2.2.2.1, (hrec (by decide) hp).2.2.2.2.1, (hpk (by decide)).2⟩⟩
        · simp only
          rw [hthl]
          have := m5 rfl (by decide)
          exact Prod.ext this m2.symm
        · right
          have := (hpk (by decide)).2
          omega
        · obtain ⟨_, r2, _⟩ := hrec (by decide) hp
          simp only
          rw [hwl, r2]
        · have h0 := (hch.none (by have := hch.pick; simp only at this; simp only at hp; omega)).2
          simp only at h0 ⊢
          rw [h0] at hwl
          exact List.eq_nil_of_length_eq_zero (by omega)
      · rw [if_neg (by exact he)] at hgs ⊢
        simp only at hgs ⊢
        refine ⟨trivial, by omega, hgs, .inl ⟨trivial, ?_⟩⟩
        have hj0 : j = 0 := by omega
        subst hj0
        refine ⟨rfl, hgs, hlt2, htr, ⟨A, hA1, hA2, fun k hk2 _ => hA3 k hk2 (.inl (by decide))⟩, ?_, fun _ => ?_, fun _ hp hor => hwr hp ?_⟩
        · unfold attN
          simp only [if_neg (show ¬ (3 : Int) = 1 by decide), if_neg (show ¬ (3 : Int) = 2 by decide)]
          omega
        · simp only
          rw [hthl]
          exact ⟨⟨m1.1, by omega⟩, m2, m3, m4, fun _ _ => hq0 rfl⟩
        · rcases hor with e | e
          · exact .inl e
          · exact .inr e.2
    · rw [if_neg hk] at hgs ⊢
      have hlt := hA3 j hj2 (.inl (by decide))
      have hsum : tries - left + seen + 1 ≤ P 0 + P 1 := by
        have h0 := hA2 0 (by decide)
        have h1 := hA2 1 (by decide)
        have hj01 : j = 0 ∨ j = 1 := by omega
        rcases hj01 with rfl | rfl
        · omega
        · omega
      have hmul2 : (tries - (left - 1)) * (4 + mwM a) = (tries - left) * (4 + mwM a) + (4 + mwM a) := by
        rw [show tries - (left - 1) = tries - left + 1 by omega, Int.add_mul (tries - left) 1, Int.one_mul]
      by_cases he : left - 1 = 0
      · rw [if_pos he] at hgs ⊢
        simp only at hgs ⊢
        exact ⟨trivial, by omega, hgs, .inr (.inl ⟨trivial, by omega⟩)⟩
      · rw [if_neg he] at hgs ⊢
        simp only at hgs ⊢
        refine ⟨trivial, by omega, hgs, .inl ⟨trivial, ?_⟩⟩
        refine ⟨rfl, hgs, hlt2, by simp only; omega, ⟨P, by simp only; omega, fun k hk2 => Int.le_refl _, fun k hk2 hr => ?_⟩, ?_, fun hr => absurd rfl hr, fun hr => absurd rfl hr⟩
        · rcases hr with e | e
          · exact absurd rfl e
          · simp only at e; omega
        · unfold attN
          simp only [if_true]
          omega
  · -- the record
    obtain ⟨j, rfl⟩ : ∃ j : Nat, next = (j : Int) := ⟨next.toNat, by omega⟩
    have hs2 := hch.size (hc.cok ha)
    simp only at hs2
    have hp : 0 ≤ pk := by
      by_cases hp : 0 ≤ pk
      · exact hp
      · have := (hch.none (by have := hch.pick; simp only at this; omega)).2
        simp only at this
        omega
    obtain ⟨r1, r2, r3, r4, r5, r6⟩ := hrec (by decide) hp
    obtain ⟨K, hK⟩ : ∃ K, pk.toNat / 2 = K := ⟨_, rfl⟩
    rw [hK] at r1 r2 r3 r5 r6
    have htk := ha.top K r3
    have hm := emod_b (g := gen) htk.2
    have hpb := place_b hm.1 hm.2 htk.2.2 htk.1 (i := (j : Int)) (by omega)
    have ea : pAtF (cM a) ⟨left, 2, (j : Int), pk, gen, place, size, 0, steps, begun, words, gl, cu'⟩ = place + (j : Int) := rfl
    have hin : inW WS (place + (j : Int)) := by unfold inW; rw [hlen, r1]; omega
    rw [ea, if_neg (fun e => e hin), if_pos rfl] at ep
    rw [ep] at hgs ⊢
    have hvv : P K = nth gl K → wordF WS (place + (j : Int)) = recW (K : Int) gen (j : Int) := fun e => by
      rw [r1]
      refine wordF_place (ht K r3) r4 ?_ ?_ (by omega) (by omega)
      · rw [← hP K r3, e]; exact r5
      · rw [← hP K r3, e]; exact r6
    generalize wordF WS (place + (j : Int)) = v at hvv hgs ⊢
    unfold pRecord at hgs ⊢
    simp only at hgs ⊢
    obtain ⟨m1, m2, m3, m4, m5⟩ := hmom (by decide)
    have hthl : thN (th ++ [(P 0, P 1)]) (begun - 1) = thN th (begun - 1) := thN_push_lt (by omega) (by omega)
    have hcn : steps ≤ (tries - left) * (4 + mwM a) + (2 + (j : Int)) := hcnt
    have hszm : size ≤ mwM a := by rw [r2]; exact mwM_ge _ r3
    have hnw : P K = nth gl K → ∀ i : Nat, i < (words ++ [v]).length → nth (words ++ [v]) i = recW (K : Int) gen i := fun e i hi => by
      rw [List.length_append] at hi
      simp only [List.length_cons, List.length_nil] at hi
      by_cases e2 : i < words.length
      · have : nth (words ++ [v]) i = nth words i := by
          unfold nth
          rw [List.getD_eq_getElem?_getD, List.getD_eq_getElem?_getD, List.getElem?_append_left e2]
        rw [this]
        have h9 := hwrd (by decide) hp (by rw [hK]; exact .inl e) i e2
        rw [hK] at h9
        exact h9
      · have : nth (words ++ [v]) i = v := by
          unfold nth
          rw [List.getD_eq_getElem?_getD, show i = words.length by omega]
          simp
        rw [this, hvv e]
        rw [show (i : Int) = (j : Int) by omega]
    by_cases he : (j : Int) + 1 = size
    · rw [if_pos he] at hgs ⊢
      simp only at hgs ⊢
      refine ⟨trivial, by omega, hgs, .inl ⟨trivial, ?_⟩⟩
      refine ⟨rfl, hgs, hlt2, htr, ⟨A, hA1, hA2, fun k hk2 _ => hA3 k hk2 (.inl (by decide))⟩, ?_, fun _ => ?_, fun _ _ hor => ?_⟩
      · unfold attN
        simp only [if_neg (show ¬ (3 : Int) = 1 by decide), if_neg (show ¬ (3 : Int) = 2 by decide)]
        omega
      · simp only
        rw [hthl]
        exact ⟨⟨m1.1, by omega⟩, m2, m3, m4, fun _ h9 => absurd h9 (by decide)⟩
      · simp only at hor ⊢
        rw [hK] at hor ⊢
        rcases hor with e | e
        · exact hnw e
        · have := e.2; omega
    · rw [if_neg he] at hgs ⊢
      simp only at hgs ⊢
      refine ⟨trivial, by omega, hgs, .inl ⟨trivial, ?_⟩⟩
      refine ⟨rfl, hgs, hlt2, htr, ⟨A, hA1, hA2, fun k hk2 _ => hA3 k hk2 (.inl (by decide))⟩, ?_, fun _ => ?_, fun _ _ hor => ?_⟩
      · unfold attN
        simp only [if_neg (show ¬ (2 : Int) = 1 by decide), if_true]
        omega
      · simp only
        rw [hthl]
        exact ⟨⟨m1.1, by omega⟩, m2, m3, m4, fun h9 => absurd h9 (by decide)⟩
      · simp only at hor ⊢
        rw [hK] at hor ⊢
        rcases hor with e | e
        · exact hnw e
        · exact absurd e.1 (by decide)
/-- what the poll tells is what its queues told then -/
theorem done_told {M : Int} (hg : PGood (cM a) cu x M) (hh : x.how = 1) (hc : Curs a cu P) (ha : a.Ok) :
    (best (lM a cu) (gensL (cM a) x.gl) 4 < 0 → x.pick = -1 ∧ x.gen = 0) ∧ (¬ best (lM a cu) (gensL (cM a) x.gl) 4 < 0 → x.pick = best (lM a cu) (gensL (cM a) x.gl) 4 ∧ x.gen = (Queue.seen (cu (best (lM a cu) (gensL (cM a) x.gl) 4).toNat) (nth x.gl ((best (lM a cu) (gensL (cM a) x.gl) 4).toNat / 2))).next) := by
  obtain ⟨_, hch, _⟩ := hg.fin hh
  have hp := hch.pick
  simp only at hp
  have e : pickF (cM a) { x with cu := cu } = best (lM a cu) (gensL (cM a) x.gl) 4 := rfl
  have hb := best_lt (lM a cu) (gensL (cM a) x.gl) 4
  rw [e] at hp
  refine ⟨fun h => ⟨by rw [hp]; omega, (hch.none (by rw [e]; exact h)).1⟩, fun h => ⟨hp, ?_⟩⟩
  obtain ⟨j, hj⟩ : ∃ j : Nat, best (lM a cu) (gensL (cM a) x.gl) 4 = (j : Int) := ⟨_, (Int.toNat_of_nonneg (by omega)).symm⟩
  have hj4 : j < 4 := by omega
  have hgl := hg.gl _ (nth_mem (i := (cM a).ix j) (by rw [hg.glen, cM_T, cM_ix a hj4]; omega))
  have hhas := best_has (lM a cu) (gensL (cM a) x.gl) 4 (by omega)
  rw [hj, Int.toNat_natCast, gensL_nth _ _ (show j < (cM a).n from hj4)] at hhas
  have hhas : ¬ nth x.gl ((cM a).ix j) < (Queue.seen (cu j) (nth x.gl ((cM a).ix j))).next := hhas
  have hg2 := (hch.some (by rw [e]; exact h)).1
  simp only at hg2
  rw [hg2, e, hj, Int.toNat_natCast]
  unfold genF takeX takeE
  simp only
  rw [if_pos (mayE_yes (hc j hj4).1 hgl.2), if_neg hhas, if_pos rfl, cM_ix a hj4]
/-- the cursors, and what is queued, behind a poll that is done -/
theorem done_next {M : Int} (hg : PGood (cM a) cu x M) (hh : x.how = 1) (hc : Curs a cu P) (ha : a.Ok) (hgp : ∀ k : Nat, k < 2 → nth x.gl k ≤ P k) :
    Curs a x.cu P ∧ ∀ j : Nat, j < 4 → qOf (x.cu j) (P (j / 2)) = if (j : Int) = x.pick ∧ 0 < (qOf (cu j) (P (j / 2))).length ∧ nth (qOf (cu j) (P (j / 2))) 0 = x.gen then (qOf (cu j) (P (j / 2))).drop 1 else qOf (cu j) (P (j / 2)) := by
  have hdt := done_told hg hh hc ha
  obtain ⟨hcu, hch, _⟩ := hg.fin hh
  have hbh := hg.behind hh
  have hb := best_lt (lM a cu) (gensL (cM a) x.gl) 4
  have key : ∀ j : Nat, j < 4 → (x.cu j = if (j : Int) = x.pick then ⟨(Queue.seen (cu j) (nth x.gl (j / 2))).next + 1, a.rm j, IntKind.u64.wrap ((Queue.seen (cu j) (nth x.gl (j / 2))).got + 1), (Queue.seen (cu j) (nth x.gl (j / 2))).lost⟩ else Queue.seen (cu j) (nth x.gl (j / 2))) ∧
      ((j : Int) = x.pick → x.gen = (Queue.seen (cu j) (nth x.gl (j / 2))).next ∧ ¬ nth x.gl (j / 2) < (Queue.seen (cu j) (nth x.gl (j / 2))).next) := by
    intro j hj
    have hgl := hg.gl _ (nth_mem (i := (cM a).ix j) (by rw [hg.glen, cM_T, cM_ix a hj]; omega))
    obtain ⟨h1, h2, h3, h4, h5⟩ := hc j hj
    have ex : x.cu j = if (j : Int) = x.pick then takeC (cu j) (nth x.gl ((cM a).ix j)) else seeC (cu j) (nth x.gl ((cM a).ix j)) := by rw [hcu]; rfl
    rw [ex]
    by_cases e : (j : Int) = x.pick
    · have hbp : ¬ best (lM a cu) (gensL (cM a) x.gl) 4 < 0 := fun h0 => by have := (hdt.1 h0).1; omega
      obtain ⟨hp1, hp2⟩ := hdt.2 hbp
      have ej : (best (lM a cu) (gensL (cM a) x.gl) 4).toNat = j := by omega
      rw [ej] at hp2
      have hhas := best_has (lM a cu) (gensL (cM a) x.gl) 4 (by omega)
      rw [ej, gensL_nth _ _ (show j < (cM a).n from hj)] at hhas
      have hhas : ¬ nth x.gl ((cM a).ix j) < (Queue.seen (cu j) (nth x.gl ((cM a).ix j))).next := hhas
      rw [if_pos e, if_pos e]
      refine ⟨?_, fun _ => ⟨hp2, by rw [cM_ix a hj] at hhas; exact hhas⟩⟩
      unfold takeC takeE
      rw [if_pos (mayE_yes h1 hgl.2), if_neg hhas, if_pos rfl, cM_ix a hj, seen_cap, h3]
    · rw [if_neg e, if_neg e]
      refine ⟨?_, fun h => absurd h e⟩
      unfold seeC
      rw [if_pos (mayE_yes h1 hgl.2), cM_ix a hj]
  refine ⟨fun j hj => ?_, fun j hj => ?_⟩
  · obtain ⟨k1, k2⟩ := key j hj
    obtain ⟨h1, h2, h3, h4, h5⟩ := hc j hj
    obtain ⟨b1, b2⟩ := hbh j hj
    have es := seen_n (cu j) (nth x.gl (j / 2))
    have hgj := hgp (j / 2) (by omega)
    have hrm := (ha.sub j hj).1
    refine ⟨b1, b2, ?_, ?_, ?_⟩
    · rw [k1]; split
      · rfl
      · rw [seen_cap, h3]
    · rw [k1]
      by_cases e : (j : Int) = x.pick
      · rw [if_pos e]; simp only; (repeat' split at es) <;> omega
      · rw [if_neg e]; (repeat' split at es) <;> omega
    · rw [k1]
      by_cases e : (j : Int) = x.pick
      · have := (k2 e).2
        rw [if_pos e]; simp only; omega
      · rw [if_neg e]; (repeat' split at es) <;> omega
  · obtain ⟨k1, k2⟩ := key j hj
    obtain ⟨h1, h2, h3, h4, h5⟩ := hc j hj
    have hgj := hgp (j / 2) (by omega)
    have hrm := (ha.sub j hj).1
    rw [k1]
    by_cases e : (j : Int) = x.pick
    · obtain ⟨hg1, hg2⟩ := k2 e
      rw [if_pos e, ← h3, qOf_take (by omega) hgj hg2, hg1]
      by_cases hq : 0 < (qOf (cu j) (P (j / 2))).length ∧ nth (qOf (cu j) (P (j / 2))) 0 = (Queue.seen (cu j) (nth x.gl (j / 2))).next
      · rw [if_pos hq, if_pos ⟨e, hq⟩]
      · rw [if_neg hq, if_neg (fun h => hq h.2)]
    · rw [if_neg e, if_neg (fun h => e h.1), qOf_seen (by omega) hgj]
end
theorem Prog.zero {a : MT} {cu : Nat → Cur} {tries seen : Int} {P : Nat → Int} (ha : a.Ok) (hc : Curs a cu P) (ht : 1 ≤ tries ∧ tries ≤ 16) (hs : seen ≤ P 0 + P 1) : Prog a cu tries seen P (x0F 4 (lM a cu) (sM a) tries) [] := by
  have hg := x0F_good (hc.fits ha) (by decide) (hc.ok ha) ht
  have hm := mwM_ge (a := a) 0 (by decide)
  have hw := ha.top 0 (by decide)
  refine ⟨rfl, hg, rfl, ⟨by show tries ≤ tries; omega, ht.2⟩, ⟨P, ?_, fun _ _ => Int.le_refl _, fun k hk hr => ?_⟩, ?_, fun hr => absurd rfl hr, fun hr => absurd rfl hr⟩
  · show tries - tries + seen ≤ _; omega
  · rcases hr with e | e
    · exact absurd rfl e
    · have e : (k : Int) < 0 := e; omega
  · show (0 : Int) ≤ (tries - tries) * (4 + mwM a) + 0
    rw [Int.sub_self, Int.zero_mul]; decide
end Go.Proofs.Ythcaagkgddeabaa.Bank
