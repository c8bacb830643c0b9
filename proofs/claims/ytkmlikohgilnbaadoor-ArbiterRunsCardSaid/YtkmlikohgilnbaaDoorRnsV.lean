/-
  Law 15: operations of three tasks over one register, in memory; what a step makes. Conditions stand at each. By an AI agent.
-/
import Derived.Test.YtkmlikohgilnbaaDoorArbW
import Derived.Test.YtkmlikohgilnbaaDoorFolX
import Derived.Test.YtkmlikohgilnbaaDoorIn
namespace Go.Proofs.YtkmlikohgilnbaaDoor.Arb
set_option linter.unusedVariables false
set_option linter.unusedSimpArgs false
open Go Go.RowKit Go.Proofs.YtkmlikohgilnbaaDoor.Base Go.Proofs.YtkmlikohgilnbaaDoor.Reg Go.Deep Go.ChangeShapes Go.WideShapes
open Go.Proofs.YtkmlikohgilnbaaDoor.Bank (BankAt inW wordF setF tickF errF casB wordF_range)
open Go.Proofs.YtkmlikohgilnbaaDoor.Modes (Tab)

structure QR where
  a : Option Addr
  o : Nat
  b : Nat
  x : AX
  p : Pl
  bz : Bool
  sn : Int
abbrev R3 := Nat → QR
def aArr (q : R3) : Array Value := #[.pointer (q 0).a, .pointer (q 1).a, .pointer (q 2).a]
def zArr (q : R3) : Array Value := #[.bool (q 0).bz, .bool (q 1).bz, .bool (q 2).bz]
def nArr (q : R3) : Array Value := #[.int .i64 (q 0).sn, .int .i64 (q 1).sn, .int .i64 (q 2).sn]
def pArr (q : R3) : Array Value := plArr (fun j => (q j).p)
def updR (q : R3) (k : Nat) (y : QR) : R3 := fun j => if j = k then y else q j
theorem updR_self (q : R3) (k : Nat) (y) : updR q k y k = y := if_pos rfl
theorem updR_ne (q : R3) {k j : Nat} (y) (h : j ≠ k) : updR q k y j = q j := if_neg h
theorem qArr_cell (q : R3) {k : Nat} (hk : k < 3) : (aArr q)[k]? = some (.pointer (q k).a) ∧ (zArr q)[k]? = some (.bool (q k).bz) ∧ (nArr q)[k]? = some (.int .i64 (q k).sn) := by
  match k, hk with
  | 0, _ => exact ⟨rfl, rfl, rfl⟩
  | 1, _ => exact ⟨rfl, rfl, rfl⟩
  | 2, _ => exact ⟨rfl, rfl, rfl⟩
theorem pArr_cell (q : R3) {k : Nat} (hk : k < 3) : (pArr q)[k * 5]? = some (.int .i64 (q k).p.kind) ∧ (pArr q)[k * 5 + 1]? = some (.int .i64 (q k).p.source) ∧ (pArr q)[k * 5 + 2]? = some (.int .i64 (q k).p.mode) ∧ (pArr q)[k * 5 + 3]? = some (.bool (q k).p.free) ∧ (pArr q)[k * 5 + 4]? = some (.int .i64 (q k).p.flags) := plArr_cell _ hk
theorem qArr_set (q : R3) {k : Nat} (hk : k < 3) (y : QR) : (aArr q).setIfInBounds k (.pointer y.a) = aArr (updR q k y) ∧ (zArr q).setIfInBounds k (.bool y.bz) = zArr (updR q k y) ∧ (nArr q).setIfInBounds k (.int .i64 y.sn) = nArr (updR q k y) ∧
    (((((pArr q).setIfInBounds (k * 5) (.int .i64 y.p.kind)).setIfInBounds (k * 5 + 1) (.int .i64 y.p.source)).setIfInBounds (k * 5 + 2) (.int .i64 y.p.mode)).setIfInBounds (k * 5 + 3) (.bool y.p.free)).setIfInBounds (k * 5 + 4) (.int .i64 y.p.flags) = pArr (updR q k y) := by
  match k, hk with
  | 0, _ => exact ⟨rfl, rfl, rfl, rfl⟩
  | 1, _ => exact ⟨rfl, rfl, rfl, rfl⟩
  | 2, _ => exact ⟨rfl, rfl, rfl, rfl⟩
/-- only how it stands is turned: the rows of addresses, plans and numbers are as they were -/
theorem qArr_same (q : R3) {k : Nat} (hk : k < 3) (x : AX) (z : Bool) : aArr (updR q k ⟨(q k).a, (q k).o, (q k).b, x, (q k).p, z, (q k).sn⟩) = aArr q ∧ nArr (updR q k ⟨(q k).a, (q k).o, (q k).b, x, (q k).p, z, (q k).sn⟩) = nArr q ∧ pArr (updR q k ⟨(q k).a, (q k).o, (q k).b, x, (q k).p, z, (q k).sn⟩) = pArr q := by
  match k, hk with
  | 0, _ => exact ⟨rfl, rfl, rfl⟩
  | 1, _ => exact ⟨rfl, rfl, rfl⟩
  | 2, _ => exact ⟨rfl, rfl, rfl⟩
theorem zArr_same (q : R3) {k : Nat} (hk : k < 3) (x : AX) : zArr (updR q k ⟨(q k).a, (q k).o, (q k).b, x, (q k).p, (q k).bz, (q k).sn⟩) = zArr q := by
  match k, hk with
  | 0, _ => rfl
  | 1, _ => rfl
  | 2, _ => rfl
structure Task (w : World) (lo : Nat) (n u tn : Int) (z : QR) : Prop where
  at_ : ArbAt w z.o z.b z.p.kd 0 z.x
  inv : AInv z.p.kd (z.p.n n) z.x
  live : z.x.how = 0
  ok : z.p.Ok
  addr : z.a = some ⟨z.o, 0, none⟩
  low : lo < z.o ∧ (lo < z.b ∨ z.b = 0) ∧ z.b < w.heap.size
  cnt : z.p.kd.isRead = false → 0 ≤ tn - z.sn - (n - z.x.left) ∧ (z.x.swaps = true → u ≠ z.x.word → 1 ≤ tn - z.sn - (n - z.x.left))
structure Crew (w : World) (lo : Nat) (n u tn : Int) (q : R3) : Prop where
  task : ∀ j, j < 3 → (q j).bz = true → Task w lo n u tn (q j)
  seen : ∀ j, j < 3 → 0 ≤ (q j).sn ∧ (q j).sn ≤ tn
  far : ∀ i j, i < 3 → j < 3 → i ≠ j → (q i).bz = true → (q j).bz = true → (q i).o ≠ (q j).o ∧ (q i).b ≠ (q j).o
section
variable {w w1 w2 : World} {lo g rr : Nat} {n u tn : Int} {q : R3} {k : Nat}
theorem Task.ex {T : Nat → Prop} {z : QR} (h : Task w lo n u tn z) (p : Ex T w w2) (ho : ¬ T z.o) (hb : ¬ T z.b) : Task w2 lo n u tn z :=
  ⟨h.at_.ex p ho hb, h.inv, h.live, h.ok, h.addr, ⟨h.low.1, h.low.2.1, Nat.lt_of_lt_of_le h.low.2.2 p.size⟩, h.cnt⟩
theorem Crew.ex {T : Nat → Prop} (h : Crew w lo n u tn q) (p : Ex T w w2) (hT : ∀ b, T b → b ≤ lo ∧ 0 < b) : Crew w2 lo n u tn q :=
  ⟨fun j hj hz => (h.task j hj hz).ex p (fun ht => by have := hT _ ht; have := (h.task j hj hz).low; omega) (fun ht => by have := hT _ ht; have := (h.task j hj hz).low; omega), h.seen, h.far⟩
theorem Crew.new (h : Crew w lo n u tn q) (hk : k < 3) (hb : Below w.heap.size w w2) (hlo : lo < w.heap.size) {o b : Nat} {p : Pl} (hok : p.Ok) (ho : ArbAt w2 o b p.kd 0 (AX.zero (p.n n))) (hi : AInv p.kd (p.n n) (AX.zero (p.n n))) (hn : p.kd.isRead = false → p.n n = n) (ht : 0 ≤ tn)
    (q1 : w.heap.size ≤ o) (q2 : w.heap.size ≤ b ∨ b = 0) (q3 : b < w2.heap.size) : Crew w2 lo n u tn (updR q k ⟨some ⟨o, 0, none⟩, o, b, AX.zero (p.n n), p, true, tn⟩) := by
  have hx : Ex (fun _ => False) w w2 := Ex.of_below hb
  have old : ∀ j, j < 3 → (q j).bz = true → (q j).o < w.heap.size ∧ (q j).b < w.heap.size := fun j hj hz => ⟨(h.task j hj hz).at_.head.lt, (h.task j hj hz).low.2.2⟩
  refine ⟨fun j hj hz => ?_, fun j hj => ?_, fun i j hi hj hne hz1 hz2 => ?_⟩
  · by_cases e : j = k
    · subst e
      rw [updR_self]
      exact ⟨ho, hi, rfl, hok, rfl, ⟨by simp only; omega, by simp only; omega, q3⟩, fun hr => ⟨by simp only [AX.zero]; rw [hn hr]; omega, fun h => by simp [AX.zero] at h⟩⟩
    · rw [updR_ne _ _ e] at hz ⊢
      exact (h.task j hj hz).ex hx (fun h => h) (fun h => h)
  · by_cases e : j = k
    · subst e; rw [updR_self]; exact ⟨ht, Int.le_refl _⟩
    · rw [updR_ne _ _ e]; exact h.seen j hj
  · by_cases e : i = k
    · subst e
      rw [updR_ne _ _ (Ne.symm hne)] at hz2
      rw [updR_self, updR_ne _ _ (Ne.symm hne)]
      have := old j hj hz2
      have := (h.task j hj hz2).low
      simp only
      omega
    · rw [updR_ne _ _ e] at hz1
      rw [updR_ne _ _ e]
      by_cases e2 : j = k
      · subst e2
        rw [updR_self]
        have := old i hi hz1
        simp only
        omega
      · rw [updR_ne _ _ e2] at hz2 ⊢
        exact h.far i j hi hj hne hz1 hz2
theorem Crew.turn (h : Crew w lo n u tn q) (hk : k < 3) (hbz : (q k).bz = true) (p1 : Ex (fun z => z = g ∨ z = rr ∨ z = (q k).o) w w2) (hg : g ≤ lo ∧ 0 < g) (hrr : rr ≤ lo ∧ 0 < rr) {x : AX} {z : Bool} {u2 tn2 : Int} (hu : (u2 = u ∧ tn2 = tn) ∨ tn2 = tn + 1)
    (ho : ArbAt w2 (q k).o (q k).b (q k).p.kd 0 x) (hi : AInv (q k).p.kd ((q k).p.n n) x) (hz : z = true → x.how = 0 ∧ ((q k).p.kd.isRead = false → 0 ≤ tn2 - (q k).sn - (n - x.left) ∧ (x.swaps = true → u2 ≠ x.word → 1 ≤ tn2 - (q k).sn - (n - x.left)))) : Crew w2 lo n u2 tn2 (updR q k ⟨(q k).a, (q k).o, (q k).b, x, (q k).p, z, (q k).sn⟩) := by
  have hk1 := h.task k hk hbz
  refine ⟨fun j hj hj1 => ?_, fun j hj => ?_, fun i j hi2 hj hne hz1 hz2 => ?_⟩
  · by_cases e : j = k
    · subst e
      rw [updR_self] at hj1 ⊢
      obtain ⟨a1, a2⟩ := hz hj1
      exact ⟨ho, hi, a1, hk1.ok, hk1.addr, ⟨hk1.low.1, hk1.low.2.1, Nat.lt_of_lt_of_le hk1.low.2.2 p1.size⟩, a2⟩
    · rw [updR_ne _ _ e] at hj1 ⊢
      have hj2 := h.task j hj hj1
      have hf := h.far j k hj hk e hj1 hbz
      have hl := hj2.low
      have := hj2.ex p1 (by omega) (by omega)
      refine ⟨this.at_, this.inv, this.live, this.ok, this.addr, this.low, fun hr => ?_⟩
      obtain ⟨c1, c2⟩ := this.cnt hr
      rcases hu with ⟨rfl, rfl⟩ | rfl
      · exact ⟨c1, c2⟩
      · exact ⟨by omega, fun _ _ => by omega⟩
  · have hs : ∀ j, j < 3 → 0 ≤ (q j).sn ∧ (q j).sn ≤ tn2 := fun j hj => by have := h.seen j hj; rcases hu with ⟨_, rfl⟩ | rfl <;> omega
    by_cases e : j = k
    · subst e; rw [updR_self]; exact hs j hj
    · rw [updR_ne _ _ e]; exact hs j hj
  · by_cases e : i = k
    · subst e
      rw [updR_ne _ _ (Ne.symm hne)] at hz2
      rw [updR_self, updR_ne _ _ (Ne.symm hne)]
      exact h.far i j hi2 hj hne hbz hz2
    · rw [updR_ne _ _ e] at hz1
      rw [updR_ne _ _ e]
      by_cases e2 : j = k
      · subst e2
        rw [updR_self]
        exact h.far i j hi2 hj hne hz1 hbz
      · rw [updR_ne _ _ e2] at hz2 ⊢
        exact h.far i j hi2 hj hne hz1 hz2
end
theorem kd_n {p : Pl} (n : Int) (h : p.kd.isRead = false) : p.n n = n := (rk_own h n).2
/-- what a step makes of a task -/
inductive Way (k : Kd) (n : Int) (S : St) (d : Int) (x x2 : AX) (u2 : Int) : Prop where
  | busy (h : x2.how = 0) (hu : u2 = wordI S) (hc : k.isRead = false → 0 ≤ d - (n - x2.left) ∧ (x2.swaps = true → u2 ≠ x2.word → 1 ≤ d - (n - x2.left)))
  | stay (h : x2.how = 1) (hu : u2 = wordI S) (hs : x2.st = S) (he : x2.err = k.E S) (hk : k.isRead = true ∨ k.E S ≠ 0)
  | hit (h : x2.how = 1) (hu : u2 = wordI (k.S S)) (hs : x2.st = k.S S) (he : x2.err = 0) (hE : k.E S = 0) (hk : k.isRead = false)
  | spent (h : x2.how = 2) (hu : u2 = wordI S) (hs : x2.st = St.zero) (he : x2.err = 20) (hk : k.isRead = false) (hp : x2.steps = 2 * n) (hd : n ≤ d)
theorem Task.way {w : World} {lo : Nat} {n tn : Int} {z : QR} {S : St} (hS : S.Ok) (h0 : mayE S = 0) (hn : 1 ≤ n ∧ n ≤ 16) (h : Task w lo n (wordI S) tn z) :
    ∃ x2 u2, aStep z.p.kd 0 [wordI S] z.x = x2 ∧ aWs 0 [wordI S] z.x = [u2] ∧ AInv z.p.kd (z.p.n n) x2 ∧ x2.steps ≤ 2 * n ∧ Way z.p.kd n S (tn - z.sn) z.x x2 u2 := by
  obtain ⟨a, o, b, x, p, bz, sn⟩ := z
  obtain ⟨hat, hi, hl, hok, had, hlow, hc⟩ := h
  simp only at hat hi hl hok had hlow hc ⊢
  have hr := wordI_range (mayE_zero.1 h0).1 hS
  have hin := hi.step (at_ := 0) (ws := [wordI S]) (by rw [word1]; exact hr)
  have hst := hi.st
  have hkd := Pl.kd_ok hok
  cases hsw : x.swaps with
  | false =>
    obtain ⟨e1, e2⟩ := step_word (k := p.kd) hS h0 hl hsw
    rw [e1] at hin
    rw [e1, e2]
    have hsteps : x.steps + 1 ≤ 2 * n := by
      cases hrd : p.kd.isRead with
      | true => have := (hi.rd hrd).2 hl; omega
      | false =>
        have a1 := hi.cnt hl hrd
        have a2 := hi.lv hl hrd
        rw [kd_n n hrd] at a1 a2
        rw [hsw] at a1
        simp only [Bool.false_eq_true, if_false] at a1
        omega
    by_cases hs : p.kd.isRead = true ∨ p.kd.E S ≠ 0
    · rw [if_pos hs] at hin ⊢
      exact ⟨_, _, rfl, rfl, hin, hsteps, .stay rfl rfl rfl rfl hs⟩
    · rw [if_neg hs] at hin ⊢
      refine ⟨_, _, rfl, rfl, hin, hsteps, .busy rfl rfl fun hrd => ⟨(hc hrd).1, fun _ hne => absurd rfl hne⟩⟩
  | true =>
    obtain ⟨t1, t2, t3⟩ := hi.next hkd hl hsw
    obtain ⟨u1, u2, u3, u4⟩ := hi.sw hl hsw
    have a1 := hi.cnt hl t3
    have a2 := hi.lv hl t3
    rw [kd_n n t3] at a1 a2
    rw [hsw] at a1
    simp only [if_true] at a1
    obtain ⟨c1, c2⟩ := hc t3
    by_cases hw : x.word = wordI S
    · obtain ⟨e1, e2⟩ := step_hit (k := p.kd) hl hsw hw
      obtain ⟨v1, v2⟩ := un_word hS h0
      rw [hw, v1] at u3 u4
      rw [e1] at hin
      rw [e1, e2]
      exact ⟨_, _, rfl, rfl, hin, by simp only; omega, .hit rfl (by rw [u4]) u4 rfl u3 t3⟩
    · obtain ⟨e1, e2⟩ := step_miss (k := p.kd) (u := wordI S) hl hsw (fun e => hw e.symm)
      have c3 := c2 hsw (fun e => hw e.symm)
      rw [e1] at hin
      rw [e1, e2]
      by_cases h1 : x.left = 1
      · rw [if_pos h1] at hin ⊢
        exact ⟨_, _, rfl, rfl, hin, by simp only; omega, .spent rfl rfl rfl rfl t3 (by simp only; omega) (by omega)⟩
      · rw [if_neg h1] at hin ⊢
        exact ⟨_, _, rfl, rfl, hin, by simp only; omega, .busy rfl rfl fun _ => ⟨by simp only; omega, fun h => by simp at h⟩⟩
theorem kd_follows {k : Kd} (hr : k.isRead = false) (hk : k.Ok) {s : St} (hE : k.E s = 0) : Fol s (k.S s) := by
  cases k with
  | read => simp [Kd.isRead] at hr
  | tell f =>
    refine .inl ?_
    have hE' : healthE s f = 0 := hE
    have e : healthS s f = ⟨s.mode, s.source, s.hold, f, s.epoch + 1⟩ := if_pos hE'
    show hitH s (healthS s f) (healthS s f).flags
    have e2 : (healthS s f).flags = f := by rw [e]
    rw [e2]
    exact ⟨hE', rfl⟩
  | req a =>
    have hE' : decideE s a = 0 := hE
    have e : decideS s a = nextS s a := if_pos hE'
    have hin : a.In := by
      unfold decideE at hE'
      split at hE'
      · simp at hE'
      · split at hE'
        · simp at hE'
        · rename_i h; simpa using h
    have hm : (decideS s a).mode = a.mode := by
      rw [e]
      unfold nextS
      split
      · rename_i h; rw [h.2]
      · split <;> rfl
    refine .inr ⟨a.source.toNat, a.free, by have := hin.1; omega, ?_⟩
    show hitD s (decideS s a) ⟨((a.source.toNat : Nat) : Int), (decideS s a).mode, a.free⟩
    rw [hm, show ((a.source.toNat : Nat) : Int) = a.source by have := hin.1; omega]
    exact ⟨hE', rfl⟩
/-! the argument -/
structure PlansIn (w : World) (v : Value) (n : Nat) (l : Nat → Pl) : Prop where
  form : ∃ A c, v = .slice A n c ∧ n ≤ maxLen ∧ (0 < n → ∃ b o, A = some ⟨b, o, none⟩ ∧ b < w.heap.size ∧ ∀ i : Nat, i < n →
    w.cell? ⟨b, o + i * 5, none⟩ = some (.int .i64 (l i).kind) ∧ w.cell? ⟨b, o + i * 5 + 1, none⟩ = some (.int .i64 (l i).source) ∧ w.cell? ⟨b, o + i * 5 + 2, none⟩ = some (.int .i64 (l i).mode) ∧ w.cell? ⟨b, o + i * 5 + 3, none⟩ = some (.bool (l i).free) ∧ w.cell? ⟨b, o + i * 5 + 4, none⟩ = some (.int .i64 (l i).flags))
  ok : ∀ i : Nat, i < n → (l i).Ok
structure PicksAt (w : World) (v : Value) (va vb : Value) (n : Nat) (l : Nat → Pl) (ws : List Int) : Prop where
  form : v = .agg #[va, vb]
  plans : PlansIn w va n l
  who : Ints w .i64 vb ws
instance : Inhabited Pl := ⟨⟨0, 0, 0, false, 0⟩⟩
set_option maxRecDepth 100000 in
theorem picks_of_trod {H : Type} {enc : TypeId × Value → H} {W : World} {r : Reach} {b : Nat} {v : Value} {d : DataW H} {p : List MemPlace}
    (hv : Value.okWide Tryd.prog W r b 74 v) (h : DataW.Trod enc Tryd.prog W 0 (fun _ => true) true 74 v d p) :
    ∃ x : Value × Value × Nat × (Nat → Pl) × List Int, PicksAt W v x.1 x.2.1 x.2.2.1 x.2.2.2.1 x.2.2.2.2 := by
  obtain ⟨cs, rfl, hsz, hf⟩ := fields_of_trod Tryd.underlying74 (by kernel_rfl) (by kernel_rfl) hv h
  obtain ⟨_, c0, _, k0, h0⟩ := hf 0 _ rfl
  obtain ⟨_, c1, _, k1, h1⟩ := hf 1 _ rfl
  obtain ⟨v', xs, e, hi2, hwf⟩ := ints_of_cs Tryd.underlying72 Tryd.underlying3 (by kernel_rfl) h1
  simp only [List.cons.injEq, and_true] at e
  subst e
  obtain ⟨n, f, hr, hff⟩ := recs_of_cs Tryd.underlying71 Tryd.underlying41 (by kernel_rfl) (by kernel_rfl) (by decide) h0
  have hall : ∀ i, i < n → ∃ a : Pl, f i 0 = .int .i64 a.kind ∧ f i 1 = .int .i64 a.source ∧ f i 2 = .int .i64 a.mode ∧ f i 3 = .bool a.free ∧ f i 4 = .int .i64 a.flags ∧ a.Ok := by
    intro i hi
    obtain ⟨m0, z0, h0⟩ := hff i hi 0 _ rfl
    obtain ⟨m1, z1, h1⟩ := hff i hi 1 _ rfl
    obtain ⟨m2, z2, h2⟩ := hff i hi 2 _ rfl
    obtain ⟨m3, z3, h3⟩ := hff i hi 3 _ rfl
    obtain ⟨m4, z4, h4⟩ := hff i hi 4 _ rfl
    obtain ⟨n0, e0, _, g0⟩ := DataW.trod_int Tryd.underlying3 h0
    obtain ⟨n1, e1, _, g1⟩ := DataW.trod_int Tryd.underlying3 h1
    obtain ⟨n2, e2, _, g2⟩ := DataW.trod_int Tryd.underlying3 h2
    obtain ⟨n3, e3, _⟩ := DataW.trod_bool Tryd.underlying4 h3
    obtain ⟨n4, e4, _, g4⟩ := DataW.trod_int Tryd.underlying3 h4
    exact ⟨⟨n0, n1, n2, n3, n4⟩, by simpa using e0, by simpa using e1, by simpa using e2, by simpa using e3, by simpa using e4, ⟨i64_bounds g1, i64_bounds g2, i64_bounds g4⟩⟩
  obtain ⟨l, hl⟩ := choose_lt hall
  obtain ⟨A, c, rfl, hlen, hx⟩ := hr.form
  refine ⟨(.slice A n c, c1, n, l, xs), ⟨?_, ⟨⟨A, c, rfl, hlen, fun hn => ?_⟩, fun i hi => (hl i hi).2.2.2.2.2⟩, hi2⟩⟩
  · congr 1
    apply Array.ext_getElem?
    intro i
    rcases (show i = 0 ∨ i = 1 ∨ 2 ≤ i by omega) with rfl | rfl | hi
    · rw [k0]; rfl
    · rw [k1]; rfl
    · rw [Array.getElem?_eq_none (by rw [hsz]; exact hi), Array.getElem?_eq_none (by simpa using hi)]
  · obtain ⟨b, o, rfl, hb, hc⟩ := hx hn
    refine ⟨b, o, rfl, hb, fun i hi => ?_⟩
    obtain ⟨l0, l1, l2, l3, l4, _⟩ := hl i hi
    have s0 := hc i 0 hi (by decide)
    have s1 := hc i 1 hi (by decide)
    have s2 := hc i 2 hi (by decide)
    have s3 := hc i 3 hi (by decide)
    have s4 := hc i 4 hi (by decide)
    rw [l0] at s0
    rw [l1] at s1
    rw [l2] at s2
    rw [l3] at s3
    rw [l4] at s4
    exact ⟨s0, s1, s2, s3, s4⟩
end Go.Proofs.YtkmlikohgilnbaaDoor.Arb
