/-
  ReadWhole: all that lies in memory while it goes on; each block has an owner (1 what was published, 2 what was the newest, 3 and 4 the publishings, 5 the reading). Conditions stand at each. By an AI agent.
-/
import Derived.Test.YtihogagnjikghaaRdL
import Derived.Test.YtihogagnjikghaaRI
namespace Go.Proofs.Ytihogagnjikghaa.Bank
set_option linter.unusedVariables false
set_option linter.unusedSimpArgs false
open Go Go.RowKit Go.Proofs.Ytihogagnjikghaa.Base
theorem orow_ex {T : Nat → Prop} {w w' : World} {base e size n : Nat} {v : Value} {xs : List Value} (h : w.ownsRow base e size v n xs) (p : Ex T w w') (hT : ∀ k, v.ownBlock = some k → ¬ T k) : w'.ownsRow base e size v n xs := by
  have hlt := h.lt
  obtain ⟨h1, h2⟩ := h
  refine ⟨h1, ?_⟩
  rcases h2 with h2 | ⟨g, cap, cur, e1, h3, h4, h5⟩
  · exact .inl h2
  · refine .inr ⟨g, cap, cur, e1, h3, ?_, h5⟩
    subst e1
    exact (p.block g (hlt g rfl).2 (hT g rfl)).trans h4
theorem ex_grown {a b : World} {r : Option Nat} (h : a.grownBy b r) : Ex (fun k => r = some k) a b := ⟨h.os, h.tape, h.output, h.size, fun k hk hn => h.block k hk (fun e => hn e.symm)⟩
theorem orow_form {w : World} {base e size n : Nat} {v : Value} {xs : List Value} (h : w.ownsRow base e size v n xs) : ∃ A c, v = .slice A n c := by
  rcases h.2 with ⟨rfl, rfl⟩ | ⟨g, cap, cur, rfl, _⟩
  · exact ⟨none, 0, rfl⟩
  · exact ⟨_, _, rfl⟩
theorem orow_at {w : World} {base e n k : Nat} {v u : Value} {xs : List Value} (h : w.ownsRow base e 1 v n xs) (hl : xs.length = n) (hu : xs[k]? = some u) : ∃ g cp, v = .slice (some ⟨g, 0, none⟩) n cp ∧ base ≤ g ∧ g < w.heap.size ∧ w.cell? ⟨g, k, none⟩ = some u := by
  rcases h.2 with ⟨_, h0⟩ | ⟨g, cap, cur, e, hb, hh, _⟩
  · have := (List.getElem?_eq_some_iff.1 hu).1
    omega
  · subst e
    refine ⟨g, cap, rfl, hb, (h.lt g rfl).2, ?_⟩
    have := h.cells (g := g) rfl k u hu
    have e2 : (⟨g, 0, none⟩ : Addr).add k = ⟨g, k, none⟩ := by unfold Addr.add; split <;> simp_all
    rwa [e2] at this
structure O1 where
  o : Nat
  r : Nat
  cc : Nat
  x : WS
structure R1 where
  o : Nat
  r : Nat
  x : RS
  got : List Int
def opV (y : Option O1) : Value := .pointer (y.map fun s => ⟨s.o, 0, none⟩)
def rdV (y : Option R1) : Value := .pointer (y.map fun s => ⟨s.o, 0, none⟩)
structure Par where
  g : Nat
  h : Nat
  xb : Nat
  sb : Nat
  zb : Nat
  ob : Nat
  mb : Nat
  m : Nat
  d : Nat
  T : Int
def natV (l : List Nat) : List Value := l.map fun (z : Nat) => Value.int .i64 (Int.ofNat z)
theorem natV_len (l : List Nat) : (natV l).length = l.length := by simp [natV]
theorem natV_push (l : List Nat) (z : Nat) : natV l ++ [.int .i64 (z : Int)] = natV (l ++ [z]) := by simp [natV]
theorem natV_at (l : List Nat) {j : Nat} (hj : j < l.length) : (natV l)[j]? = some (.int .i64 (gnth l j : Int)) := by
  simp [natV, gnth, List.getD_eq_getElem?_getD, List.getElem?_eq_getElem hj]
structure Mem (w0 w : World) (p : Par) (lam : Nat → Nat) (ws : List Int) (t : Int) (rc : Nat → List Int) (st : Nat → Option O1) (mv : Nat → Value) (dv : Value) (vals : List Value) (nv : Value) (nl : List Nat) (rd : Option R1) : Prop where
  low : Below w0.heap.size w0 w
  chain : w0.heap.size ≤ p.xb ∧ p.xb < p.h ∧ p.h < p.g ∧ p.xb < p.sb ∧ p.sb ≠ p.g ∧ p.sb ≠ p.h ∧ p.g < p.zb ∧ p.sb < p.zb ∧ p.zb < p.ob ∧ p.ob < p.mb ∧ p.mb < w.heap.size
  zero : lam p.g = 0 ∧ lam p.h = 0 ∧ lam p.xb = 0 ∧ lam p.sb = 0 ∧ lam p.zb = 0 ∧ lam p.ob = 0 ∧ lam p.mb = 0
  bank : BankAt w p.g p.h ws t
  box : Blk w p.xb 58 #[.int .i64 p.d, .int .i64 p.T]
  spot : Blk w p.sb 23 #[.int .i64 0, .int .i64 1, .int .i64 2, .int .i64 p.m, .int .i64 p.d]
  zrow : Row w p.zb (zeros p.m)
  mine : Blk w p.mb 64 #[mv 0, mv 1]
  opsr : Blk w p.ob 63 #[opV (st 0), opV (st 1)]
  ops : ∀ k s, k < 2 → st k = some s → OpAt w s.o s.r s.cc (spotOf p.m p.d) (rc k) 16 s.x ∧ w0.heap.size ≤ s.o ∧ w0.heap.size ≤ s.r ∧ lam s.o = 3 + k ∧ lam s.r = 3 + k
  done : w.ownsRow w0.heap.size 42 1 dv vals.length vals ∧ ∀ b, dv.ownBlock = some b → lam b = 1
  news : w.ownsRow w0.heap.size 3 1 nv nl.length (natV nl) ∧ ∀ b, nv.ownBlock = some b → lam b = 2
  rdr : ∀ s, rd = some s → RdAt w s.o s.r (spotOf p.m p.d) p.T s.x s.got ∧ w0.heap.size ≤ s.o ∧ w0.heap.size ≤ s.r ∧ lam s.o = 5 ∧ lam s.r = 5
section
variable {w0 w w' : World} {p : Par} {lam lam' : Nat → Nat} {ws ws' : List Int} {t t' : Int} {rc : Nat → List Int} {st : Nat → Option O1} {mv : Nat → Value} {dv nv v' : Value} {vals : List Value} {nl : List Nat} {rd : Option R1} {T : Nat → Prop}
theorem Mem.opsx (M : Mem w0 w p lam ws t rc st mv dv vals nv nl rd) (q : Ex T w w') (hT : ∀ b, T b → lam b ≠ 3 ∧ lam b ≠ 4) : ∀ k s, k < 2 → st k = some s → OpAt w' s.o s.r s.cc (spotOf p.m p.d) (rc k) 16 s.x ∧ w0.heap.size ≤ s.o ∧ w0.heap.size ≤ s.r ∧ lam s.o = 3 + k ∧ lam s.r = 3 + k := fun k s hk hs => by
  obtain ⟨a, b, c, d, e⟩ := M.ops k s hk hs
  exact ⟨a.ex q (fun ht => by have := hT _ ht; omega) (fun ht => by have := hT _ ht; omega), b, c, d, e⟩
theorem Mem.donex (M : Mem w0 w p lam ws t rc st mv dv vals nv nl rd) (q : Ex T w w') (hT : ∀ b, T b → lam b ≠ 1) : w'.ownsRow w0.heap.size 42 1 dv vals.length vals ∧ ∀ b, dv.ownBlock = some b → lam b = 1 :=
  ⟨orow_ex M.done.1 q (fun b hb ht => hT b ht (M.done.2 b hb)), M.done.2⟩
theorem Mem.newsx (M : Mem w0 w p lam ws t rc st mv dv vals nv nl rd) (q : Ex T w w') (hT : ∀ b, T b → lam b ≠ 2) : w'.ownsRow w0.heap.size 3 1 nv nl.length (natV nl) ∧ ∀ b, nv.ownBlock = some b → lam b = 2 :=
  ⟨orow_ex M.news.1 q (fun b hb ht => hT b ht (M.news.2 b hb)), M.news.2⟩
theorem Mem.rdrx (M : Mem w0 w p lam ws t rc st mv dv vals nv nl rd) (q : Ex T w w') (hT : ∀ b, T b → lam b ≠ 5) : ∀ s, rd = some s → RdAt w' s.o s.r (spotOf p.m p.d) p.T s.x s.got ∧ w0.heap.size ≤ s.o ∧ w0.heap.size ≤ s.r ∧ lam s.o = 5 ∧ lam s.r = 5 := fun s hs => by
  obtain ⟨a, b, c, d, e⟩ := M.rdr s hs
  exact ⟨a.ex q (fun ht => hT _ ht d) (fun ht => hT _ ht e), b, c, d, e⟩
theorem Mem.bl (M : Mem w0 w p lam ws t rc st mv dv vals nv nl rd) (q : Below w.heap.size w w') : Mem w0 w' p lam ws t rc st mv dv vals nv nl rd := by
  have e : Ex (fun _ => False) w w' := Ex.of_below q
  exact ⟨Base.bl M.low q, by have := M.chain; have := q.size; omega, M.zero, M.bank.below q, M.box.bl q, M.spot.bl q, M.zrow.bl q, M.mine.bl q, M.opsr.bl q, M.opsx e (fun _ h => h.elim), M.donex e (fun _ h => h.elim), M.newsx e (fun _ h => h.elim), M.rdrx e (fun _ h => h.elim)⟩
theorem Mem.lam_ (M : Mem w0 w p lam ws t rc st mv dv vals nv nl rd) (h : ∀ b, b < w.heap.size → lam' b = lam b) : Mem w0 w p lam' ws t rc st mv dv vals nv nl rd := by
  have c := M.chain
  obtain ⟨z1, z2, z3, z4, z5, z6, z7⟩ := M.zero
  refine ⟨M.low, M.chain, ⟨(h _ (by omega)).trans z1, (h _ (by omega)).trans z2, (h _ (by omega)).trans z3, (h _ (by omega)).trans z4, (h _ (by omega)).trans z5, (h _ (by omega)).trans z6, (h _ (by omega)).trans z7⟩, M.bank, M.box, M.spot, M.zrow, M.mine, M.opsr, fun k s hk hs => ?_, ⟨M.done.1, fun b hb => (h b (M.done.1.lt b hb).2).trans (M.done.2 b hb)⟩, ⟨M.news.1, fun b hb => (h b (M.news.1.lt b hb).2).trans (M.news.2 b hb)⟩, fun s hs => ?_⟩
  · obtain ⟨a, b, c, d, e⟩ := M.ops k s hk hs
    exact ⟨a, b, c, (h _ a.head.lt).trans d, (h _ a.row.lt).trans e⟩
  · obtain ⟨a, b, c, d, e⟩ := M.rdr s hs
    exact ⟨a, b, c, (h _ a.head.lt).trans d, (h _ a.row.lt).trans e⟩
theorem two_set {α : Type} (f : Nat → α) {k : Nat} (hk : k < 2) (u : α) : (#[f 0, f 1] : Array α).setIfInBounds k u = #[updX f k u 0, updX f k u 1] := by
  rcases (show k = 0 ∨ k = 1 by omega) with rfl | rfl <;> rfl
theorem Mem.setMine (M : Mem w0 w p lam ws t rc st mv dv vals nv nl rd) {k : Nat} (hk : k < 2) (u : Value) : Mem w0 (w.setCell ⟨p.mb, k, none⟩ u) p lam ws t rc st (updX mv k u) dv vals nv nl rd := by
  have e : Ex (fun b => b = p.mb) w (w.setCell ⟨p.mb, k, none⟩ u) := (Ex.refl (fun b => b = p.mb) w).setCell (q := ⟨p.mb, k, none⟩) (.inl rfl) u
  have c := M.chain
  have hl : ∀ b, b = p.mb → lam b = 0 := fun b hb => by rw [hb]; exact M.zero.2.2.2.2.2.2
  have hm := M.mine.set_ k u
  rw [two_set mv hk] at hm
  exact ⟨Ex.below M.low e (fun b hb => by omega), by have := e.size; omega, M.zero, M.bank.ex e (by omega) (by omega), M.box.ex e (by omega), M.spot.ex e (by omega), M.zrow.ex e (by omega), hm, M.opsr.ex e (by omega), M.opsx e (fun b hb => by have := hl b hb; omega), M.donex e (fun b hb => by have := hl b hb; omega), M.newsx e (fun b hb => by have := hl b hb; omega), M.rdrx e (fun b hb => by have := hl b hb; omega)⟩
theorem Mem.setRc (M : Mem w0 w p lam ws t rc st mv dv vals nv nl rd) {k : Nat} (hs : st k = none) (r : List Int) : Mem w0 w p lam ws t (updX rc k r) st mv dv vals nv nl rd :=
  ⟨M.low, M.chain, M.zero, M.bank, M.box, M.spot, M.zrow, M.mine, M.opsr, fun j s hj h => by
    have e : j ≠ k := fun e => by rw [e, hs] at h; cases h
    rw [updX_ne _ _ e]
    exact M.ops j s hj h, M.done, M.news, M.rdr⟩
theorem two_setOp (f : Nat → Option O1) {k : Nat} (hk : k < 2) (u : Option O1) : (#[opV (f 0), opV (f 1)] : Array Value).setIfInBounds k (opV u) = #[opV (updX f k u 0), opV (updX f k u 1)] := by
  rcases (show k = 0 ∨ k = 1 by omega) with rfl | rfl <;> rfl
theorem Mem.setOp (M : Mem w0 w p lam ws t rc st mv dv vals nv nl rd) {k : Nat} (hk : k < 2) (y : Option O1) (hy : ∀ s, y = some s → OpAt w s.o s.r s.cc (spotOf p.m p.d) (rc k) 16 s.x ∧ w0.heap.size ≤ s.o ∧ w0.heap.size ≤ s.r ∧ lam s.o = 3 + k ∧ lam s.r = 3 + k) : Mem w0 (w.setCell ⟨p.ob, k, none⟩ (opV y)) p lam ws t rc (updX st k y) mv dv vals nv nl rd := by
  have e : Ex (fun b => b = p.ob) w (w.setCell ⟨p.ob, k, none⟩ (opV y)) := (Ex.refl (fun b => b = p.ob) w).setCell (q := ⟨p.ob, k, none⟩) (.inl rfl) _
  have c := M.chain
  have hl : ∀ b, b = p.ob → lam b = 0 := fun b hb => by rw [hb]; exact M.zero.2.2.2.2.2.1
  have hm := M.opsr.set_ k (opV y)
  rw [two_setOp st hk] at hm
  refine ⟨Ex.below M.low e (fun b hb => by omega), by have := e.size; omega, M.zero, M.bank.ex e (by omega) (by omega), M.box.ex e (by omega), M.spot.ex e (by omega), M.zrow.ex e (by omega), M.mine.ex e (by omega), hm, fun j s hj h => ?_, M.donex e (fun b hb => by have := hl b hb; omega), M.newsx e (fun b hb => by have := hl b hb; omega), M.rdrx e (fun b hb => by have := hl b hb; omega)⟩
  by_cases ej : j = k
  · subst ej
    rw [updX_self] at h
    obtain ⟨a, b, c2, d, e2⟩ := hy s h
    exact ⟨a.ex e (fun ht => by have := hl _ ht; omega) (fun ht => by have := hl _ ht; omega), b, c2, d, e2⟩
  · rw [updX_ne _ _ ej] at h
    exact M.opsx e (fun b hb => by have := hl b hb; omega) j s hj h
theorem Mem.wstep (M : Mem w0 w p lam ws t rc st mv dv vals nv nl rd) {k : Nat} (hk : k < 2) {s : O1} (hs : st k = some s) (e : Ex (fun b => b = p.g ∨ b = p.h ∨ b = s.o) w w') (hb : BankAt w' p.g p.h ws' t') {x : WS} (ho : OpAt w' s.o s.r s.cc (spotOf p.m p.d) (rc k) 16 x) : Mem w0 w' p lam ws' t' rc (updX st k (some { s with x := x })) mv dv vals nv nl rd := by
  have c := M.chain
  obtain ⟨a0, b0, c0, d0, e0⟩ := M.ops k s hk hs
  obtain ⟨z1, z2, z3, z4, z5, z6, z7⟩ := M.zero
  have hl : ∀ b, (b = p.g ∨ b = p.h ∨ b = s.o) → lam b = 0 ∨ lam b = 3 + k := fun b hb => by
    rcases hb with hb | hb | hb
    · rw [hb]; exact .inl z1
    · rw [hb]; exact .inl z2
    · rw [hb]; exact .inr d0
  have hne : ∀ b, lam b = 0 → b ≠ p.g → b ≠ p.h → ¬ (b = p.g ∨ b = p.h ∨ b = s.o) := fun b hb h1 h2 hx => by
    rcases hx with hx | hx | hx
    · exact h1 hx
    · exact h2 hx
    · rw [hx] at hb; omega
  have hopr : Blk w' p.ob 63 #[opV (updX st k (some { s with x := x }) 0), opV (updX st k (some { s with x := x }) 1)] := by
    have h9 := M.opsr.ex e (hne _ z6 (by omega) (by omega))
    have e9 : ∀ j, opV (updX st k (some { s with x := x }) j) = opV (st j) := fun j => by
      by_cases ej : j = k
      · subst ej; rw [updX_self, hs]; rfl
      · rw [updX_ne _ _ ej]
    rw [e9, e9]
    exact h9
  refine ⟨Ex.below M.low e (fun b hb => by omega), by have := e.size; omega, M.zero, hb, M.box.ex e (hne _ z3 (by omega) (by omega)), M.spot.ex e (hne _ z4 (by omega) (by omega)), M.zrow.ex e (hne _ z5 (by omega) (by omega)), M.mine.ex e (hne _ z7 (by omega) (by omega)), hopr, fun j a hj h => ?_, M.donex e (fun b hb => by have := hl b hb; omega), M.newsx e (fun b hb => by have := hl b hb; omega), M.rdrx e (fun b hb => by have := hl b hb; omega)⟩
  by_cases ej : j = k
  · subst ej
    rw [updX_self] at h
    injection h with h
    subst h
    exact ⟨ho, b0, c0, d0, e0⟩
  · rw [updX_ne _ _ ej] at h
    obtain ⟨a1, b1, c1, d1, e1⟩ := M.ops j a hj h
    exact ⟨a1.ex e (fun ht => by have := hl _ ht; omega) (fun ht => by have := hl _ ht; omega), b1, c1, d1, e1⟩
/-- a slice that owns its block grew -/
theorem Mem.pushDone (M : Mem w0 w p lam ws t rc st mv dv vals nv nl rd) (e : Ex (fun b => dv.ownBlock = some b) w w') {u : Value} {s0 : Nat} (hown : w'.ownsRow w0.heap.size 42 1 v' (vals.length + 1) (vals ++ [u])) (hat : v'.ownBlock = dv.ownBlock ∨ v'.ownBlock = some s0) (h0 : w.heap.size ≤ s0) (hlam : ∀ b, b < w.heap.size → lam' b = lam b) (hnew : ∀ b, w.heap.size ≤ b → lam' b = 1) :
    Mem w0 w' p lam' ws t rc st mv v' (vals ++ [u]) nv nl rd := by
  have hl : ∀ b, dv.ownBlock = some b → lam b = 1 := M.done.2
  have M2 := M.lam_ hlam
  have c := M.chain
  obtain ⟨z1, z2, z3, z4, z5, z6, z7⟩ := M2.zero
  have hl2 := M2.done.2
  have hne : ∀ b, lam' b = 0 → ¬ dv.ownBlock = some b := fun b hb hx => by have := hl2 b hx; omega
  refine ⟨Ex.below M.low e (fun b hb => (M.done.1.lt b hb).1), by have := e.size; omega, M2.zero, M.bank.ex e (hne _ z1) (hne _ z2), M.box.ex e (hne _ z3), M.spot.ex e (hne _ z4), M.zrow.ex e (hne _ z5), M.mine.ex e (hne _ z7), M.opsr.ex e (hne _ z6), M2.opsx e (fun b hb => by have := hl2 b hb; omega), ⟨by rw [List.length_append]; exact hown, fun b hb => ?_⟩, M2.newsx e (fun b hb => by have := hl2 b hb; omega), M2.rdrx e (fun b hb => by have := hl2 b hb; omega)⟩
  rcases hat with h9 | h9
  · rw [h9] at hb
    exact hl2 b hb
  · rw [h9] at hb
    injection hb with hb
    exact hnew _ (by omega)
theorem Mem.pushNews (M : Mem w0 w p lam ws t rc st mv dv vals nv nl rd) (e : Ex (fun b => nv.ownBlock = some b) w w') {z : Nat} {s0 : Nat} (hown : w'.ownsRow w0.heap.size 3 1 v' (nl.length + 1) (natV (nl ++ [z]))) (hat : v'.ownBlock = nv.ownBlock ∨ v'.ownBlock = some s0) (h0 : w.heap.size ≤ s0) (hlam : ∀ b, b < w.heap.size → lam' b = lam b) (hnew : ∀ b, w.heap.size ≤ b → lam' b = 2) :
    Mem w0 w' p lam' ws t rc st mv dv vals v' (nl ++ [z]) rd := by
  have hl : ∀ b, nv.ownBlock = some b → lam b = 2 := M.news.2
  have M2 := M.lam_ hlam
  have c := M.chain
  obtain ⟨z1, z2, z3, z4, z5, z6, z7⟩ := M2.zero
  have hl2 := M2.news.2
  have hne : ∀ b, lam' b = 0 → ¬ nv.ownBlock = some b := fun b hb hx => by have := hl2 b hx; omega
  refine ⟨Ex.below M.low e (fun b hb => (M.news.1.lt b hb).1), by have := e.size; omega, M2.zero, M.bank.ex e (hne _ z1) (hne _ z2), M.box.ex e (hne _ z3), M.spot.ex e (hne _ z4), M.zrow.ex e (hne _ z5), M.mine.ex e (hne _ z7), M.opsr.ex e (hne _ z6), M2.opsx e (fun b hb => by have := hl2 b hb; omega), M2.donex e (fun b hb => by have := hl2 b hb; omega), ⟨by rw [List.length_append]; exact hown, fun b hb => ?_⟩, M2.rdrx e (fun b hb => by have := hl2 b hb; omega)⟩
  rcases hat with h9 | h9
  · rw [h9] at hb
    exact hl2 b hb
  · rw [h9] at hb
    injection hb with hb
    exact hnew _ (by omega)
theorem Mem.nilNews (M : Mem w0 w p lam ws t rc st mv dv vals nv nl rd) : Mem w0 w p lam ws t rc st mv dv vals (.slice none 0 0) [] rd :=
  ⟨M.low, M.chain, M.zero, M.bank, M.box, M.spot, M.zrow, M.mine, M.opsr, M.ops, M.done, ⟨World.ownsRow_nil _ _ _ _, fun b hb => by cases hb⟩, M.rdr⟩
theorem Mem.noRd (M : Mem w0 w p lam ws t rc st mv dv vals nv nl rd) : Mem w0 w p lam ws t rc st mv dv vals nv nl none :=
  ⟨M.low, M.chain, M.zero, M.bank, M.box, M.spot, M.zrow, M.mine, M.opsr, M.ops, M.done, M.news, fun s h => by cases h⟩
/-- a new reading -/
theorem Mem.newRd (M : Mem w0 w p lam ws t rc st mv dv vals nv nl rd) (q : Below w.heap.size w w') {s : R1} (hr : RdAt w' s.o s.r (spotOf p.m p.d) p.T s.x s.got) (h1 : w.heap.size ≤ s.o) (h2 : w.heap.size ≤ s.r) (hlam : ∀ b, b < w.heap.size → lam' b = lam b) (hnew : ∀ b, w.heap.size ≤ b → lam' b = 5) :
    Mem w0 w' p lam' ws t rc st mv dv vals nv nl (some s) := by
  have M2 := (M.lam_ hlam).bl q
  have := M.low.size
  exact ⟨M2.low, M2.chain, M2.zero, M2.bank, M2.box, M2.spot, M2.zrow, M2.mine, M2.opsr, M2.ops, M2.done, M2.news, fun a h => by injection h with h; subst h; exact ⟨hr, by omega, by omega, hnew _ (by omega), hnew _ (by omega)⟩⟩
/-- a new publishing, not yet in the row -/
theorem Mem.newOp (M : Mem w0 w p lam ws t rc st mv dv vals nv nl rd) (q : Below w.heap.size w w') {k : Nat} {s : O1} (ho : OpAt w' s.o s.r s.cc (spotOf p.m p.d) (rc k) 16 s.x) (h1 : w.heap.size ≤ s.o) (h2 : w.heap.size ≤ s.r) (hlam : ∀ b, b < w.heap.size → lam' b = lam b) (hnew : ∀ b, w.heap.size ≤ b → lam' b = 3 + k) :
    Mem w0 w' p lam' ws t rc st mv dv vals nv nl rd ∧ (OpAt w' s.o s.r s.cc (spotOf p.m p.d) (rc k) 16 s.x ∧ w0.heap.size ≤ s.o ∧ w0.heap.size ≤ s.r ∧ lam' s.o = 3 + k ∧ lam' s.r = 3 + k) := by
  have := M.low.size
  exact ⟨(M.lam_ hlam).bl q, ho, by omega, by omega, hnew _ (by omega), hnew _ (by omega)⟩
theorem Mem.rstep (M : Mem w0 w p lam ws t rc st mv dv vals nv nl rd) {s : R1} (hs : rd = some s) (e : Ex (fun b => b = p.g ∨ b = p.h ∨ b = s.o ∨ b = s.r) w w') (hb : BankAt w' p.g p.h ws t') {x : RS} {got : List Int} (ho : RdAt w' s.o s.r (spotOf p.m p.d) p.T x got) : Mem w0 w' p lam ws t' rc st mv dv vals nv nl (some { s with x := x, got := got }) := by
  have c := M.chain
  obtain ⟨a0, b0, c0, d0, e0⟩ := M.rdr s hs
  obtain ⟨z1, z2, z3, z4, z5, z6, z7⟩ := M.zero
  have hl : ∀ b, (b = p.g ∨ b = p.h ∨ b = s.o ∨ b = s.r) → lam b = 0 ∨ lam b = 5 := fun b hb => by
    rcases hb with hb | hb | hb | hb
    · rw [hb]; exact .inl z1
    · rw [hb]; exact .inl z2
    · rw [hb]; exact .inr d0
    · rw [hb]; exact .inr e0
  have hne : ∀ b, lam b = 0 → b ≠ p.g → b ≠ p.h → ¬ (b = p.g ∨ b = p.h ∨ b = s.o ∨ b = s.r) := fun b hb h1 h2 hx => by
    rcases hx with hx | hx | hx | hx
    · exact h1 hx
    · exact h2 hx
    · rw [hx] at hb; omega
    · rw [hx] at hb; omega
  refine ⟨Ex.below M.low e (fun b hb => by omega), by have := e.size; omega, M.zero, hb, M.box.ex e (hne _ z3 (by omega) (by omega)), M.spot.ex e (hne _ z4 (by omega) (by omega)), M.zrow.ex e (hne _ z5 (by omega) (by omega)), M.mine.ex e (hne _ z7 (by omega) (by omega)), M.opsr.ex e (hne _ z6 (by omega) (by omega)), M.opsx e (fun b hb => by have := hl b hb; omega), M.donex e (fun b hb => by have := hl b hb; omega), M.newsx e (fun b hb => by have := hl b hb; omega), fun a h => ?_⟩
  injection h with h
  subst h
  exact ⟨ho, b0, c0, d0, e0⟩
end
end Go.Proofs.Ytihogagnjikghaa.Bank
