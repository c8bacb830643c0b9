/-
  Law 12, the stage's theorem: all that lies in memory. Conditions stand at each. By an AI agent.
-/
import Derived.Test.YthcaagkgddeabaaPmF
namespace Go.Proofs.Ythcaagkgddeabaa.Bank
set_option linter.unusedVariables false
set_option linter.unusedSimpArgs false
open Go Go.RowKit Go.Proofs.Ythcaagkgddeabaa.Base Go.Deep Go.ChangeShapes Go.WideShapes Go.Proofs.Ythcaagkgddeabaa.Queue
/-- the four queues, as they were once -/
structure TE where
  A : Nat → Option Addr
  c : Nat → Nat
  L : Nat → List Int
instance : Inhabited TE := ⟨⟨fun _ => none, fun _ => 0, fun _ => []⟩⟩
def teV (e : TE) : Array Value := #[.slice (e.A 0) (e.L 0).length (e.c 0), .slice (e.A 1) (e.L 1).length (e.c 1), .slice (e.A 2) (e.L 2).length (e.c 2), .slice (e.A 3) (e.L 3).length (e.c 3)]
def teC (e : TE) : List Value := (teV e).toList
def teFlat (l : List TE) : List Value := (l.map teC).flatten
theorem teFlat_len (l : List TE) : (teFlat l).length = l.length * 4 := by
  induction l with
  | nil => rfl
  | cons e l ih =>
    unfold teFlat at ih ⊢
    simp only [List.map_cons, List.flatten_cons, List.length_append, ih, List.length_cons]
    have : (teC e).length = 4 := rfl
    omega
theorem teFlat_push (l : List TE) (e : TE) : teFlat (l ++ [e]) = teFlat l ++ teC e := by
  unfold teFlat
  simp
theorem teFlat_get : ∀ (l : List TE) (i j : Nat), i < l.length → j < 4 → (teFlat l)[i * 4 + j]? = (teC (l.getD i default))[j]?
  | [], i, j, hi, _ => absurd hi (by simp)
  | e :: l, 0, j, _, hj => by
    unfold teFlat
    simp only [List.map_cons, List.flatten_cons, Nat.zero_mul, Nat.zero_add]
    rw [List.getElem?_append_left (by show j < 4; exact hj)]
    rfl
  | e :: l, i + 1, j, hi, hj => by
    have ih := teFlat_get l i j (by simpa using hi) hj
    unfold teFlat at ih ⊢
    simp only [List.map_cons, List.flatten_cons]
    rw [List.getElem?_append_right (by show 4 ≤ _; omega)]
    have : (i + 1) * 4 + j - (teC e).length = i * 4 + j := by show (i + 1) * 4 + j - 4 = _; omega
    rw [this, ih]
    rfl
/-- the marks: 0 what is one's own, 1 the poll's, 3 the queues', 4 the row of what they were -/
structure LM (lam : Nat → Nat) (N0 g h pb qb r : Nat) : Prop where
  lg : g < N0
  lh : h < N0
  lpb : N0 ≤ pb
  lqb : N0 ≤ qb
  ne : pb ≠ qb
  lo : ∀ k, k < N0 → lam k = 0
  zpb : lam pb = 0
  zqb : lam qb = 0
  zr : lam r = 0
  rr : r ≠ g ∧ r ≠ h ∧ r ≠ pb ∧ r ≠ qb
structure MM (w : World) (lam : Nat → Nat) (wz : World) (N0 g h pb qb o r : Nat) (a : MT) (cu : Nat → Cur) (x : PX) (b : Nat → Pb) (WS : List Int) (t : Int) (q : TE) (tv : Value) (ents : List TE) : Prop where
  bank : BankAt w g h WS t
  pubs : Blk w pb 61 (pubC b)
  qs : Blk w qb 62 (teV q)
  qi : ∀ j, j < 4 → QI w lam (q.A j) (q.c j) (q.L j)
  qc : ∀ j, j < 4 → (q.L j).length ≤ q.c j
  row : w.ownsRow 0 62 4 tv ents.length (teFlat ents)
  mine : ∀ k, tv.ownBlock = some k → lam k = 4
  old : ∀ e, e < ents.length → ∀ j, j < 4 → QI w lam ((ents.getD e default).A j) ((ents.getD e default).c j) ((ents.getD e default).L j)
  live : PLive w lam 1 o (cM a) x
  subs : SubsIn w r 4 (lM a cu)
  z : Ex (fun k => k = g ∨ k = h ∨ N0 ≤ k) wz w
  lm : LM lam N0 g h pb qb r
section
variable {w w' wz : World} {lam : Nat → Nat} {N0 g h pb qb o r : Nat} {a : MT} {cu : Nat → Cur} {x : PX} {b : Nat → Pb} {WS : List Int} {t : Int} {q : TE} {tv : Value} {ents : List TE}
theorem MM.bl (m : MM w lam wz N0 g h pb qb o r a cu x b WS t q tv ents) (p : Below w.heap.size w w') : MM w' lam wz N0 g h pb qb o r a cu x b WS t q tv ents where
  bank := m.bank.ex (T := fun _ => False) (Ex.of_below p) (fun h => h) (fun h => h)
  pubs := m.pubs.bl p
  qs := m.qs.bl p
  qi := fun j hj => (m.qi j hj).bl p
  qc := m.qc
  row := ownsRow_ex (T := fun _ => False) m.row (Ex.of_below p) (fun _ _ h => h)
  mine := m.mine
  old := fun e he j hj => (m.old e he j hj).bl p
  live := m.live.bl p
  subs := m.subs.bl p
  z := m.z.trans ((Ex.of_below (T := fun _ => False) p).mono (fun _ h => h.elim))
  lm := m.lm
theorem LM.remark (l : LM lam N0 g h pb qb r) {s : Nat} (tg : Nat) (h1 : N0 ≤ s) (h2 : pb < s) (h3 : qb < s) (h4 : r < s) : LM (lamN lam s tg) N0 g h pb qb r :=
  ⟨l.lg, l.lh, l.lpb, l.lqb, l.ne, fun k hk => by rw [lamN_lt (by omega)]; exact l.lo k hk, by rw [lamN_lt h2]; exact l.zpb, by rw [lamN_lt h3]; exact l.zqb, by rw [lamN_lt h4]; exact l.zr, l.rr⟩
theorem MM.lo (m : MM w lam wz N0 g h pb qb o r a cu x b WS t q tv ents) : N0 ≤ w.heap.size := Nat.le_of_lt (Nat.lt_of_le_of_lt m.lm.lpb m.pubs.lt)
/-- what is new is marked -/
theorem MM.remark (m : MM w lam wz N0 g h pb qb o r a cu x b WS t q tv ents) (tg : Nat) : MM w (lamN lam w.heap.size tg) wz N0 g h pb qb o r a cu x b WS t q tv ents where
  bank := m.bank
  pubs := m.pubs
  qs := m.qs
  qi := fun j hj => (m.qi j hj).relam (fun k hk => lamN_lt hk)
  qc := m.qc
  row := m.row
  mine := fun k hk => (lamN_lt (World.ownsRow.lt m.row k hk).2).trans (m.mine k hk)
  old := fun e he j hj => (m.old e he j hj).relam (fun k hk => lamN_lt hk)
  live := m.live.relam (fun k hk => lamN_lt hk)
  subs := m.subs
  z := m.z
  lm := m.lm.remark tg m.lo m.pubs.lt m.qs.lt m.subs.lt
/-- somebody publishes -/
theorem MM.pub (m : MM w lam wz N0 g h pb qb o r a cu x b WS t q tv ents) {b' : Nat → Pb} {WS' : List Int} {t' : Int} (hk : BankAt w' g h WS' t') (hp : Blk w' pb 61 (pubC b')) (p : Ex (fun z => z = g ∨ z = h ∨ z = pb) w w') : MM w' lam wz N0 g h pb qb o r a cu x b' WS' t' q tv ents := by
  have z0 : ∀ k, (k = g ∨ k = h ∨ k = pb) → lam k = 0 := fun k hk => by
    rcases hk with rfl | rfl | rfl
    · exact m.lm.lo _ m.lm.lg
    · exact m.lm.lo _ m.lm.lh
    · exact m.lm.zpb
  have l := m.lm
  have hg := l.lg
  have hh := l.lh
  have h1 := l.lpb
  have h2 := l.lqb
  have h3 := l.ne
  have h4 := l.rr
  exact ⟨hk, hp, m.qs.ex p (by omega), fun j hj => (m.qi j hj).ex p (fun k hk => by rw [z0 k hk]; decide), m.qc, ownsRow_ex m.row p (fun k hk hT => by have e1 := m.mine k hk; rw [z0 k hT] at e1; exact absurd e1 (by decide)), m.mine, fun e he j hj => (m.old e he j hj).ex p (fun k hk => by rw [z0 k hk]; decide), m.live.ex p (fun k hk => by rw [z0 k hk]; decide), m.subs.ex p (by omega), m.z.trans (p.mono (fun k hk => by omega)), m.lm⟩
/-- a queue is another one -/
theorem MM.setq (m : MM w lam wz N0 g h pb qb o r a cu x b WS t q tv ents) {q' : TE} {w1 : World} (hb : Blk w1 qb 62 (teV q')) (p : Ex (fun z => z = qb) w w1) (hqi : ∀ j, j < 4 → QI w lam (q'.A j) (q'.c j) (q'.L j)) (hqc : ∀ j, j < 4 → (q'.L j).length ≤ q'.c j) : MM w1 lam wz N0 g h pb qb o r a cu x b WS t q' tv ents := by
  have z0 : ∀ k, k = qb → lam k = 0 := fun k hk => by rw [hk]; exact m.lm.zqb
  have l := m.lm
  have hg := l.lg
  have hh := l.lh
  have h1 := l.lpb
  have h2 := l.lqb
  have h3 := l.ne
  have h4 := l.rr
  exact ⟨m.bank.ex p (by omega) (by omega), m.pubs.ex p (by omega), hb, fun j hj => (hqi j hj).ex p (fun k hk => by rw [z0 k hk]; decide), hqc, ownsRow_ex m.row p (fun k hk hT => by have e1 := m.mine k hk; rw [z0 k hT] at e1; exact absurd e1 (by decide)), m.mine, fun e he j hj => (m.old e he j hj).ex p (fun k hk => by rw [z0 k hk]; decide), m.live.ex p (fun k hk => by rw [z0 k hk]; decide), m.subs.ex p (by omega), m.z.trans (p.mono (fun k hk => by have hk : k = qb := hk; omega)), m.lm⟩
/-- the poll does a step -/
theorem MM.step (m : MM w lam wz N0 g h pb qb o r a cu x b WS t q tv ents) {x' : PX} {t' : Int} (hk : BankAt w' g h WS t') (hp : PLive w' (lamN lam w.heap.size 1) 1 o (cM a) x') (p : Ex (fun z => z = g ∨ z = h ∨ lam z = 1) w w') : MM w' (lamN lam w.heap.size 1) wz N0 g h pb qb o r a cu x' b WS t' q tv ents := by
  have m2 := m.remark 1
  have l := m.lm
  have hg := l.lg
  have hh := l.lh
  have h1 := l.lpb
  have h2 := l.lqb
  have h3 := l.ne
  have h4 := l.rr
  have lo := m.lo
  have z0 : ∀ k, (k = g ∨ k = h ∨ lam k = 1) → lamN lam w.heap.size 1 k = 0 ∨ lamN lam w.heap.size 1 k = 1 := fun k hk => by
    rcases Nat.lt_or_ge k w.heap.size with h9 | h9
    · rw [lamN_lt h9]
      rcases hk with rfl | rfl | hk
      · exact .inl (l.lo _ hg)
      · exact .inl (l.lo _ hh)
      · exact .inr hk
    · exact .inr (lamN_ge h9)
  have no : ∀ k, lam k = 0 → k ≠ g → k ≠ h → ¬ (k = g ∨ k = h ∨ lam k = 1) := fun k e1 e2 e3 hT => by omega
  refine ⟨hk, m.pubs.ex p (no _ l.zpb (by omega) (by omega)), m.qs.ex p (no _ l.zqb (by omega) (by omega)), fun j hj => (m2.qi j hj).ex p (fun k hk => by have := z0 k hk; omega), m.qc, ownsRow_ex m.row p (fun k hk hT => by have e1 := m2.mine k hk; have := z0 k hT; omega), m2.mine, fun e he j hj => (m2.old e he j hj).ex p (fun k hk => by have := z0 k hk; omega), hp, m.subs.ex p (no _ l.zr h4.1 h4.2.1), m.z.trans (p.mono (fun k hk => ?_)), m2.lm⟩
  rcases hk with rfl | rfl | hk
  · exact .inl rfl
  · exact .inr (.inl rfl)
  · rcases Nat.lt_or_ge k N0 with h9 | h9
    · rw [l.lo k h9] at hk; cases hk
    · exact .inr (.inr h9)
/-- the queues, as they are now, are noted -/
theorem MM.note (m : MM w lam wz N0 g h pb qb o r a cu x b WS t q tv ents) {tv' : Value} {ob : Obj} (hown : w'.ownsRow 0 62 4 tv' (ents.length + 1) (teFlat ents ++ teC q)) (hgrow : (w.alloc ob).grownBy w' tv.ownBlock) (hat : tv'.ownBlock = tv.ownBlock ∨ tv'.ownBlock = some (w.alloc ob).heap.size) : MM w' (lamN lam w.heap.size 4) wz N0 g h pb qb o r a cu x b WS t q tv' (ents ++ [q]) := by
  have m2 := m.remark 4
  have p : Ex (fun k => tv.ownBlock = some k) w w' := ((Ex.refl _ w).alloc ob).trans (ex_grown hgrow (fun k hk => hk))
  have mk : ∀ k, tv.ownBlock = some k → lamN lam w.heap.size 4 k = 4 := m2.mine
  have l := m2.lm
  have no : ∀ k, lamN lam w.heap.size 4 k = 0 → ¬ tv.ownBlock = some k := fun k e hT => by have := mk k hT; omega
  have hqi := fun j hj => (m2.qi j hj).ex p (fun k hk => by rw [mk k hk]; decide)
  refine ⟨m.bank.ex p (no _ (l.lo _ l.lg)) (no _ (l.lo _ l.lh)), m.pubs.ex p (no _ l.zpb), m.qs.ex p (no _ l.zqb), hqi, m.qc, ?_, fun k hk => ?_, fun e he j hj => ?_, m2.live.ex p (fun k hk => by rw [mk k hk]; decide), m.subs.ex p (no _ l.zr), m.z.trans (p.mono (fun k hk => ?_)), l⟩
  · rw [List.length_append, teFlat_push]
    exact hown
  · rcases hat with e | e
    · exact mk k (e ▸ hk)
    · rw [e] at hk
      injection hk with hk
      refine lamN_ge ?_
      simp at hk
      omega
  · rw [List.length_append] at he
    simp only [List.length_cons, List.length_nil] at he
    rw [List.getD_eq_getElem?_getD]
    by_cases e1 : e = ents.length
    · subst e1
      simp
      exact hqi j hj
    · rw [List.getElem?_append_left (by omega), ← List.getD_eq_getElem?_getD]
      exact (m2.old e (by omega) j hj).ex p (fun k hk => by rw [mk k hk]; decide)
  · rcases Nat.lt_or_ge k N0 with h9 | h9
    · have := mk k hk; rw [l.lo k h9] at this; cases this
    · exact .inr (.inr h9)
/-- a new poll, of the cursors that lie in r' -/
theorem MM.anew (m : MM w lam wz N0 g h pb qb o r a cu x b WS t q tv ents) {o' r' : Nat} {cu' : Nat → Cur} {x' : PX} (hs : SubsIn w r' 4 (lM a cu')) (hr : lam r' = 0) (hr2 : r' ≠ g ∧ r' ≠ h ∧ r' ≠ pb ∧ r' ≠ qb) (hp : PLive w' (lamN lam w.heap.size 1) 1 o' (cM a) x') (p : Below w.heap.size w w') : MM w' (lamN lam w.heap.size 1) wz N0 g h pb qb o' r' a cu' x' b WS t q (.slice none 0 0) [] := by
  have m2 := (m.remark 1).bl p
  exact ⟨m2.bank, m2.pubs, m2.qs, m2.qi, m2.qc, ⟨rfl, .inl ⟨rfl, rfl⟩⟩, fun k hk => by simp [Value.ownBlock] at hk, fun e he => absurd he (by simp), hp, hs.bl p, m2.z, ⟨m2.lm.lg, m2.lm.lh, m2.lm.lpb, m2.lm.lqb, m2.lm.ne, m2.lm.lo, m2.lm.zpb, m2.lm.zqb, by rw [lamN_lt hs.lt]; exact hr, hr2⟩⟩
/-- what was noted, in its cells -/
theorem MM.entry (m : MM w lam wz N0 g h pb qb o r a cu x b WS t q tv ents) {e : Nat} (he : e < ents.length) : ∃ gb c, tv = .slice (some ⟨gb, 0, none⟩) ents.length c ∧ ∀ j, j < 4 → w.cell? ⟨gb, e * 4 + j, none⟩ = some (.slice ((ents.getD e default).A j) ((ents.getD e default).L j).length ((ents.getD e default).c j)) := by
  have hm := m.row
  rcases hm.2 with ⟨_, h0⟩ | ⟨gb, cap, cur, hv, hbg, hh, hnc, _⟩
  · omega
  · refine ⟨gb, cap, hv, fun j hj => ?_⟩
    have h1 := teFlat_get ents e j he hj
    have h2 : (teC (ents.getD e default))[j]? = some (.slice ((ents.getD e default).A j) ((ents.getD e default).L j).length ((ents.getD e default).c j)) := by
      rcases (show j = 0 ∨ j = 1 ∨ j = 2 ∨ j = 3 by omega) with rfl | rfl | rfl | rfl <;> rfl
    have h3 := World.ownsRow.cells hm (g := gb) (by rw [hv]; rfl) (e * 4 + j) _ (h1.trans h2)
    rw [Addr.add_lit, Nat.zero_add] at h3
    exact h3
theorem MM.form (m : MM w lam wz N0 g h pb qb o r a cu x b WS t q tv ents) : ∃ A c, tv = .slice A ents.length c := by
  rcases m.row.2 with ⟨e, h0⟩ | ⟨gb, cap, cur, hv, _⟩
  · exact ⟨none, 0, by rw [e, h0]⟩
  · exact ⟨_, _, hv⟩
end
end Go.Proofs.Ythcaagkgddeabaa.Bank
