/-
  Law 12: the document's poll goes as the program's does, in plain words. No program. By an AI agent.
  Law 12: the document's poll, beside other things: its blocks bear a mark; its calls. Conditions stand at each. By an AI agent.
-/
import Derived.Test.YthcaagkgddeabaaPoRi
import Derived.Test.YthcaagkgddeabaaPoRk
import Derived.Test.YthcaagkgddeabaaPoRl
import Derived.Test.YthcaagkgddeabaaPoU
namespace Go.Proofs.Ythcaagkgddeabaa.Bank
set_option linter.unusedVariables false
set_option linter.unusedSimpArgs false
open Go Go.RowKit Go.Proofs.Ythcaagkgddeabaa.Base Go.Deep Go.ChangeShapes Go.WideShapes Go.Proofs.Ythcaagkgddeabaa.Queue
structure DocOk (n m : Nat) (l : Nat → Queue.Sub) (s : Nat → Spot) (od : Nat → Nat) : Prop where
  fits : Fits n m l s
  n8 : n ≤ 8
  ok : ∀ i, i < n → (l i).Ok
  od : ∀ k, k < (cOf n l s).T → od k < n ∧ (l (od k)).topic = ((cOf n l s).tp k).n
theorem DocOk.c {n m : Nat} {l : Nat → Queue.Sub} {s : Nat → Spot} {od : Nat → Nat} (h : DocOk n m l s od) : (cOf n l s).Ok := cOf_ok h.fits (by have := h.n8; omega) h.ok
theorem DocOk.T8 {n m : Nat} {l : Nat → Queue.Sub} {s : Nat → Spot} {od : Nat → Nat} (h : DocOk n m l s od) : 1 ≤ (cOf n l s).T ∧ (cOf n l s).T ≤ 8 := by
  have h1 := h.c.t1
  have h2 := h.c.tn
  have h3 : (cOf n l s).n = n := rfl
  have h4 := h.n8
  omega
/-- the document's poll y stands as the program's, x -/
structure DocRel (n : Nat) (l : Nat → Queue.Sub) (s : Nat → Spot) (x : PX) (y : RS) : Prop where
  how : y.how = x.how
  steps : y.steps = x.steps
  tries : y.tries = x.left
  u : ∀ v ∈ y.L, 0 ≤ v ∧ v ≤ 18446744073709551615
  gl : ∀ k, k < (cOf n l s).T → k < y.L.length → nth x.gl k = nth y.L k / 2
  way : x.how = 0 → (x.round = 1 ∧ (y.L.length : Int) = x.next) ∨ (x.round = 2 ∧ (y.L.length : Int) = (cOf n l s).T + x.next ∧ y.L.drop (cOf n l s).T = x.words ∧ y.at_ = x.begun) ∨ (x.round = 3 ∧ (y.L.length : Int) = (cOf n l s).T + x.size + x.next ∧ (y.L.drop (cOf n l s).T).take x.size.toNat = x.words ∧ y.at_ = x.begun)
  fin : x.how = 1 → (y.L.length : Int) = 2 * (cOf n l s).T + x.size ∧ (y.L.drop (cOf n l s).T).take x.size.toNat = x.words ∧ y.at_ = x.begun
theorem sizeR_ge {n : Nat} {l : Nat → Queue.Sub} {s : Nat → Spot} (h : ∀ i, i < n → (s i).AtOk) (gs : List Int) : 0 ≤ sizeR n l s gs ∧ sizeR n l s gs ≤ 64 := by
  unfold sizeR
  split
  · omega
  · have h1 := best_lt l gs n
    have h2 := (h (best l gs n).toNat (by omega)).1
    omega
section
variable {n m : Nat} {l : Nat → Queue.Sub} {s : Nat → Spot} {od : Nat → Nat} {x : PX} {y : RS} {M : Int}
theorem DocRel.gens (h : DocRel n l s x y) (hd : DocOk n m l s od) (hl : (cOf n l s).T ≤ y.L.length) : gensR n (cOf n l s).ix y.L = gensL (cOf n l s) x.gl :=
  gensR_eq (c := cOf n l s) (fun i hi => (cOf_ix hi).1) (fun k hk => h.gl k hk (by omega))
theorem DocRel.picks (h : DocRel n l s x y) (hd : DocOk n m l s od) (hg : PGood (cOf n l s) (fun i => (l i).cur) x M) (hh : x.how = 0) (hr : x.round ≠ 1) :
    (cOf n l s).T ≤ y.L.length ∧ gensR n (cOf n l s).ix y.L = gensL (cOf n l s) x.gl ∧ Chosen (cOf n l s) x ∧ sizeR n l s (gensR n (cOf n l s).ix y.L) = x.size := by
  have hcu := hg.not (by omega)
  obtain ⟨_, hw⟩ := hg.way hh
  have hnx := hg.nx
  have hch : Chosen (cOf n l s) x := by
    rcases hw with ⟨a, _⟩ | ⟨_, _, a, _⟩ | ⟨_, _, a, _⟩
    · exact absurd a hr
    · exact a
    · exact a
  have hsz := (hch.size hd.c).1
  have hT : (cOf n l s).T ≤ y.L.length := by
    rcases h.way hh with ⟨a, _⟩ | ⟨_, a, _⟩ | ⟨_, a, _⟩
    · exact absurd a hr
    · omega
    · omega
  have hG := h.gens hd hT
  exact ⟨hT, hG, hch, by rw [hG]; exact sizeR_eq hd.fits hch hcu⟩
theorem DocRel.at_ (h : DocRel n l s x y) (hd : DocOk n m l s od) (hg : PGood (cOf n l s) (fun i => (l i).cur) x M) (hh : x.how = 0) :
    rAt (cOf n l s).T n l s od (cOf n l s).ix y = pAtF (cOf n l s) x ∧ (y.L.length : Int) < 2 * (cOf n l s).T + sizeR n l s (gensR n (cOf n l s).ix y.L) ∧ y.L.length ≤ 100 := by
  have hcu := hg.not (by omega)
  obtain ⟨_, hw⟩ := hg.way hh
  have hnx := hg.nx
  have hT8 := hd.T8
  have hat : ∀ i, i < n → (s i).AtOk := fun i hi => (hd.fits.2.2 i hi).1
  have hsr := sizeR_ge (l := l) hat (gensR n (cOf n l s).ix y.L)
  unfold rAt
  rcases h.way hh with ⟨hr, hl⟩ | ⟨hr, hl, _, _⟩ | ⟨hr, hl, _, _⟩
  · have hlt : x.next < (cOf n l s).T := by
      rcases hw with ⟨_, a⟩ | ⟨a, _⟩ | ⟨a, _⟩
      · exact a
      · omega
      · omega
    refine ⟨?_, by omega, by omega⟩
    unfold nextR pAtF
    rw [if_pos (by omega), if_neg (by omega), OrdL.spot hd.fits hd.c hd.od (by omega), show x.next.toNat = y.L.length by omega]
  · obtain ⟨hT, hG, hch, hsz⟩ := h.picks hd hg hh (by omega)
    have hlt : x.next < x.size := by
      rcases hw with ⟨a, _⟩ | ⟨a, _⟩ | ⟨_, a, _⟩
      · omega
      · omega
      · exact a
    refine ⟨?_, by omega, by omega⟩
    have hp : ¬ pickF (cOf n l s) x < 0 := fun h0 => by have := (hch.none h0).2; omega
    have hk : (pickF (cOf n l s) x).toNat < n := by have h9 : pickF (cOf n l s) x < ((cOf n l s).n : Int) := (pickF_ge (cOf n l s) x).2; have e : (cOf n l s).n = n := rfl; omega
    unfold nextR pAtF
    rw [if_neg (by omega), if_pos (by rw [hsz]; omega), if_pos hr, hG, best_eq n l s hcu, pickG_eq (m := m) hch hd.c hg.cur hg.gl hg.glen hcu, (hch.some hp).2.1, cOf_spot hd.fits hk]
    omega
  · obtain ⟨hT, hG, hch, hsz⟩ := h.picks hd hg hh (by omega)
    have hs2 := (hch.size hd.c)
    have hlt : x.next < (cOf n l s).T := by
      rcases hw with ⟨a, _⟩ | ⟨_, a, _⟩ | ⟨a, _⟩
      · omega
      · exact a
      · omega
    refine ⟨?_, by omega, by omega⟩
    unfold nextR pAtF
    rw [if_neg (by omega), if_neg (by rw [hsz]; omega), if_neg (by omega), hsz, show ((y.L.length : Int) - (cOf n l s).T - x.size).toNat = x.next.toNat by omega, OrdL.spot hd.fits hd.c hd.od (by omega)]
theorem drop_push {L : List Int} (v : Int) {T : Nat} (h : T ≤ L.length) : (L ++ [v]).drop T = L.drop T ++ [v] := by
  rw [List.drop_append_of_le_length h]
theorem take_push {L : List Int} (v : Int) {k : Nat} (h : k ≤ L.length) : (L ++ [v]).take k = L.take k := by
  rw [List.take_append_of_le_length h]
theorem DocRel.step {ws : List Int} (h : DocRel n l s x y) (hd : DocOk n m l s od) (hg : PGood (cOf n l s) (fun i => (l i).cur) x M) (hws : ∀ v ∈ ws, 0 ≤ v ∧ v ≤ 18446744073709551615) :
    DocRel n l s (pStepF (cOf n l s) ws x) (rStepF (cOf n l s).T n l s od (cOf n l s).ix ws y) := by
  by_cases hh : x.how = 0
  case neg =>
    have ep : pStepF (cOf n l s) ws x = x := if_pos hh
    have er : rStepF (cOf n l s).T n l s od (cOf n l s).ix ws y = y := if_pos (by rw [h.how]; exact hh)
    rw [ep, er]; exact h
  obtain ⟨hat, hm, _⟩ := h.at_ hd hg hh
  have ep : pStepF (cOf n l s) ws x = if ¬ inW ws (pAtF (cOf n l s) x) then { x with how := 3 } else if x.round = 2 then pRecord x (wordF ws (pAtF (cOf n l s) x)) else if x.round = 3 then pSecond (cOf n l s) x (wordF ws (pAtF (cOf n l s) x)) else pFirst (cOf n l s) x (wordF ws (pAtF (cOf n l s) x)) := if_neg (fun e => e hh)
  have er : rStepF (cOf n l s).T n l s od (cOf n l s).ix ws y = if ¬ inW ws (rAt (cOf n l s).T n l s od (cOf n l s).ix y) then ⟨y.tries, 3, y.steps, y.at_, y.L⟩ else rTake (cOf n l s).T n l s (cOf n l s).ix y (wordF ws (rAt (cOf n l s).T n l s od (cOf n l s).ix y)) := if_neg (fun e => e (h.how.trans hh))
  rw [ep, er, hat]
  clear ep er
  by_cases hin : inW ws (pAtF (cOf n l s) x)
  case neg =>
    rw [if_pos hin, if_pos hin]
    exact ⟨rfl, h.steps, h.tries, h.u, h.gl, (fun e => by cases e), (fun e => by cases e)⟩
  have hin2 : ¬ ¬ inW ws (pAtF (cOf n l s) x) := fun e => e hin
  rw [if_neg hin2, if_neg hin2]
  clear hin2
  have hv := wordF_fit hws (pAtF (cOf n l s) x)
  generalize wordF ws (pAtF (cOf n l s) x) = v at hv ⊢
  clear hat hin
  have hnx := hg.nx
  have hT8 := hd.T8
  obtain ⟨hleft, hway⟩ := hg.way hh
  have hglen := hg.glen
  have hu2 := fit_push h.u hv
  unfold rTake
  obtain ⟨left, round, next, pk, gen, place, size, how, steps, begun, words, gl, cu⟩ := x
  obtain ⟨tries, how2, steps2, at2, L⟩ := y
  have hhow := h.how
  have hst := h.steps
  have htr := h.tries
  have hgl := h.gl
  simp only at hh hhow hst htr hgl hm hnx hleft hway hglen hu2
  subst hh
  subst hhow
  replace hst := hst.symm
  replace htr := htr.symm
  subst hst
  subst htr
  simp only
  rcases h.way rfl with ⟨hr, hl⟩ | ⟨hr, hl, hdr, hbe⟩ | ⟨hr, hl, hdr, hbe⟩
  · -- the first round
    simp only at hr hl
    subst hr
    have hlt : next < (cOf n l s).T := by
      rcases hway with ⟨_, a⟩ | ⟨a, _⟩ | ⟨a, _⟩
      · exact a
      · exact absurd a (by decide)
      · exact absurd a (by decide)
    rw [if_neg (by decide), if_neg (by decide), if_pos (show L.length + 1 ≤ (cOf n l s).T by omega)]
    have hgl2 : ∀ k, k < (cOf n l s).T → k < (L ++ [v]).length → nth (gl.set next.toNat (v / 2)) k = nth (L ++ [v]) k / 2 := by
      intro k hk hk2
      simp only [List.length_append, List.length_cons, List.length_nil] at hk2
      rw [nth_set _ _ _ _ (by omega)]
      by_cases e : k = next.toNat
      · rw [if_pos e, show k = L.length by omega, nth_push_eq]
      · rw [if_neg e, nth_push_lt v (by omega)]
        exact hgl k hk (by omega)
    have hlen2 : (((L ++ [v]).length : Nat) : Int) = next + 1 := by simp only [List.length_append, List.length_cons, List.length_nil]; omega
    unfold pFirst
    simp only
    by_cases he : next + 1 = (cOf n l s).T
    · rw [if_pos he, if_pos (show L.length + 1 = (cOf n l s).T by omega)]
      unfold firstP
      obtain ⟨pk2, gen2, place2, size2, e⟩ := chooseP_form (cOf n l s) ⟨left, 1, next + 1, pk, gen, place, size, 0, steps + 1, begun, words, gl.set next.toNat (v / 2), cu⟩
      rw [e]
      simp only
      have hd0 : (L ++ [v]).drop (cOf n l s).T = [] := List.drop_eq_nil_of_le (by omega)
      refine ⟨rfl, rfl, rfl, hu2, hgl2, fun _ => ?_, fun e => by cases e⟩
      by_cases hz : size2 = 0
      · exact .inr (.inr ⟨by simp only [if_pos hz], by simp only; omega, by simp only; rw [hd0, List.take_nil], rfl⟩)
      · exact .inr (.inl ⟨by simp only [if_neg hz], by simp only; omega, hd0, rfl⟩)
    · rw [if_neg he, if_neg (show ¬ L.length + 1 = (cOf n l s).T by omega)]
      exact ⟨rfl, rfl, rfl, hu2, hgl2, fun _ => .inl ⟨rfl, by simp only; omega⟩, fun e => by cases e⟩
  · -- the record
    simp only at hr hl hdr hbe
    subst hr
    obtain ⟨hT, hG, hch, hsz⟩ := h.picks hd hg rfl (by show (2 : Int) ≠ 1; decide)
    simp only at hT hG hch hsz
    have hlt : next < size := by
      rcases hway with ⟨a, _⟩ | ⟨a, _⟩ | ⟨_, a, _⟩
      · exact absurd a (by decide)
      · exact absurd a (by decide)
      · exact a
    rw [if_pos rfl, if_neg (show ¬ L.length + 1 ≤ (cOf n l s).T by omega), if_pos (show (L.length : Int) + 1 ≤ (cOf n l s).T + sizeR n l s (gensR n (cOf n l s).ix L) by rw [hsz]; omega)]
    have hgl2 : ∀ k, k < (cOf n l s).T → k < (L ++ [v]).length → nth gl k = nth (L ++ [v]) k / 2 := by
      intro k hk _
      rw [nth_push_lt v (by omega)]
      exact hgl k hk (by omega)
    have hd2 : (L ++ [v]).drop (cOf n l s).T = words ++ [v] := by rw [drop_push v hT, hdr]
    have hwl : (words.length : Int) = next := by
      have h9 := congrArg List.length hdr
      rw [List.length_drop] at h9
      omega
    unfold pRecord
    simp only
    by_cases he : next + 1 = size
    · rw [if_pos he]
      refine ⟨rfl, rfl, rfl, hu2, hgl2, fun _ => .inr (.inr ⟨rfl, by simp only [List.length_append, List.length_cons, List.length_nil]; omega, ?_, hbe⟩), fun e => by cases e⟩
      simp only
      rw [hd2, List.take_of_length_le (by simp only [List.length_append, List.length_cons, List.length_nil]; omega)]
    · rw [if_neg he]
      exact ⟨rfl, rfl, rfl, hu2, hgl2, fun _ => .inr (.inl ⟨rfl, by simp only [List.length_append, List.length_cons, List.length_nil]; omega, hd2, hbe⟩), fun e => by cases e⟩
  · -- the second round
    simp only at hr hl hdr hbe
    subst hr
    obtain ⟨hT, hG, hch, hsz⟩ := h.picks hd hg rfl (by show (3 : Int) ≠ 1; decide)
    simp only at hT hG hch hsz
    have hs2 := (hch.size hd.c)
    simp only at hs2
    have hlt : next < (cOf n l s).T := by
      rcases hway with ⟨a, _⟩ | ⟨_, a, _⟩ | ⟨a, _⟩
      · exact absurd a (by decide)
      · exact a
      · exact absurd a (by decide)
    rw [if_neg (by decide), if_pos rfl, if_neg (show ¬ L.length + 1 ≤ (cOf n l s).T by omega), if_neg (show ¬ (L.length : Int) + 1 ≤ (cOf n l s).T + sizeR n l s (gensR n (cOf n l s).ix L) by rw [hsz]; omega)]
    rw [hsz, show ((L.length : Int) - (cOf n l s).T - size) = next by omega]
    have hgk : nth gl next.toNat = nth L next.toNat / 2 := hgl _ (by omega) (by omega)
    have hgl2 : ∀ k, k < (cOf n l s).T → k < (L ++ [v]).length → nth gl k = nth (L ++ [v]) k / 2 := by
      intro k hk _
      rw [nth_push_lt v (by omega)]
      exact hgl k hk (by omega)
    have hd2 : ((L ++ [v]).drop (cOf n l s).T).take size.toNat = words := by rw [drop_push v hT, take_push v (by rw [List.length_drop]; omega)]; exact hdr
    unfold pSecond
    simp only
    rw [hgk]
    by_cases hk : v / 2 = nth L next.toNat / 2
    · rw [if_pos hk, if_pos hk]
      by_cases he : next + 1 = (cOf n l s).T
      · rw [if_pos he, if_pos (show next = ((cOf n l s).T : Int) - 1 by omega)]
        unfold finishP
        exact ⟨rfl, rfl, rfl, hu2, hgl2, (fun e => by cases e), fun _ => ⟨by simp only [List.length_append, List.length_cons, List.length_nil]; omega, hd2, hbe⟩⟩
      · rw [if_neg he, if_neg (show ¬ next = ((cOf n l s).T : Int) - 1 by omega)]
        exact ⟨rfl, rfl, rfl, hu2, hgl2, fun _ => .inr (.inr ⟨rfl, by simp only [List.length_append, List.length_cons, List.length_nil]; omega, hd2, hbe⟩), fun e => by cases e⟩
    · rw [if_neg hk, if_neg hk]
      have hn0 : ∀ v ∈ ([] : List Int), 0 ≤ v ∧ v ≤ 18446744073709551615 := fun v hv => by cases hv
      have hg0 : ∀ k, k < (cOf n l s).T → k < ([] : List Int).length → nth gl k = nth [] k / 2 := fun k _ hk => by simp at hk
      by_cases he : left - 1 = 0
      · rw [if_pos he, if_pos he]
        exact ⟨rfl, rfl, rfl, hn0, hg0, (fun e => by cases e), fun e => by cases e⟩
      · rw [if_neg he, if_neg he]
        exact ⟨rfl, rfl, rfl, hn0, hg0, fun _ => .inl ⟨rfl, rfl⟩, fun e => by cases e⟩
theorem DocRel.zero {tries : Int} : DocRel n l s (x0F n l s tries) ⟨tries, 0, 0, 0, []⟩ :=
  ⟨rfl, rfl, rfl, (fun v hv => by cases hv), (fun k _ hk => absurd hk (Nat.not_lt_zero k)), (fun _ => .inl ⟨rfl, rfl⟩), (fun e => by cases e)⟩
/-- what is told of one that is done -/
theorem DocRel.done (h : DocRel n l s x y) (hd : DocOk n m l s od) (hg : PGood (cOf n l s) (fun i => (l i).cur) x M) (hh : x.how = 1) :
    gensR n (cOf n l s).ix y.L = gensL (cOf n l s) x.gl ∧ pickR n l (gensL (cOf n l s) x.gl) = x.pick ∧ pickG n l (gensL (cOf n l s) x.gl) = x.gen ∧ y.at_ = x.begun ∧
    (cOf n l s).T ≤ y.L.length ∧ y.L.length ≤ 100 ∧ ((y.L.length : Int) = 2 * (cOf n l s).T + x.size ∧ 0 ≤ x.size) ∧ (y.L.drop (cOf n l s).T).take (y.L.length - (cOf n l s).T - (cOf n l s).T) = x.words ∧
    ∀ i, i < n → behR n l (gensL (cOf n l s) x.gl) i = x.cu i := by
  obtain ⟨hl, hdr, hbe⟩ := h.fin hh
  obtain ⟨hcu, hch, hwl⟩ := hg.fin hh
  have hs2 := (hch.size hd.c)
  simp only at hs2
  have hT8 := hd.T8
  have hG := h.gens hd (by omega)
  have hpk : pickR n l (gensL (cOf n l s) x.gl) = x.pick := by
    have := pickR_eq n l s (x := { x with cu := fun i => (l i).cur }) rfl
    rw [← hch.pick] at this
    exact this
  refine ⟨hG, hpk, ?_, hbe, by omega, by omega, ⟨hl, hs2.1⟩, ?_, fun i hi => ?_⟩
  · exact pickG_eq (n := n) (m := m) (l := l) (s := s) (x := { x with cu := fun i => (l i).cur }) hch hd.c hg.cur hg.gl hg.glen rfl
  · rw [show y.L.length - (cOf n l s).T - (cOf n l s).T = x.size.toNat by omega]
    exact hdr
  · have hgi := hg.gl _ (nth_mem (i := (cOf n l s).ix i) (by rw [hg.glen]; exact (hd.c.ix i hi).1))
    obtain ⟨hr, ho⟩ := hg.cur i hi
    try simp only at hr ho
    rw [hcu]
    unfold behR curF
    try simp only
    rw [hpk, gensL_nth _ _ (show i < (cOf n l s).n from hi)]
    by_cases e : (i : Int) = x.pick
    · rw [if_pos e, if_pos e]
      have hp := hch.pick
      simp only at hp
      have e2 := e
      rw [hp] at e2
      have hb := best_has ((cOf n l s).sub (fun i => (l i).cur)) (gensL (cOf n l s) x.gl) n (show 0 ≤ pickF (cOf n l s) { x with cu := fun i => (l i).cur } by omega)
      have hbi : (best ((cOf n l s).sub (fun i => (l i).cur)) (gensL (cOf n l s) x.gl) n).toNat = i := by
        have : best ((cOf n l s).sub (fun i => (l i).cur)) (gensL (cOf n l s) x.gl) n = (i : Int) := e2.symm
        rw [this, Int.toNat_natCast]
      rw [hbi, gensL_nth _ _ (show i < (cOf n l s).n from hi)] at hb
      simp only [PC.sub] at hb
      unfold takeC takeE
      rw [if_pos (mayE_yes hr hgi.2), if_neg hb, if_pos rfl]
      unfold bumpR
      have h1 := (seen_ok hr ho hgi.1 hgi.2).next
      have h3 : (Queue.seen (l i).cur (nth x.gl ((cOf n l s).ix i))).next ≤ nth x.gl ((cOf n l s).ix i) := by omega
      rw [show IntKind.u64.wrap ((Queue.seen (l i).cur (nth x.gl ((cOf n l s).ix i))).next + 1) = (Queue.seen (l i).cur (nth x.gl ((cOf n l s).ix i))).next + 1 by
        rw [IntKind.wrap_u64]
        omega]
    · rw [if_neg e, if_neg e]
      unfold seeC
      rw [if_pos (mayE_yes hr hgi.2)]
end
end Go.Proofs.Ythcaagkgddeabaa.Bank
namespace Go.Proofs.Ythcaagkgddeabaa.Bank
set_option linter.unusedVariables false
set_option linter.unusedSimpArgs false
open Go Go.RowKit Go.Proofs.Ythcaagkgddeabaa.Base Go.Deep Go.ChangeShapes Go.WideShapes Go.Proofs.Ythcaagkgddeabaa.Queue
/-- the document's poll in memory, all that it holds named -/
structure RB (w : World) (lam : Nat → Nat) (tag f N n : Nat) (l : Nat → Queue.Sub) (s : Nat → Spot) (od : Nat → Nat) (y : RS) (B sb sc pb pc ob oc : Nat) (lv : Value) : Prop where
  box : Blk w f 86 (rocs sb sc pb pc ob oc n (cOf n l s).T y.tries lv y.how y.steps y.at_)
  subs : SubsIn w sb n l
  spots : SpIn w pb n s
  order : IdxIn w ob (cOf n l s).T od
  own : OwnL w B lv y.L
  apart : f ≠ sb ∧ f ≠ pb ∧ f ≠ ob ∧ f < B ∧ sb < B ∧ pb < B ∧ ob < B ∧ N ≤ B
  lo : B ≤ w.heap.size
  mark : lam f = tag ∧ lam sb = tag ∧ lam pb = tag ∧ lam ob = tag
  mine : ∀ k, lv.ownBlock = some k → lam k = tag
def RLive (w : World) (lam : Nat → Nat) (tag f N n : Nat) (l : Nat → Queue.Sub) (s : Nat → Spot) (od : Nat → Nat) (y : RS) : Prop := ∃ B sb sc pb pc ob oc lv, RB w lam tag f N n l s od y B sb sc pb pc ob oc lv
section
variable {w w' : World} {lam lam' : Nat → Nat} {tag f N n m B sb sc pb pc ob oc : Nat} {l : Nat → Queue.Sub} {s : Nat → Spot} {od : Nat → Nat} {y : RS} {lv : Value}
theorem RB.ex {T : Nat → Prop} (h : RB w lam tag f N n l s od y B sb sc pb pc ob oc lv) (p : Ex T w w') (hT : ∀ k, T k → lam k ≠ tag) : RB w' lam tag f N n l s od y B sb sc pb pc ob oc lv :=
  ⟨h.box.ex p (fun t => hT _ t h.mark.1), h.subs.ex p (fun t => hT _ t h.mark.2.1), h.spots.ex p (fun t => hT _ t h.mark.2.2.1), h.order.ex p (fun t => hT _ t h.mark.2.2.2), h.own.ex p (fun k hk _ t => hT _ t (h.mine k hk)), h.apart, Nat.le_trans h.lo p.size, h.mark, h.mine⟩
theorem RB.bl (h : RB w lam tag f N n l s od y B sb sc pb pc ob oc lv) (p : Below w.heap.size w w') : RB w' lam tag f N n l s od y B sb sc pb pc ob oc lv := h.ex (T := fun _ => False) (Ex.of_below p) (fun _ h => h.elim)
theorem RB.relam (h : RB w lam tag f N n l s od y B sb sc pb pc ob oc lv) (e : ∀ k, k < w.heap.size → lam' k = lam k) : RB w lam' tag f N n l s od y B sb sc pb pc ob oc lv :=
  ⟨h.box, h.subs, h.spots, h.order, h.own, h.apart, h.lo, ⟨(e _ h.box.lt).trans h.mark.1, (e _ h.subs.lt).trans h.mark.2.1, (e _ h.spots.lt).trans h.mark.2.2.1, (e _ h.order.lt).trans h.mark.2.2.2⟩, fun k hk => (e _ (World.ownsRow.lt h.own k hk).2).trans (h.mine k hk)⟩
theorem RB.live (h : RB w lam tag f N n l s od y B sb sc pb pc ob oc lv) : RLive w lam tag f N n l s od y := ⟨_, _, _, _, _, _, _, _, h⟩
theorem RLive.ex {T : Nat → Prop} (h : RLive w lam tag f N n l s od y) (p : Ex T w w') (hT : ∀ k, T k → lam k ≠ tag) : RLive w' lam tag f N n l s od y := by
  obtain ⟨_, _, _, _, _, _, _, _, h⟩ := h
  exact (h.ex p hT).live
theorem RLive.bl (h : RLive w lam tag f N n l s od y) (p : Below w.heap.size w w') : RLive w' lam tag f N n l s od y := h.ex (T := fun _ => False) (Ex.of_below p) (fun _ h => h.elim)
theorem RLive.relam (h : RLive w lam tag f N n l s od y) (e : ∀ k, k < w.heap.size → lam' k = lam k) : RLive w lam' tag f N n l s od y := by
  obtain ⟨_, _, _, _, _, _, _, _, h⟩ := h
  exact (h.relam e).live
theorem RLive.lt (h : RLive w lam tag f N n l s od y) : f < w.heap.size := by
  obtain ⟨_, _, _, _, _, _, _, _, h⟩ := h
  exact h.box.lt
end
theorem RLive.begin (f sb sc pb pc ob oc n : Nat) (lam : Nat → Nat) (tag : Nat) {l : Nat → Queue.Sub} {s : Nat → Spot} {od : Nat → Nat} {tries : Int} {w w' : World}
    (hb : Blk w' f 86 (rocs sb sc pb pc ob oc n (cOf n l s).T tries (.slice none 0 0) 0 0 0)) (hs : SubsIn w' sb n l) (hp : SpIn w' pb n s) (ho : IdxIn w' ob (cOf n l s).T od) (hl : w.heap.size ≤ sb ∧ sb < pb ∧ pb < f ∧ f < ob) :
    RLive w' (lamN lam w.heap.size tag) tag f w.heap.size n l s od ⟨tries, 0, 0, 0, []⟩ := by
  have h1 := hb.lt
  have h2 := hs.lt
  have h3 := hp.lt
  have h4 := ho.lt
  exact ⟨w'.heap.size, sb, sc, pb, pc, ob, oc, .slice none 0 0, hb, hs, hp, ho, OwnL.nil _ _, by omega, Nat.le_refl _, ⟨lamN_ge (by omega), lamN_ge (by omega), lamN_ge (by omega), lamN_ge (by omega)⟩, fun k hk => by simp [Value.ownBlock] at hk⟩
set_option maxRecDepth 100000 in
theorem RS_done (f sb sc pb pc ob oc n T : Nat) (lv v : Value) (tries how steps at_ : Int) (w : World) (hb : Blk w f 86 (rocs sb sc pb pc ob oc n T tries lv how steps at_)) (hh : how ≠ 0) :
    Calls Try.prog 31 #[.pointer (some ⟨f, 0, none⟩), v] w fun e w' => e = .returned (.bool false) ∧ w = w' := by
  have q0 := hb.cell 0
  have q5 := hb.cell 5
  simp only [rocs, List.getElem?_toArray, List.getElem?_cons_succ, List.getElem?_cons_zero] at q0 q5
  have kh : (how != 0) = true := by simpa using hh
  clear hb hh
  go_enter Try.func31, Try.ntmps31
  go_wp2_with fail
  go_ret
  exact ⟨rfl, rfl⟩
/-- whether a step of the document's poll loads a word -/
def rDid (T n : Nat) (l : Nat → Queue.Sub) (s : Nat → Spot) (od ix : Nat → Nat) (ws : List Int) (y : RS) : Bool := decide (y.how = 0) && decide (inW ws (rAt T n l s od ix y))
set_option maxHeartbeats 2000000 in
theorem RLStep_any (lam : Nat → Nat) (tag f N nb n m : Nat) (l : Nat → Queue.Sub) (s : Nat → Spot) (od : Nat → Nat) (ws : List Int) (x : PX) (y : RS) (M : Int) (w : World) (ho : RLive w lam tag f N n l s od y) (hd : DocOk n m l s od) (hg : PGood (cOf n l s) (fun i => (l i).cur) x M) (hM : M ≤ 1099511627776) (hr : DocRel n l s x y) (hnow : URow w nb ws) (hnb : lam nb ≠ tag) (hN : nb < N) (hws : ∀ v ∈ ws, 0 ≤ v ∧ v ≤ 18446744073709551615) :
    Calls Try.prog 31 #[.pointer (some ⟨f, 0, none⟩), .slice (some ⟨nb, 0, none⟩) ws.length ws.length] w fun e w' => e = .returned (.bool (rDid (cOf n l s).T n l s od (cOf n l s).ix ws y)) ∧ RLive w' (lamN lam w.heap.size tag) tag f N n l s od (rStepF (cOf n l s).T n l s od (cOf n l s).ix ws y) ∧ Ex (fun k => lam k = tag) w w' := by
  obtain ⟨B, sb, sc, pb, pc, ob, oc, lv, h⟩ := ho
  by_cases hh : y.how = 0
  case neg =>
    have er : rStepF (cOf n l s).T n l s od (cOf n l s).ix ws y = y := if_pos hh
    have ed : rDid (cOf n l s).T n l s od (cOf n l s).ix ws y = false := by unfold rDid; rw [decide_eq_false hh]; rfl
    rw [er, ed]
    refine (RS_done f sb sc pb pc ob oc n _ lv _ _ _ _ _ w h.box hh).mono ?_
    rintro e w' ⟨rfl, rfl⟩
    exact ⟨rfl, (h.relam (fun k hk => lamN_lt hk)).live, Ex.refl _ _⟩
  have hx : x.how = 0 := hr.how.symm.trans hh
  obtain ⟨hat, hm, h100⟩ := hr.at_ hd hg hx
  obtain ⟨tries, how, steps, at_, L⟩ := y
  simp only at hh
  subst hh
  have hap := h.apart
  have hst := hg.st
  have hle := hg.left
  have e1 := hr.steps
  have e2 := hr.tries
  simp only at e1 e2 hm h100
  have ne2 : f ≠ nb := fun e => hnb (e ▸ h.mark.1)
  have hT8 := hd.T8
  have hn8 := hd.n8
  refine (RStep_mem B f sb sc pb pc ob oc n (cOf n l s).T nb lv tries steps at_ l s od (cOf n l s).ix L ws w h.box h.subs h.spots h.order h.own hnow (by omega) h.lo (by omega) (by omega) (by omega) (fun k hk => (hd.od k hk).1) (OrdL.index hd.c hd.od) hr.u hws (fun i hi => ⟨(hd.fits.2.2 i hi).2.2.1, hd.ok i hi⟩) (fun i hi => (hd.fits.2.2 i hi).1) hm (by omega) (by omega)).mono ?_
  rintro e w' ⟨rfl, lv', hb, hown, hob, hx'⟩
  have hx2 : Ex (fun k => lam k = tag) w w' := hx'.mono (fun k hk => by
    rcases hk with rfl | hk
    · exact h.mark.1
    · exact h.mine k hk)
  have nf : ∀ k, k ≠ f → k < B → ¬ (k = f ∨ lv.ownBlock = some k) := fun k h1 h2 h3 => by
    rcases h3 with h3 | h3
    · exact h1 h3
    · have := (World.ownsRow.lt h.own k h3).1; omega
  refine ⟨rfl, ⟨B, sb, sc, pb, pc, ob, oc, lv', hb, h.subs.ex hx' (nf _ (by omega) (by omega)), h.spots.ex hx' (nf _ (by omega) (by omega)), h.order.ex hx' (nf _ (by omega) (by omega)), hown, hap, Nat.le_trans h.lo hx'.size, ?_, fun k hk => ?_⟩, hx2⟩
  · have h1 := h.lo
    exact ⟨(lamN_lt (by omega)).trans h.mark.1, (lamN_lt (by omega)).trans h.mark.2.1, (lamN_lt (by omega)).trans h.mark.2.2.1, (lamN_lt (by omega)).trans h.mark.2.2.2⟩
  · rcases hob k hk with h1 | h1
    · rw [lamN_lt (World.ownsRow.lt h.own k h1).2]; exact h.mine k h1
    · exact lamN_ge h1
section
variable {w : World} {lam : Nat → Nat} {tag f N n m B sb sc pb pc ob oc : Nat} {l : Nat → Queue.Sub} {s : Nat → Spot} {od : Nat → Nat} {x : PX} {y : RS} {lv : Value} {M : Int}
theorem RB.ints (h : RB w lam tag f N n l s od y B sb sc pb pc ob oc lv) (hl : y.L.length ≤ 100) : Ints w .u64 lv y.L := h.own.ints (by unfold maxLen; omega)
theorem RB.pick (h : RB w lam tag f N n l s od y B sb sc pb pc ob oc lv) (hd : DocOk n m l s od) (hg : PGood (cOf n l s) (fun i => (l i).cur) x M) (hr : DocRel n l s x y) (hh : x.how = 1) :
    Calls Try.prog 32 #[.pointer (some ⟨f, 0, none⟩)] w fun e w' => e = .returned (.tuple #[.int .i64 x.pick, .int .u64 x.gen]) ∧ Below w.heap.size w w' := by
  obtain ⟨hG, hp, hge, hb, hT, h100, _, _, _⟩ := hr.done hd hg hh
  have hn8 := hd.n8
  have hT8 := hd.T8
  have := RPick_any f sb sc pb pc ob oc n (cOf n l s).T lv y.tries y.how y.steps y.at_ l od (cOf n l s).ix y.L w h.box h.subs h.order (h.ints h100) (by omega) ⟨hT, by omega⟩ (fun k hk => (hd.od k hk).1) (OrdL.index hd.c hd.od) hr.u (fun i hi => ⟨(hd.fits.2.2 i hi).2.2.1, hd.ok i hi⟩)
  rw [hG, hp, hge] at this
  exact this
theorem RB.gens (h : RB w lam tag f N n l s od y B sb sc pb pc ob oc lv) (hd : DocOk n m l s od) (hg : PGood (cOf n l s) (fun i => (l i).cur) x M) (hr : DocRel n l s x y) (hh : x.how = 1) :
    Calls Try.prog 35 #[.pointer (some ⟨f, 0, none⟩)] w fun e w' => ∃ r, e = .returned (.slice (some ⟨r, 0, none⟩) n n) ∧ w.heap.size ≤ r ∧ URow w' r (gensL (cOf n l s) x.gl) ∧ Below w.heap.size w w' := by
  obtain ⟨hG, hp, hge, hb, hT, h100, _, _, _⟩ := hr.done hd hg hh
  have hn8 := hd.n8
  have hT8 := hd.T8
  have := RGens_any f sb sc pb pc ob oc n (cOf n l s).T lv y.tries y.how y.steps y.at_ l od (cOf n l s).ix y.L w h.box h.subs h.order (h.ints h100) (by omega) ⟨hT, by omega⟩ (fun k hk => (hd.od k hk).1) (OrdL.index hd.c hd.od) hr.u
  rw [hG] at this
  exact this
theorem RB.behind (h : RB w lam tag f N n l s od y B sb sc pb pc ob oc lv) (hd : DocOk n m l s od) (hg : PGood (cOf n l s) (fun i => (l i).cur) x M) (hr : DocRel n l s x y) (hh : x.how = 1) :
    Calls Try.prog 34 #[.pointer (some ⟨f, 0, none⟩)] w fun e w' => ∃ r c, e = .returned (.slice (some ⟨r, 0, none⟩) n c) ∧ SubsIn w' r n ((cOf n l s).sub x.cu) ∧ w.heap.size ≤ r ∧ Below w.heap.size w w' := by
  obtain ⟨hG, hp, hge, hb, hT, h100, _, _, hcu⟩ := hr.done hd hg hh
  have hn8 := hd.n8
  have hT8 := hd.T8
  refine (RBehind_any f sb sc pb pc ob oc n (cOf n l s).T lv y.tries y.how y.steps y.at_ l od (cOf n l s).ix y.L w h.box h.subs h.order (h.ints h100) (by omega) (by have := hd.fits.1; omega) ⟨hT, by omega⟩ (fun k hk => (hd.od k hk).1) (OrdL.index hd.c hd.od) hr.u (fun i hi => ⟨(hd.fits.2.2 i hi).2.2.1, hd.ok i hi⟩)).mono ?_
  rintro e w' ⟨r, c, rfl, hs, hr2, hb2⟩
  refine ⟨r, c, rfl, hs.congr (fun i hi => ?_), hr2, hb2⟩
  rw [hG]
  show (⟨(l i).topic, (l i).rank, behR n l (gensL (cOf n l s) x.gl) i⟩ : Queue.Sub) = ⟨(l i).topic, (l i).rank, x.cu i⟩
  rw [hcu i hi]
end
theorem mayF_in {n m : Nat} {l : Nat → Queue.Sub} {s : Nat → Spot} {tries : Int} (h : Fits n m l s) (ht : 1 ≤ tries ∧ tries ≤ 16) : mayF n m l s tries = 0 := by unfold mayF; rw [if_pos h, if_pos ht]
/-- a poll that may not be: what the program tells, and that it is no OK -/
theorem PNew_out (v1 v2 : Value) (n m : Nat) (l : Nat → Queue.Sub) (s : Nat → Spot) (tries : Int) (w : World) (hl : SubsC w v1 n l) (hs : Sps w v2 m s) (h : ¬ (Fits n m l s ∧ 1 ≤ tries ∧ tries ≤ 16)) :
    Calls Try.prog 15 #[v1, v2, .int .i64 tries] w fun e w' => e = .returned (.tuple #[.pointer none, .int .i64 (mayF n m l s tries)]) ∧ Below w.heap.size w w' := by
  by_cases hf : Fits n m l s
  · have ht : ¬ (1 ≤ tries ∧ tries ≤ 16) := fun h2 => h ⟨hf, h2⟩
    rw [show mayF n m l s tries = 10 by unfold mayF; rw [if_pos hf, if_neg ht]]
    exact PNew_range v1 v2 n m l s tries w hl hs hf ht
  · rw [show mayF n m l s tries = 1 by unfold mayF; rw [if_neg hf]]
    exact PNew_unfit v1 v2 n m l s tries w hl hs hf
theorem mayF_out {n m : Nat} {l : Nat → Queue.Sub} {s : Nat → Spot} {tries : Int} (h : ¬ (Fits n m l s ∧ 1 ≤ tries ∧ tries ≤ 16)) : mayF n m l s tries ≠ 0 := by
  unfold mayF
  by_cases hf : Fits n m l s
  · rw [if_pos hf, if_neg (fun h2 => h ⟨hf, h2⟩)]; decide
  · rw [if_neg hf]; decide
end Go.Proofs.Ythcaagkgddeabaa.Bank
