/-
  PollMoments, walked. Printed by wip/tools/mkpmh.py. Conditions stand at each. By an AI agent.
-/
import Derived.Test.YthcaagkgddeabaaPmG
import Derived.Maps.AppendAt
import Derived.Test.YthcaagkgddeabaaPoV
import Derived.Deep.CutRange
import Derived.Deep.CutBlock
namespace Go.Proofs.Ythcaagkgddeabaa.Bank
set_option linter.unusedVariables false
set_option linter.unusedSimpArgs false
open Go Go.RowKit Go.Proofs.Ythcaagkgddeabaa.Base Go.Deep Go.ChangeShapes Go.WideShapes Go.Proofs.Ythcaagkgddeabaa.Queue
theorem half_div (k : Nat) : ((k : Int)) / 2 = ((k / 2 : Nat) : Int) := by omega
theorem half_tdiv (k : Nat) : ((k : Int)).tdiv 2 = ((k / 2 : Nat) : Int) := by rw [Int.tdiv_eq_ediv_of_nonneg (by omega)]; omega
theorem small_wraps {k : Nat} (h : k < 4) : IntKind.u64.wrap (wrap64 ((k / 2 : Nat) : Int)) = ((k / 2 : Nat) : Int) := by
  rw [wrap64_in _ (by omega), IntKind.wrap_u64]; omega
/-- how the subscriptions begin -/
def cu9 (a : MT) (j : Nat) : Cur := ⟨1, a.rm j, 0, 0⟩
def sbV (s : Queue.Sub) : List Value := [.int .i64 s.topic, .int .i64 s.rank, .int .u64 s.cur.next, .int .i64 s.cur.cap, .int .u64 s.cur.got, .int .u64 s.cur.lost]
def topV (a : MT) : Array Value := #[.int .i64 (a.W 0), .int .i64 (a.D 0), .int .i64 (a.rk 0), .int .i64 (a.rk 1), .int .i64 (a.rm 0), .int .i64 (a.rm 1), .int .i64 (a.W 1), .int .i64 (a.D 1), .int .i64 (a.rk 2), .int .i64 (a.rk 3), .int .i64 (a.rm 2), .int .i64 (a.rm 3)]
structure TopIn (w : World) (tb : Nat) (a : MT) : Prop where
  box : Blk w tb 54 (topV a)
theorem TopIn.top {w : World} {tb : Nat} {a : MT} (h : TopIn w tb a) {k : Nat} (hk : k < 2) : w.cell? ⟨tb, k * 6, none⟩ = some (.int .i64 (a.W k)) ∧ w.cell? ⟨tb, k * 6 + 1, none⟩ = some (.int .i64 (a.D k)) := by
  have h1 : k = 0 ∨ k = 1 := by omega
  rcases h1 with rfl | rfl
  · exact ⟨h.box.cell 0, h.box.cell 1⟩
  · exact ⟨h.box.cell 6, h.box.cell 7⟩
theorem TopIn.sub {w : World} {tb : Nat} {a : MT} (h : TopIn w tb a) {k i : Nat} (hk : k < 2) (hi : i < 2) : w.cell? ⟨tb, k * 6 + 2 + i, none⟩ = some (.int .i64 (a.rk (2 * k + i))) ∧ w.cell? ⟨tb, k * 6 + 4 + i, none⟩ = some (.int .i64 (a.rm (2 * k + i))) := by
  have h1 : k = 0 ∨ k = 1 := by omega
  have h2 : i = 0 ∨ i = 1 := by omega
  rcases h1 with rfl | rfl <;> rcases h2 with rfl | rfl
  · exact ⟨h.box.cell 2, h.box.cell 4⟩
  · exact ⟨h.box.cell 3, h.box.cell 5⟩
  · exact ⟨h.box.cell 8, h.box.cell 10⟩
  · exact ⟨h.box.cell 9, h.box.cell 11⟩
theorem TopIn.ex {T : Nat → Prop} {w w' : World} {tb : Nat} {a : MT} (h : TopIn w tb a) (p : Ex T w w') (hT : ¬ T tb) : TopIn w' tb a := ⟨h.box.ex p hT⟩
theorem TopIn.lt {w : World} {tb : Nat} {a : MT} (h : TopIn w tb a) : tb < w.heap.size := h.box.lt
def spV (s : Spot) : List Value := [.int .i64 s.owners, .int .i64 s.seq, .int .i64 s.first, .int .i64 s.words, .int .i64 s.depth]
def spot0 : Spot := ⟨0, 0, 0, 0, 0⟩
/-- the array of spots: so many are laid -/
def spA (a : MT) (k : Nat) : Array Value := (spV (if 0 < k then spotM a 0 else spot0) ++ spV (if 1 < k then spotM a 1 else spot0)).toArray
theorem spA_cells {w : World} {b : Nat} {t : TypeId} {a : MT} {n k : Nat} (h : Blk w b t (spA a n)) (hk : k < n) (h2 : k < 2) :
    w.cell? ⟨b, k * 5, none⟩ = some (.int .i64 (spotM a k).owners) ∧ w.cell? ⟨b, k * 5 + 1, none⟩ = some (.int .i64 (spotM a k).seq) ∧ w.cell? ⟨b, k * 5 + 2, none⟩ = some (.int .i64 (spotM a k).first) ∧ w.cell? ⟨b, k * 5 + 3, none⟩ = some (.int .i64 (spotM a k).words) ∧ w.cell? ⟨b, k * 5 + 4, none⟩ = some (.int .i64 (spotM a k).depth) := by
  have h1 : k = 0 ∨ k = 1 := by omega
  have e : spA a n = (spV (if 0 < n then spotM a 0 else spot0) ++ spV (if 1 < n then spotM a 1 else spot0)).toArray := rfl
  rw [e, if_pos (show 0 < n by omega)] at h
  rcases h1 with rfl | rfl
  · exact ⟨h.cell 0, h.cell 1, h.cell 2, h.cell 3, h.cell 4⟩
  · rw [if_pos hk] at h
    exact ⟨h.cell 5, h.cell 6, h.cell 7, h.cell 8, h.cell 9⟩
theorem spA_set {w : World} {b : Nat} {t : TypeId} {a : MT} {k : Nat} (h : Blk w b t (spA a k)) (h2 : k < 2) :
    Blk (((((w.setCell ⟨b, k * 5, none⟩ (.int .i64 (spotM a k).owners)).setCell ⟨b, k * 5 + 1, none⟩ (.int .i64 (spotM a k).seq)).setCell ⟨b, k * 5 + 2, none⟩ (.int .i64 (spotM a k).first)).setCell ⟨b, k * 5 + 3, none⟩ (.int .i64 (spotM a k).words)).setCell ⟨b, k * 5 + 4, none⟩ (.int .i64 (spotM a k).depth)) b t (spA a (k + 1)) := by
  have h1 : k = 0 ∨ k = 1 := by omega
  rcases h1 with rfl | rfl
  · exact ((((h.set_ 0 _).set_ 1 _).set_ 2 _).set_ 3 _).set_ 4 _
  · exact ((((h.set_ 5 _).set_ 6 _).set_ 7 _).set_ 8 _).set_ 9 _
theorem spA_zero {w : World} {b : Nat} {t : TypeId} {a : MT} {k : Nat} (h : Blk w b t (spA a k)) (h2 : k < 2) : ∀ j : Nat, j < 5 → w.cell? ⟨b, k * 5 + j, none⟩ = some (.int .i64 0) := by
  intro j hj
  have h1 : k = 0 ∨ k = 1 := by omega
  have hj5 : j = 0 ∨ j = 1 ∨ j = 2 ∨ j = 3 ∨ j = 4 := by omega
  rcases h1 with rfl | rfl
  · rcases hj5 with rfl | rfl | rfl | rfl | rfl
    · exact h.cell 0
    · exact h.cell 1
    · exact h.cell 2
    · exact h.cell 3
    · exact h.cell 4
  · rcases hj5 with rfl | rfl | rfl | rfl | rfl
    · exact h.cell 5
    · exact h.cell 6
    · exact h.cell 7
    · exact h.cell 8
    · exact h.cell 9
theorem lM_sb (a : MT) {k i : Nat} (hi : i < 2) : sbV (lM a (cu9 a) (2 * k + i)) = [.int .i64 (k : Nat), .int .i64 (a.rk (2 * k + i)), .int .u64 1, .int .i64 (a.rm (2 * k + i)), .int .u64 0, .int .u64 0] := by
  unfold sbV lM cu9
  simp only
  rw [show (2 * k + i) / 2 = k by omega]
theorem sM_sp (a : MT) {k i : Nat} (hi : i < 2) : sM a (2 * k + i) = spotM a k := by
  unfold sM
  rw [show (2 * k + i) / 2 = k by omega]
def spCs (l : Nat → Spot) : Nat → List Value
  | 0 => []
  | k + 1 => spCs l k ++ spV (l k)
theorem spCs_len (l : Nat → Spot) (n : Nat) : (spCs l n).length = n * 5 := by
  induction n with
  | zero => rfl
  | succ n ih =>
    unfold spCs
    rw [List.length_append, ih]
    have : (spV (l n)).length = 5 := rfl
    omega
theorem spCs_at (l : Nat → Spot) {k i j : Nat} (hi : i < k) (hj : j < 5) : (spCs l k)[i * 5 + j]? = (spV (l i))[j]? := by
  induction k with
  | zero => omega
  | succ k ih =>
    unfold spCs
    by_cases e : i = k
    · subst e
      rw [List.getElem?_append_right (by rw [spCs_len]; omega), spCs_len]
      rw [show i * 5 + j - i * 5 = j by omega]
    · rw [List.getElem?_append_left (by rw [spCs_len]; omega)]
      exact ih (by omega)
theorem sps_of_cs9 {w : World} {base : Nat} {t : TypeId} {v : Value} {n : Nat} {l : Nat → Spot} (h : w.ownsRow base t 5 v n (spCs l n)) (hl : n ≤ maxLen) : Sps w v n l := by
  rcases h.2 with ⟨rfl, h0⟩ | ⟨g, cap, cur, rfl, hbg, hh, _⟩
  · subst h0
    exact ⟨⟨none, 0, rfl, hl, fun hn => absurd hn (by omega)⟩⟩
  · refine ⟨⟨_, cap, rfl, hl, fun hn => ⟨g, 0, rfl, (World.ownsRow.lt h g rfl).2, fun i hi => ?_⟩⟩⟩
    have e : ∀ j : Nat, j < 5 → ∀ u, (spV (l i))[j]? = some u → w.cell? ⟨g, 0 + i * 5 + j, none⟩ = some u := fun j hj u hu => by
      have h1 := World.ownsRow.cells h (g := g) rfl (i * 5 + j) u ((spCs_at l hi hj).trans hu)
      rw [Addr.add_lit] at h1
      rw [Nat.add_assoc]
      exact h1
    exact ⟨e 0 (by decide) _ rfl, e 1 (by decide) _ rfl, e 2 (by decide) _ rfl, e 3 (by decide) _ rfl, e 4 (by decide) _ rfl⟩
theorem subCs_succ (l : Nat → Queue.Sub) (k : Nat) : subCs l (k + 1) = subCs l k ++ sbV (l k) := by
  refine List.ext_getElem? fun i => ?_
  by_cases h : i < 6 * k
  · rw [List.getElem?_append_left (by rw [subCs_len]; exact h)]
    have e1 := subCs_at l (k := k) (i := i / 6) (j := i % 6) (by omega) (by omega)
    have e2 := subCs_at l (k := k + 1) (i := i / 6) (j := i % 6) (by omega) (by omega)
    rw [show i / 6 * 6 + i % 6 = i by omega] at e1 e2
    rw [e1, e2]
  · rw [List.getElem?_append_right (by rw [subCs_len]; omega), subCs_len]
    by_cases h2 : i < 6 * k + 6
    · have e2 := subCs_at l (k := k + 1) (i := k) (j := i - 6 * k) (by omega) (by omega)
      rw [show k * 6 + (i - 6 * k) = i by omega] at e2
      rw [e2]
      have hj : i - 6 * k = 0 ∨ i - 6 * k = 1 ∨ i - 6 * k = 2 ∨ i - 6 * k = 3 ∨ i - 6 * k = 4 ∨ i - 6 * k = 5 := by omega
      rcases hj with e | e | e | e | e | e <;> rw [e] <;> rfl
    · rw [List.getElem?_eq_none (by rw [subCs_len]; omega), List.getElem?_eq_none (by show 6 ≤ _; omega)]
theorem own_blk_ne {w : World} {b z n g : Nat} {e t : TypeId} {v : Value} {xs : List Value} {cs : Array Value} (h1 : w.ownsRow b e z v n xs) (h2 : Blk w g t cs) (ne : e ≠ t) : v.ownBlock ≠ some g := by
  intro hk
  rcases h1.2 with ⟨rfl, _⟩ | ⟨g', cap, cur, rfl, _, hg, _⟩
  · simp [Value.ownBlock] at hk
  · simp [Value.ownBlock] at hk
    subst hk
    have h3 : w.heap[g']? = some (.cells cs t (0, 0)) := h2
    rw [hg] at h3
    simp at h3
    exact ne h3.2
theorem own_apart9 {w : World} {b b' z z' n n' : Nat} {e e' : TypeId} {v v' : Value} {xs xs' : List Value} (h1 : w.ownsRow b e z v n xs) (h2 : w.ownsRow b' e' z' v' n' xs') (ne : e ≠ e') : ∀ k, v.ownBlock = some k → ¬ v'.ownBlock = some k := by
  intro k hk hk'
  rcases h1.2 with ⟨rfl, _⟩ | ⟨g, cap, cur, rfl, _, hg, _⟩
  · simp [Value.ownBlock] at hk
  · rcases h2.2 with ⟨rfl, _⟩ | ⟨g', cap', cur', rfl, _, hg', _⟩
    · simp [Value.ownBlock] at hk'
    · simp [Value.ownBlock] at hk hk'
      subst hk
      subst hk'
      rw [hg] at hg'
      simp at hg'
      exact ne hg'.2
theorem qNew_any (r : Int) (w : World) : Calls Try.prog 19 #[.int .u64 0, .int .i64 r] w fun e w' => ∃ (cc : Cur) (e9 : Int), e = .returned (.tuple #[cc.val, .int .i64 e9]) ∧ (1 ≤ r ∧ r ≤ 15 → cc = ⟨1, r, 0, 0⟩ ∧ e9 = 0) ∧ Below w.heap.size w w' := by
  by_cases h : 1 ≤ r ∧ r ≤ 15
  · refine (Queue.New_in 0 r (by decide) h.1 h.2 w).mono ?_
    rintro e w' ⟨rfl, hb⟩
    exact ⟨⟨0 + 1, r, 0, 0⟩, 0, rfl, fun _ => ⟨rfl, rfl⟩, hb⟩
  · refine (Queue.New_out 0 r (by decide) (by omega) w).mono ?_
    rintro e w' ⟨rfl, hb⟩
    exact ⟨Cur.zero, 10, rfl, fun h2 => absurd h2 h, hb⟩
def TopOk (a : MT) (k : Nat) : Prop := (1 ≤ a.W k ∧ a.W k ≤ 4) ∧ (2 ≤ a.D k ∧ a.D k ≤ 6)
def SubOk (a : MT) (j : Nat) : Prop := (1 ≤ a.rm j ∧ a.rm j ≤ a.D (j / 2) - 1) ∧ (0 ≤ a.rk j ∧ a.rk j ≤ 255)
theorem spot9_info : (Try.prog.info? 48).map (fun i => (i.zero, i.size, i.bytes)) = some (some (.agg #[.int .i64 0, .int .i64 0, .int .i64 0, .int .i64 0, .int .i64 0]), 5, 40) := by kernel_rfl
theorem sub9_info : (Try.prog.info? 46).map (fun i => (i.zero, i.size, i.bytes)) = some (some (.agg #[.int .i64 0, .int .i64 0, .int .u64 0, .int .i64 0, .int .u64 0, .int .u64 0]), 6, 48) := by kernel_rfl
def teU (q : TE) (j : Nat) (A : Option Addr) (c : Nat) (L : List Int) : TE := ⟨fun z => if z = j then A else q.A z, fun z => if z = j then c else q.c z, fun z => if z = j then L else q.L z⟩
theorem teV_at {w : World} {b : Nat} {t : TypeId} {q : TE} (h : Blk w b t (teV q)) {j : Nat} (hj : j < 4) : w.cell? ⟨b, j, none⟩ = some (.slice (q.A j) (q.L j).length (q.c j)) := by
  rcases (show j = 0 ∨ j = 1 ∨ j = 2 ∨ j = 3 by omega) with rfl | rfl | rfl | rfl
  · exact h.cell 0
  · exact h.cell 1
  · exact h.cell 2
  · exact h.cell 3
theorem teV_set {w : World} {b : Nat} {t : TypeId} {q : TE} (h : Blk w b t (teV q)) {j : Nat} (hj : j < 4) (A : Option Addr) (c : Nat) (L : List Int) : Blk (w.setCell ⟨b, j, none⟩ (.slice A L.length c)) b t (teV (teU q j A c L)) := by
  rcases (show j = 0 ∨ j = 1 ∨ j = 2 ∨ j = 3 by omega) with rfl | rfl | rfl | rfl
  · exact h.set_ 0 _
  · exact h.set_ 1 _
  · exact h.set_ 2 _
  · exact h.set_ 3 _
def teZ : TE := ⟨fun _ => none, fun _ => 0, fun _ => []⟩
def pz : Nat → Pb := fun _ => ⟨0, 0⟩
theorem cu9_curs {a : MT} (ha : a.Ok) : Curs a (cu9 a) (fun k => (pz k).p) := by
  intro j hj
  have h := (ha.sub j hj).1
  have h2 := (ha.top (j / 2) (by omega)).2
  exact ⟨⟨⟨h.1, by show a.rm j ≤ 15; omega⟩, by show (1 : Int) ≤ _; decide⟩, ⟨by show 0 ≤ (1 : Int) ∧ (1 : Int) ≤ _; decide, by show _ ≤ a.rm j ∧ a.rm j ≤ _; omega, by show 0 ≤ (0 : Int) ∧ (0 : Int) ≤ _; decide, by show 0 ≤ (0 : Int) ∧ (0 : Int) ≤ _; decide⟩, rfl, Int.le_refl 1, by show (1 : Int) ≤ 0 + 1; decide⟩
/-- all that holds in plain numbers -/
structure PN (a : MT) (tries : Int) (cu : Nat → Cur) (x : PX) (b : Nat → Pb) (WS : List Int) (q : TE) (ents : List TE) (th : List (Int × Int)) (ends seen i : Int) : Prop where
  tinv : ∀ k : Nat, k < 2 → TInv WS (k : Int) (a.W k) (a.D k) (b k)
  len : WS.length = 60
  gn : ∀ k, k < 2 → (b k).gn ≤ i
  hcu : Curs a cu (fun k => (b k).p)
  prog : Prog a cu tries seen (fun k => (b k).p) x th
  hq : ∀ j, j < 4 → q.L j = qOf (cu j) ((b (j / 2)).p)
  el : ents.length = th.length
  en : ∀ e, e < ents.length → ∀ j, j < 4 → (ents.getD e default).L j = qOf (cu j) (if j / 2 = 0 then (th.getD e (0, 0)).1 else (th.getD e (0, 0)).2)
  hends : ends = (b 0).p + (b 1).p
  hseen : 0 ≤ seen ∧ seen ≤ ends
theorem PN.pb {a : MT} {tries : Int} {cu : Nat → Cur} {x : PX} {b : Nat → Pb} {WS : List Int} {q : TE} {ents : List TE} {th : List (Int × Int)} {ends seen i : Int} (h : PN a tries cu x b WS q ents th ends seen i) (k : Nat) (hk : k < 2) : 0 ≤ (b k).p ∧ (b k).p ≤ i := by
  have h1 := (h.tinv k hk).gn
  have h2 := h.gn k hk
  have h3 := (h.tinv k hk).nx
  unfold Pb.p
  split
  · omega
  · have := h1.2 (by assumption); omega
/-- what a step of publishing leaves, but for the queues -/
theorem PN.pub {a : MT} {tries : Int} {cu : Nat → Cur} {x : PX} {b : Nat → Pb} {WS : List Int} {q q' : TE} {ents : List TE} {th : List (Int × Int)} {ends seen i : Int} (h : PN a tries cu x b WS q ents th ends seen i) (ha : a.Ok) {k : Nat} (hk : k < 2)
    (hq : ∀ j, j < 4 → q'.L j = if j / 2 = k ∧ pubE (a.W k) (b k) = true then pushF (q.L j) ((b k).p + 1) (a.rm j) else q.L j) :
    PN a tries cu x (fun z => if z = k then pubB (a.W k) (b k) else b z) (setF WS (pubAt (k : Int) (a.W k) (a.D k) (b k)) (pubV (k : Int) (a.W k) (b k))) q' ents th (ends + if pubE (a.W k) (b k) = true then 1 else 0) seen (i + 1) := by
  have hat := pubAt_b (h.tinv k hk) (ha.top k hk).1 (ha.top k hk).2
  have hin : inW WS (pubAt (k : Int) (a.W k) (a.D k) (b k)) := by unfold inW; rw [h.len]; omega
  have hpp := pub_p (W := a.W k) (b := b k) (h.tinv k hk).nx.1
  have hp2 : ∀ z, ((fun z => if z = k then pubB (a.W k) (b k) else b z) z).p = if z = k then (b k).p + (if pubE (a.W k) (b k) = true then 1 else 0) else (b z).p := fun z => by
    by_cases e : z = k
    · simp only [if_pos e]; exact hpp
    · simp only [if_neg e]
  have hmono : ∀ z, z < 2 → (b z).p ≤ ((fun z => if z = k then pubB (a.W k) (b k) else b z) z).p := fun z hz => by
    rw [hp2]
    by_cases e : z = k
    · rw [if_pos e, e]; split <;> omega
    · rw [if_neg e]; exact Int.le_refl _
  refine ⟨fun z hz => ?_, ?_, fun z hz => ?_, h.hcu.mono hmono, h.prog.pub hmono, fun j hj => ?_, h.el, h.en, ?_, ?_⟩
  · by_cases e : z = k
    · simp only [if_pos e]
      rw [e]
      exact (h.tinv k hk).pub (ha.top k hk).1 (ha.top k hk).2 hin
    · simp only [if_neg e]
      exact (h.tinv z hz).other (ha.top z hz).1 (ha.top z hz).2 hin (by omega)
  · unfold setF; split <;> simp [h.len]
  · have hg := h.gn z hz
    by_cases e : z = k
    · simp only [if_pos e]
      rw [e] at hg
      unfold pubB
      split
      · show (b k).gn + 1 ≤ i + 1; omega
      · split
        · show (b k).gn ≤ i + 1; omega
        · show (b k).gn ≤ i + 1; omega
    · simp only [if_neg e]; omega
  · rw [hq j hj, hp2, h.hq j hj]
    have hc := h.hcu j hj
    have hrm := (ha.sub j hj).1
    by_cases e : j / 2 = k
    · by_cases e2 : pubE (a.W k) (b k) = true
      · rw [if_pos ⟨e, e2⟩, if_pos e, if_pos e2, e]
        rw [← hc.2.2.1]
        refine qOf_push (by rw [hc.2.2.1]; exact hrm.1) ?_
        have := hc.2.2.2.2
        simp only [e] at this
        exact this
      · rw [if_neg (fun h => e2 h.2), if_pos e, if_neg e2, e, Int.add_zero]
    · rw [if_neg (fun h => e h.1), if_neg e]
  · rw [hp2, hp2, h.hends]
    have hk01 : k = 0 ∨ k = 1 := by omega
    rcases hk01 with rfl | rfl
    · generalize (if pubE (a.W 0) (b 0) = true then (1 : Int) else 0) = z
      show (b 0).p + (b 1).p + z = ((b 0).p + z) + (b 1).p
      omega
    · generalize (if pubE (a.W 1) (b 1) = true then (1 : Int) else 0) = z
      show (b 0).p + (b 1).p + z = (b 0).p + ((b 1).p + z)
      omega
  · have := h.hseen
    split <;> omega
theorem PN.qlen {a : MT} {tries : Int} {cu : Nat → Cur} {x : PX} {b : Nat → Pb} {WS : List Int} {q : TE} {ents : List TE} {th : List (Int × Int)} {ends seen i : Int} (h : PN a tries cu x b WS q ents th ends seen i) (ha : a.Ok) {j : Nat} (hj : j < 4) : (q.L j).length ≤ 100 := by
  have hc := h.hcu j hj
  have hrm := (ha.sub j hj).1
  have hd := (ha.top (j / 2) (by omega)).2
  have := qOf_le (c := cu j) (g := (b (j / 2)).p) (by rw [hc.2.2.1]; exact hrm.1) hc.2.2.2.2
  rw [h.hq j hj]
  rw [hc.2.2.1] at this
  omega
theorem pubE_gn {W : Int} {b : Pb} (h : pubE W b = true) : (pubB W b).gn = b.p + 1 := by
  have h := of_decide_eq_true h
  unfold pubB Pb.p
  rw [if_neg h.1, if_neg h.2, if_neg h.1]
  simp only
  omega
theorem teC_one (q : TE) : ∀ u ∈ teC q, u.oneCell' = true := by
  intro u hu
  simp only [teC, teV, List.mem_cons, List.not_mem_nil, or_false] at hu
  rcases hu with rfl | rfl | rfl | rfl <;> rfl
theorem q4_info : (Try.prog.info? 62).map (fun i => (i.zero, i.size, i.bytes)) = some (some (.agg #[.slice none 0 0, .slice none 0 0, .slice none 0 0, .slice none 0 0]), 4, 96) := by kernel_rfl
theorem mwM_le {a : MT} (ha : a.Ok) : mwM a ≤ 64 := (maxW_range (sM a) 4 (fun i hi => ha.at_ (by omega))).2
theorem most_b {a : MT} (ha : a.Ok) {tries : Int} (ht : 1 ≤ tries ∧ tries ≤ 16) : tries * (4 + mwM a) ≤ 1088 := by
  have h1 := mwM_le ha
  have h2 := mwM_ge (a := a) 0 (by decide)
  have h3 := (ha.top 0 (by decide)).1
  have h4 : tries * (4 + mwM a) ≤ 16 * (4 + mwM a) := Int.mul_le_mul_of_nonneg_right ht.2 (by omega)
  omega
section
variable {a : MT} {tries : Int} {cu : Nat → Cur} {x x1 : PX} {b : Nat → Pb} {WS : List Int} {q q' : TE} {ents : List TE} {th : List (Int × Int)} {ends seen i : Int}
/-- the poll is under way still -/
theorem PN.busy (h : PN a tries cu x b WS q ents th ends seen i) (hp : Prog a cu tries seen (fun k => (b k).p) x1 (th ++ [((b 0).p, (b 1).p)])) : PN a tries cu x1 b WS q (ents ++ [q]) (th ++ [((b 0).p, (b 1).p)]) ends seen (i + 1) := by
  refine ⟨h.tinv, h.len, fun k hk => by have := h.gn k hk; omega, h.hcu, hp, h.hq, by rw [List.length_append, List.length_append, h.el]; rfl, fun e he j hj => ?_, h.hends, h.hseen⟩
  rw [List.length_append] at he
  simp only [List.length_cons, List.length_nil] at he
  have hel := h.el
  rw [List.getD_eq_getElem?_getD, List.getD_eq_getElem?_getD]
  by_cases e1 : e = ents.length
  · rw [e1]
    rw [List.getElem?_append_right (Nat.le_refl _), List.getElem?_append_right (by omega), Nat.sub_self, show ents.length - th.length = 0 by omega]
    simp only [List.getElem?_cons_zero, Option.getD_some]
    rw [h.hq j hj]
    by_cases e2 : j / 2 = 0
    · rw [if_pos e2, e2]
    · rw [if_neg e2, show j / 2 = 1 by omega]
  · rw [List.getElem?_append_left (by omega), List.getElem?_append_left (by omega), ← List.getD_eq_getElem?_getD, ← List.getD_eq_getElem?_getD]
    exact h.en e (by omega) j hj
/-- what was noted right behind a step -/
theorem PN.noted (h : PN a tries cu x b WS q ents th ends seen i) {e : Nat} (he : e < ents.length + 1) {g0 g1 : Int} (hth : thN (th ++ [((b 0).p, (b 1).p)]) (e : Int) = (g0, g1)) {j : Nat} (hj : j < 4) : ((ents ++ [q]).getD e default).L j = qOf (cu j) (if j / 2 = 0 then g0 else g1) := by
  unfold thN at hth
  rw [Int.toNat_natCast] at hth
  have hel := h.el
  rw [List.getD_eq_getElem?_getD] at hth ⊢
  by_cases e1 : e = ents.length
  · rw [e1] at hth ⊢
    rw [List.getElem?_append_right (by omega), show ents.length - th.length = 0 by omega] at hth
    rw [List.getElem?_append_right (Nat.le_refl _), Nat.sub_self]
    simp only [List.getElem?_cons_zero, Option.getD_some] at hth ⊢
    rw [h.hq j hj]
    injection hth with h1 h2
    by_cases e2 : j / 2 = 0
    · rw [if_pos e2, e2, h1]
    · rw [if_neg e2, show j / 2 = 1 by omega, h2]
  · rw [List.getElem?_append_left (by omega), ← List.getD_eq_getElem?_getD] at hth
    rw [List.getElem?_append_left (by omega), ← List.getD_eq_getElem?_getD, h.en e (by omega) j hj, hth]
/-- a new poll -/
theorem PN.anew (h : PN a tries cu x b WS q ents th ends seen i) (ha : a.Ok) (ht : 1 ≤ tries ∧ tries ≤ 16) {cu' : Nat → Cur} (hc : Curs a cu' (fun k => (b k).p)) (hq : ∀ j, j < 4 → q'.L j = qOf (cu' j) ((b (j / 2)).p)) : PN a tries cu' (x0F 4 (lM a cu') (sM a) tries) b WS q' [] [] ends ends (i + 1) :=
  ⟨h.tinv, h.len, fun k hk => by have := h.gn k hk; omega, hc, Prog.zero ha hc ht (by have := h.hends; show ends ≤ (b 0).p + (b 1).p; omega), hq, rfl, fun e he => absurd he (by simp), h.hends, ⟨by have := h.hseen; omega, Int.le_refl _⟩⟩
end
theorem news_blk {w : World} {b : Nat} {t : TypeId} {cs : List Value} (h : Blk w b t cs.toArray) : ∀ j u, cs[j]? = some u → w.cell? ((⟨b, 0, none⟩ : Addr).add j) = some u := by
  intro j u hj
  rw [Addr.add_lit, Nat.zero_add]
  have := h.cell j
  rw [this]
  simpa using hj
theorem sbV_one (s : Queue.Sub) : ∀ u ∈ sbV s, u.oneCell' = true := by
  intro u hu
  simp only [sbV, List.mem_cons, List.not_mem_nil, or_false] at hu
  rcases hu with rfl | rfl | rfl | rfl | rfl | rfl <;> rfl
theorem spV_one (s : Spot) : ∀ u ∈ spV s, u.oneCell' = true := by
  intro u hu
  simp only [spV, List.mem_cons, List.not_mem_nil, or_false] at hu
  rcases hu with rfl | rfl | rfl | rfl | rfl <;> rfl
set_option maxRecDepth 100000 in
set_option maxHeartbeats 30000000 in
theorem PollMoments_walk (a : MT) (tries : Int) (v2 : Value) (pk : List Int) (w : World) (hpk : Ints w .i64 v2 pk) :
    Calls Try.prog 4 #[.agg (topV a), .int .i64 tries, v2] w fun e w' => e = .returned (.bool true) ∧ Below w.heap.size w w' := by
  obtain ⟨A3, c3, rfl, hnp, hf3⟩ := hpk.form
  obtain ⟨np, hnpe⟩ : ∃ np, pk.length = np := ⟨_, rfl⟩
  have HNE := Lib.hid hnpe
  rw [hnpe] at hnp ⊢
  have HF3 := Lib.hid hf3
  clear hnpe hnp
  have HPK := Lib.hid hpk
  clear hpk hf3
  have L0 := Lib.hid (Below.refl w.heap.size w)
  go_enter Try.func4, Try.ntmps4
  go_upto_region 1 with fail
  have hn : Blk (w.alloc (.cells (topV a) 54)) w.heap.size 54 (topV a) := Blk.new w 54 (topV a)
  obtain ⟨tb, hnb⟩ : ∃ tb, w.heap.size = tb := ⟨_, rfl⟩
  have hlo_ : w.heap.size ≤ tb := Nat.le_of_eq hnb
  simp only [hnb] at hn ⊢
  have ORD1 := Lib.hid (show w.heap.size ≤ tb from by exact hlo_)
  have ee : Ex (fun _ => False) w (w.alloc (.cells (topV a) 54)) := (Ex.refl _ w).alloc (.cells (topV a) 54)
  have L2 := Lib.hid (Ex.below L0.out ee (fun k hk => hk.elim))
  have T2 := Lib.hid ((⟨hn⟩ : TopIn _ tb a))
  clear ee L0 hn hnb hlo_
  generalize w.alloc (.cells (topV a) 54) = w1 at *
  by_cases h1 : 1 ≤ tries
  rotate_left
  · have kh1 : decide (tries < 1) = true := decide_eq_true (by omega)
    clear h1
    go_wp2_with fail
    clear kh1
    refine (awake_any w1).mono ?_; rintro e wz ⟨rfl, hbz⟩
    have ee : Ex (fun _ => False) w1 wz := Ex.of_below hbz
    have L3 := Lib.hid (Ex.below L2.out ee (fun k hk => hk.elim))
    have T3 := Lib.hid (T2.out.ex ee (fun h => h))
    clear ee L2 T2 hbz
    go_wp2_with fail
    go_ret
    exact ⟨rfl, L3.out⟩
  by_cases h2 : tries ≤ 16
  rotate_left
  · have kh1 : decide (tries < 1) = false := decide_eq_false (by omega)
    have kh2 : decide (tries > 16) = true := decide_eq_true (by omega)
    clear h1 h2
    go_wp2_with fail
    clear kh1 kh2
    refine (awake_any w1).mono ?_; rintro e wz ⟨rfl, hbz⟩
    have ee : Ex (fun _ => False) w1 wz := Ex.of_below hbz
    have L3 := Lib.hid (Ex.below L2.out ee (fun k hk => hk.elim))
    have T3 := Lib.hid (T2.out.ex ee (fun h => h))
    clear ee L2 T2 hbz
    go_wp2_with fail
    go_ret
    exact ⟨rfl, L3.out⟩
  by_cases h3 : np ≤ 400
  rotate_left
  · have kh1 : decide (tries < 1) = false := decide_eq_false (by omega)
    have kh2 : decide (tries > 16) = false := decide_eq_false (by omega)
    have kh3 : decide ((np : Int) > 400) = true := decide_eq_true (by omega)
    clear h1 h2 h3
    go_wp2_with fail
    clear kh1 kh2 kh3
    refine (awake_any w1).mono ?_; rintro e wz ⟨rfl, hbz⟩
    have ee : Ex (fun _ => False) w1 wz := Ex.of_below hbz
    have L3 := Lib.hid (Ex.below L2.out ee (fun k hk => hk.elim))
    have T3 := Lib.hid (T2.out.ex ee (fun h => h))
    clear ee L2 T2 hbz
    go_wp2_with fail
    go_ret
    exact ⟨rfl, L3.out⟩
  have kh1 : decide (tries < 1) = false := decide_eq_false (by omega)
  have kh2 : decide (tries > 16) = false := decide_eq_false (by omega)
  have kh3 : decide ((np : Int) > 400) = false := decide_eq_false (by omega)
  have HTR := Lib.hid (And.intro h1 h2)
  have HNP := Lib.hid h3
  clear h1 h2 h3
  go_upto_region 3 with fail
  clear kh1 kh2 kh3
  go_upto_region 4 with fail
  have hown := World.ownsRow_made (base := w.heap.size) (e := 46) (size := 6) w1 #[] 0 L2.out.size (by simp [maxLen]) rfl
  obtain ⟨bOL, hbOL⟩ : ∃ bOL, w1.heap.size = bOL := ⟨_, rfl⟩
  simp only [hbOL] at hown ⊢
  clear hbOL
  have ee : Ex (fun _ => False) w1 (w1.alloc (.cells #[] 46)) := (Ex.refl _ w1).alloc (.cells #[] 46)
  have L3 := Lib.hid (Ex.below L2.out ee (fun k hk => hk.elim))
  have T3 := Lib.hid (T2.out.ex ee (fun h => h))
  have OL3 := Lib.hid (hown)
  clear ee L2 T2 hown
  generalize w1.alloc (.cells #[] 46) = w2 at *
  go_upto_region 5 with fail
  have hown := World.ownsRow_made (base := w.heap.size) (e := 48) (size := 5) w2 #[] 0 L3.out.size (by simp [maxLen]) rfl
  obtain ⟨bOS, hbOS⟩ : ∃ bOS, w2.heap.size = bOS := ⟨_, rfl⟩
  simp only [hbOS] at hown ⊢
  clear hbOS
  have hox := ownsRow_ex OL3.out ((Ex.refl (fun _ => False) w2).alloc (.cells #[] 48)) (fun _ _ h => h)
  have ee : Ex (fun _ => False) w2 (w2.alloc (.cells #[] 48)) := (Ex.refl _ w2).alloc (.cells #[] 48)
  have L4 := Lib.hid (Ex.below L3.out ee (fun k hk => hk.elim))
  have T4 := Lib.hid (T3.out.ex ee (fun h => h))
  have OS4 := Lib.hid (hown)
  have OL4 := Lib.hid (hox)
  clear ee L3 T3 hown hox
  generalize w2.alloc (.cells #[] 48) = w3 at *
  go_upto_region 6 with fail
  have hn : Blk (w3.alloc (.cells #[.int .i64 0, .int .i64 0, .int .i64 0, .int .i64 0, .int .i64 0, .int .i64 0, .int .i64 0, .int .i64 0, .int .i64 0, .int .i64 0] 56)) w3.heap.size 56 (spA a 0) := Blk.new w3 56 #[.int .i64 0, .int .i64 0, .int .i64 0, .int .i64 0, .int .i64 0, .int .i64 0, .int .i64 0, .int .i64 0, .int .i64 0, .int .i64 0]
  have hol := ownsRow_ex OL4.out ((Ex.refl (fun _ => False) w3).alloc (.cells #[.int .i64 0, .int .i64 0, .int .i64 0, .int .i64 0, .int .i64 0, .int .i64 0, .int .i64 0, .int .i64 0, .int .i64 0, .int .i64 0] 56)) (fun _ _ h => h)
  have hos := ownsRow_ex OS4.out ((Ex.refl (fun _ => False) w3).alloc (.cells #[.int .i64 0, .int .i64 0, .int .i64 0, .int .i64 0, .int .i64 0, .int .i64 0, .int .i64 0, .int .i64 0, .int .i64 0, .int .i64 0] 56)) (fun _ _ h => h)
  clear OL4 OS4
  obtain ⟨spb, hnb⟩ : ∃ spb, w3.heap.size = spb := ⟨_, rfl⟩
  have hlt_tb : tb < spb := hnb ▸ T4.out.lt
  have hlo_ : w.heap.size ≤ spb := hnb ▸ L4.out.size
  simp only [hnb] at hn ⊢
  have ORD5 := Lib.hid (show w.heap.size ≤ tb ∧ tb < spb ∧ w.heap.size ≤ spb from by have o_ := ORD1.out; omega)
  clear ORD1
  have ee : Ex (fun _ => False) w3 (w3.alloc (.cells #[.int .i64 0, .int .i64 0, .int .i64 0, .int .i64 0, .int .i64 0, .int .i64 0, .int .i64 0, .int .i64 0, .int .i64 0, .int .i64 0] 56)) := (Ex.refl _ w3).alloc (.cells #[.int .i64 0, .int .i64 0, .int .i64 0, .int .i64 0, .int .i64 0, .int .i64 0, .int .i64 0, .int .i64 0, .int .i64 0, .int .i64 0] 56)
  have L6 := Lib.hid (Ex.below L4.out ee (fun k hk => hk.elim))
  have T6 := Lib.hid (T4.out.ex ee (fun h => h))
  have SP6 := Lib.hid (hn)
  clear ee L4 T4 hn hnb hlt_tb hlo_
  generalize w3.alloc (.cells #[.int .i64 0, .int .i64 0, .int .i64 0, .int .i64 0, .int .i64 0, .int .i64 0, .int .i64 0, .int .i64 0, .int .i64 0, .int .i64 0] 56) = w4 at *
  have OL := Lib.hid hol
  have OS := Lib.hid hos
  clear hol hos
  go_wp2_with fail
  go_loopw [7, 8, 10, 11, 12, 13] (fun s7 s8 s10 s11 s12 s13 wr => ∃ k : Nat, k ≤ 2 ∧ s10 = .int .i64 k ∧ (∀ k', k' < k → TopOk a k') ∧ (∀ j, j < 2 * k → SubOk a j) ∧ wr.ownsRow w.heap.size 46 6 s7 (2 * k) (subCs (lM a (cu9 a)) (2 * k)) ∧ wr.ownsRow w.heap.size 48 5 s8 (2 * k) (spCs (sM a) (2 * k)) ∧ Blk wr spb 56 (spA a k) ∧ TopIn wr tb a ∧ Below w.heap.size w wr) (fun s7 s8 s10 s11 s12 s13 _ => 2 - (intOf s10).toNat)
  case atStart => exact ⟨0, by omega, rfl, fun k' hk => absurd hk (by omega), fun j hj => absurd hj (by omega), OL.out, OS.out, SP6.out, T6.out, L6.out⟩
  case round =>
    clear OL OS SP6 T6 L6
    obtain ⟨k, hk, rfl, htk, hsk, hol, hos, hsp, ht, hl⟩ := hrel
    have HTK := Lib.hid htk
    have HSK := Lib.hid hsk
    have OL := Lib.hid hol
    have OS := Lib.hid hos
    have SP := Lib.hid hsp
    have TT := Lib.hid ht
    have LL := Lib.hid hl
    obtain ⟨A7, c7, rfl⟩ := own_form hol
    obtain ⟨A8, c8, rfl⟩ := own_form hos
    clear htk hsk hol hos hsp ht hl
    obtain ⟨wq, rfl⟩ : ∃ W : World, W = wr := ⟨_, rfl⟩
    by_cases hlt : k < 2
    · have kd : decide ((k : Int) < 2) = true := decide_eq_true (by omega)
      have kd2 : decide (k < 2) = true := decide_eq_true hlt
      have kk0 : (0 : Int) ≤ (k : Int) := by omega
      have kk1 : (k : Int) < 2 := by omega
      have HK := Lib.hid hlt
      clear hk hlt
      have x0 := (TT.out.top HK.out).1
      have x1 := (TT.out.top HK.out).2
      by_cases g1 : 1 ≤ a.W k
      rotate_left
      · have kg1 : decide (a.W k < 1) = true := decide_eq_true (by omega)
        clear g1
        go_wp2_with fail
        clear x0 x1 kd kd2 kg1
        refine (awake_any wq).mono ?_; rintro e wz ⟨rfl, hbz⟩
        have ee : Ex (fun _ => False) wq wz := Ex.of_below hbz
        have L7 := Lib.hid (Ex.below LL.out ee (fun k hk => hk.elim))
        clear ee LL hbz
        go_wp2_with fail
        go_ret
        exact ⟨rfl, L7.out⟩
      by_cases g2 : a.W k ≤ 4
      rotate_left
      · have kg1 : decide (a.W k < 1) = false := decide_eq_false (by omega)
        have kg2 : decide (a.W k > 4) = true := decide_eq_true (by omega)
        clear g1 g2
        go_wp2_with fail
        clear x0 x1 kd kd2 kg1 kg2
        refine (awake_any wq).mono ?_; rintro e wz ⟨rfl, hbz⟩
        have ee : Ex (fun _ => False) wq wz := Ex.of_below hbz
        have L7 := Lib.hid (Ex.below LL.out ee (fun k hk => hk.elim))
        clear ee LL hbz
        go_wp2_with fail
        go_ret
        exact ⟨rfl, L7.out⟩
      by_cases g3 : 2 ≤ a.D k
      rotate_left
      · have kg1 : decide (a.W k < 1) = false := decide_eq_false (by omega)
        have kg2 : decide (a.W k > 4) = false := decide_eq_false (by omega)
        have kg3 : decide (a.D k < 2) = true := decide_eq_true (by omega)
        clear g1 g2 g3
        go_wp2_with fail
        clear x0 x1 kd kd2 kg1 kg2 kg3
        refine (awake_any wq).mono ?_; rintro e wz ⟨rfl, hbz⟩
        have ee : Ex (fun _ => False) wq wz := Ex.of_below hbz
        have L7 := Lib.hid (Ex.below LL.out ee (fun k hk => hk.elim))
        clear ee LL hbz
        go_wp2_with fail
        go_ret
        exact ⟨rfl, L7.out⟩
      by_cases g4 : a.D k ≤ 6
      rotate_left
      · have kg1 : decide (a.W k < 1) = false := decide_eq_false (by omega)
        have kg2 : decide (a.W k > 4) = false := decide_eq_false (by omega)
        have kg3 : decide (a.D k < 2) = false := decide_eq_false (by omega)
        have kg4 : decide (a.D k > 6) = true := decide_eq_true (by omega)
        clear g1 g2 g3 g4
        go_wp2_with fail
        clear x0 x1 kd kd2 kg1 kg2 kg3 kg4
        refine (awake_any wq).mono ?_; rintro e wz ⟨rfl, hbz⟩
        have ee : Ex (fun _ => False) wq wz := Ex.of_below hbz
        have L7 := Lib.hid (Ex.below LL.out ee (fun k hk => hk.elim))
        clear ee LL hbz
        go_wp2_with fail
        go_ret
        exact ⟨rfl, L7.out⟩
      have kg1 : decide (a.W k < 1) = false := decide_eq_false (by omega)
      have kg2 : decide (a.W k > 4) = false := decide_eq_false (by omega)
      have kg3 : decide (a.D k < 2) = false := decide_eq_false (by omega)
      have kg4 : decide (a.D k > 6) = false := decide_eq_false (by omega)
      have HTP := Lib.hid (show TopOk a k from ⟨⟨g1, g2⟩, g3, g4⟩)
      clear g1 g2 g3 g4
      go_upto_region 11 with fail
      clear x0 x1 kd kd2 kg1 kg2 kg3 kg4
      have hw0 : wrap64 (30 * (k : Int)) = 30 * (k : Int) := wrap64_in _ (by omega)
      have hw1 : wrap64 (30 * (k : Int) + 1) = 30 * (k : Int) + 1 := wrap64_in _ (by omega)
      have hw2 : wrap64 (30 * (k : Int) + 2) = 30 * (k : Int) + 2 := wrap64_in _ (by omega)
      have HOR := Lib.hid (show w.heap.size ≤ tb ∧ tb < spb from by have o_ := ORD5.out; omega)
      have hne : Nonempty (Held (Ex (fun z => z = spb) wq)) := ⟨⟨wq, Ex.refl _ _⟩⟩
      have p0 : ∀ y : Held (Ex (fun z => z = spb) wq), y.w.cell? ⟨tb, k * 6, none⟩ = some (.int .i64 (a.W k)) := fun y => ((TT.out.ex y.ok (by have o_ := HOR.out; omega)).top HK.out).1
      have p1 : ∀ y : Held (Ex (fun z => z = spb) wq), y.w.cell? ⟨tb, k * 6 + 1, none⟩ = some (.int .i64 (a.D k)) := fun y => ((TT.out.ex y.ok (by have o_ := HOR.out; omega)).top HK.out).2
      refine drawn_bars (S := (Ex (fun z => z = spb) wq)) [([0, 1, 2, 3, 4, 5, 6, 7, 8, 9, 10, 11, 12, 13, 14, 15, 16, 17, 18], 19)] [] (by kernel_rfl) (by kernel_rfl) (by kernel_rfl) rfl (Ex.refl _ _).drew ?_
      refine Phased.go ?_
      simp only [pick, List.map_cons, List.map_nil, List.getElem?_cons_zero, List.getElem?_cons_succ, Option.getD_some]
      repeat (go_big_quiet_step (fail))
      refine wpQuiet_nil ?_
      try rw [hw0]
      try rw [hw1]
      try rw [hw2]
      have q0 : Ex (fun z => z = spb) wq wq.drew := (Ex.refl _ wq).drew
      have spd := Lib.hid (SP.out.ex (T := fun _ => False) (Ex.refl _ wq).drew (fun h => h))
      have tpd := Lib.hid (TT.out.ex (T := fun _ => False) (Ex.refl _ wq).drew (fun h => h))
      have lpd := Lib.hid (LL.out.drew)
      have old := Lib.hid (ownsRow_ex (T := fun _ => False) OL.out (Ex.refl _ wq).drew (fun _ _ h => h))
      have osd := Lib.hid (ownsRow_ex (T := fun _ => False) OS.out (Ex.refl _ wq).drew (fun _ _ h => h))
      generalize wq.drew = wd at *
      have y0 : wd.cell? ⟨spb, k * 5, none⟩ = some (.int .i64 0) := spA_zero spd.out HK.out 0 (by decide)
      have y1 := spA_zero spd.out HK.out 1 (by decide)
      have y2 := spA_zero spd.out HK.out 2 (by decide)
      have y3 := spA_zero spd.out HK.out 3 (by decide)
      have y4 := spA_zero spd.out HK.out 4 (by decide)
      have z0 := Blk.frozen spd.out (k * 5)
      have z1 := Blk.frozen spd.out (k * 5 + 1)
      have z2 := Blk.frozen spd.out (k * 5 + 2)
      have z3 := Blk.frozen spd.out (k * 5 + 3)
      have z4 := Blk.frozen spd.out (k * 5 + 4)
      go_wp2_with fail
      clear y0 y1 y2 y3 y4 z0 z1 z2 z3 z4
      have bb : Blk (((((wd.setCell ⟨spb, k * 5, none⟩ (.int .i64 (30 * (k : Int)))).setCell ⟨spb, k * 5 + 1, none⟩ (.int .i64 (30 * (k : Int) + 1))).setCell ⟨spb, k * 5 + 2, none⟩ (.int .i64 (30 * (k : Int) + 2))).setCell ⟨spb, k * 5 + 3, none⟩ (.int .i64 (a.W k))).setCell ⟨spb, k * 5 + 4, none⟩ (.int .i64 (a.D k))) spb 56 (spA a (k + 1)) := spA_set spd.out HK.out
      have ee : Ex (fun z => z = spb) wd (((((wd.setCell ⟨spb, k * 5, none⟩ (.int .i64 (30 * (k : Int)))).setCell ⟨spb, k * 5 + 1, none⟩ (.int .i64 (30 * (k : Int) + 1))).setCell ⟨spb, k * 5 + 2, none⟩ (.int .i64 (30 * (k : Int) + 2))).setCell ⟨spb, k * 5 + 3, none⟩ (.int .i64 (a.W k))).setCell ⟨spb, k * 5 + 4, none⟩ (.int .i64 (a.D k))) := (((((Ex.refl (fun z => z = spb) wd).setCell (q := ⟨spb, k * 5, none⟩) (.inl rfl) _).setCell (q := ⟨spb, k * 5 + 1, none⟩) (.inl rfl) _).setCell (q := ⟨spb, k * 5 + 2, none⟩) (.inl rfl) _).setCell (q := ⟨spb, k * 5 + 3, none⟩) (.inl rfl) _).setCell (q := ⟨spb, k * 5 + 4, none⟩) (.inl rfl) _
      have q1 := q0.trans ee
      have SP2 := Lib.hid bb
      have TT2 := Lib.hid (tpd.out.ex ee (by have o_ := HOR.out; omega))
      have LL2 := Lib.hid (Ex.below lpd.out ee (fun z hz => by have hz : z = spb := hz; have o_ := HOR.out; omega))
      have OL2 := Lib.hid (ownsRow_ex old.out ee (fun z hz hT => by have hT : z = spb := hT; exact own_blk_ne old.out spd.out (by decide) (hT ▸ hz)))
      have OS2 := Lib.hid (ownsRow_ex osd.out ee (fun z hz hT => by have hT : z = spb := hT; exact own_blk_ne osd.out spd.out (by decide) (hT ▸ hz)))
      refine behind_normal ⟨(Ex (fun z => z = spb) wq), fun W h => h, q1, ?_⟩
      refine Phased.end_ ?_
      have hne5 : Nonempty (Held (fun W => W = (((((wd.setCell ⟨spb, k * 5, none⟩ (.int .i64 (30 * (k : Int)))).setCell ⟨spb, k * 5 + 1, none⟩ (.int .i64 (30 * (k : Int) + 1))).setCell ⟨spb, k * 5 + 2, none⟩ (.int .i64 (30 * (k : Int) + 2))).setCell ⟨spb, k * 5 + 3, none⟩ (.int .i64 (a.W k))).setCell ⟨spb, k * 5 + 4, none⟩ (.int .i64 (a.D k))))) := ⟨⟨_, rfl⟩⟩
      simp only [pick, List.map_cons, List.map_nil, List.getElem?_cons_zero, List.getElem?_cons_succ, Option.getD_some]
      repeat (go_big_quiet_step (fail))
      refine wpQuiet_nil ?_
      clear hne hne5 p0 p1 hw0 hw1 hw2 q0 q1 ee bb spd tpd lpd old osd SP TT LL OL OS
      generalize (((((wd.setCell ⟨spb, k * 5, none⟩ (.int .i64 (30 * (k : Int)))).setCell ⟨spb, k * 5 + 1, none⟩ (.int .i64 (30 * (k : Int) + 1))).setCell ⟨spb, k * 5 + 2, none⟩ (.int .i64 (30 * (k : Int) + 2))).setCell ⟨spb, k * 5 + 3, none⟩ (.int .i64 (a.W k))).setCell ⟨spb, k * 5 + 4, none⟩ (.int .i64 (a.D k))) = we at *
      go_wp2_with fail
      go_loopw [7, 8, 11, 12, 13] (fun s7 s8 s11 s12 s13 wr => ∃ i : Nat, i ≤ 2 ∧ s11 = .int .i64 i ∧ (∀ j, j < 2 * k + i → SubOk a j) ∧ wr.ownsRow w.heap.size 46 6 s7 (2 * k + i) (subCs (lM a (cu9 a)) (2 * k + i)) ∧ wr.ownsRow w.heap.size 48 5 s8 (2 * k + i) (spCs (sM a) (2 * k + i)) ∧ Blk wr spb 56 (spA a (k + 1)) ∧ TopIn wr tb a ∧ Below w.heap.size w wr) (fun s7 s8 s11 s12 s13 _ => 2 - (intOf s11).toNat)
      case atStart => exact ⟨0, by omega, rfl, HSK.out, OL2.out, OS2.out, SP2.out, TT2.out, LL2.out⟩
      case round =>
        clear OL2 OS2 SP2 TT2 LL2 HSK
        obtain ⟨i, hi, rfl, hsk, hol, hos, hsp, ht, hl⟩ := hrel
        have HSK := Lib.hid hsk
        have OL := Lib.hid hol
        have OS := Lib.hid hos
        have SP := Lib.hid hsp
        have TT := Lib.hid ht
        have LL := Lib.hid hl
        obtain ⟨A7, c7, rfl⟩ := own_form hol
        obtain ⟨A8, c8, rfl⟩ := own_form hos
        clear hsk hol hos hsp ht hl
        obtain ⟨wq, rfl⟩ : ∃ W : World, W = wr := ⟨_, rfl⟩
        by_cases hlt : i < 2
        · have kd : decide ((i : Int) < 2) = true := decide_eq_true (by omega)
          have kd2 : decide (i < 2) = true := decide_eq_true hlt
          have ki0 : (0 : Int) ≤ (i : Int) := by omega
          have ki1 : (i : Int) < 2 := by omega
          have HI := Lib.hid hlt
          clear hi hlt
          obtain ⟨rm, hrm⟩ : ∃ rm, a.rm (2 * k + i) = rm := ⟨_, rfl⟩
          obtain ⟨rk, hrk⟩ : ∃ rk, a.rk (2 * k + i) = rk := ⟨_, rfl⟩
          have HRM := Lib.hid hrm
          have HRK := Lib.hid hrk
          have HSB := Lib.hid (show ∀ W, TopIn W tb a → W.cell? ⟨tb, k * 6 + 2 + i, none⟩ = some (.int .i64 rk) ∧ W.cell? ⟨tb, k * 6 + 4 + i, none⟩ = some (.int .i64 rm) ∧ W.cell? ⟨tb, k * 6 + 1, none⟩ = some (.int .i64 (a.D k)) from fun W hW => by
            rw [← hrm, ← hrk]
            exact ⟨(hW.sub HK.out HI.out).1, (hW.sub HK.out HI.out).2, (hW.top HK.out).2⟩)
          clear hrm hrk
          have x1 := (HSB.out _ TT.out).2.1
          go_wp2_with fail
          refine (qNew_any rm wq).mono ?_; rintro e w5 ⟨cc, e9, rfl, hcc, hb⟩
          have HCC := Lib.hid hcc
          clear hcc x1 kd kd2
          unfold Cur.val
          have ee : Ex (fun _ => False) wq w5 := Ex.of_below hb
          have SP7 := Lib.hid (SP.out.ex ee (fun h => h))
          have T7 := Lib.hid (TT.out.ex ee (fun h => h))
          have L7 := Lib.hid (Ex.below LL.out ee (fun z hz => hz.elim))
          have OL7 := Lib.hid (ownsRow_ex OL.out ee (fun _ _ h => h))
          have OS7 := Lib.hid (ownsRow_ex OS.out ee (fun _ _ h => h))
          clear ee SP TT LL OL OS hb
          go_upto_region 16 with fail
          have hn := Blk.new w5 44 #[.int .u64 cc.next, .int .i64 cc.cap, .int .u64 cc.got, .int .u64 cc.lost]
          obtain ⟨qb9, hq9⟩ : ∃ qb9, w5.heap.size = qb9 := ⟨_, rfl⟩
          simp only [hq9] at hn ⊢
          clear hq9
          have ee : Ex (fun _ => False) w5 (w5.alloc (.cells #[.int .u64 cc.next, .int .i64 cc.cap, .int .u64 cc.got, .int .u64 cc.lost] 44)) := (Ex.refl _ w5).alloc (.cells #[.int .u64 cc.next, .int .i64 cc.cap, .int .u64 cc.got, .int .u64 cc.lost] 44)
          have SP8 := Lib.hid (SP7.out.ex ee (fun h => h))
          have T8 := Lib.hid (T7.out.ex ee (fun h => h))
          have L8 := Lib.hid (Ex.below L7.out ee (fun z hz => hz.elim))
          have OL8 := Lib.hid (ownsRow_ex OL7.out ee (fun _ _ h => h))
          have OS8 := Lib.hid (ownsRow_ex OS7.out ee (fun _ _ h => h))
          have CC8 := Lib.hid (hn)
          clear ee SP7 T7 L7 OL7 OS7 hn
          generalize w5.alloc (.cells #[.int .u64 cc.next, .int .i64 cc.cap, .int .u64 cc.got, .int .u64 cc.lost] 44) = w6 at *
          have HDK := Lib.hid (show 2 ≤ a.D k ∧ a.D k ≤ 6 from HTP.out.2)
          obtain ⟨dk, hdk⟩ : ∃ dk, a.D k = dk := ⟨_, rfl⟩
          have HDE := Lib.hid hdk
          rw [hdk] at HSB HDK
          clear hdk
          have hwd : wrap64 (dk - 1) = dk - 1 := wrap64_in _ (by have h := HDK.out; omega)
          have hne : Nonempty (Held (fun W => W = w6.drew)) := ⟨⟨_, rfl⟩⟩
          have HTD := Lib.hid (T8.out.ex (T := fun _ => False) (Ex.refl _ w6).drew (fun h => h))
          have p0 : ∀ y : Held (fun W => W = w6.drew), y.w.cell? ⟨tb, k * 6 + 2 + i, none⟩ = some (.int .i64 rk) := fun y => by rw [y.ok]; exact (HSB.out _ HTD.out).1
          have p1 : ∀ y : Held (fun W => W = w6.drew), y.w.cell? ⟨tb, k * 6 + 4 + i, none⟩ = some (.int .i64 rm) := fun y => by rw [y.ok]; exact (HSB.out _ HTD.out).2.1
          have p2 : ∀ y : Held (fun W => W = w6.drew), y.w.cell? ⟨tb, k * 6 + 1, none⟩ = some (.int .i64 dk) := fun y => by rw [y.ok]; exact (HSB.out _ HTD.out).2.2
          by_cases g1 : 1 ≤ rm
          rotate_left
          · have kg1 : decide (rm < 1) = true := decide_eq_true (by (try rw [hwd]); omega)
            clear g1

            refine drawn_bars (S := fun _ => True) [] [0, 1, 2, 3, 4, 5, 6, 7, 8, 9, 10, 11, 12, 13, 14, 15, 16, 17, 18, 19, 20, 21, 22, 23, 24, 25, 26, 27, 28, 29, 30, 31, 32, 33, 34, 35, 36, 37, 38] (by kernel_rfl) (by kernel_rfl) (by kernel_rfl) rfl trivial ?_
            refine Phased.end_ ?_
            simp only [pick, List.map_cons, List.map_nil, List.getElem?_cons_zero, List.getElem?_cons_succ, Option.getD_some]
            repeat (go_big_quiet_step (fail))
            refine wpQuiet_nil ?_
            clear hne p0 p1 p2 hwd HTD
            have ee : Ex (fun _ => False) w6 w6.drew := (Ex.refl _ w6).drew
            have L9 := Lib.hid (Ex.below L8.out ee (fun z hz => hz.elim))
            clear ee L8
            generalize w6.drew = w7 at *
            go_wp2_with fail
            clear kg1
            refine (awake_any w7).mono ?_; rintro e wz ⟨rfl, hbz⟩
            have ee : Ex (fun _ => False) w7 wz := Ex.of_below hbz
            have L10 := Lib.hid (Ex.below L9.out ee (fun k hk => hk.elim))
            clear ee L9 hbz
            go_wp2_with fail
            go_ret
            exact ⟨rfl, L10.out⟩
          by_cases g2 : rm ≤ dk - 1
          rotate_left
          · have kg1 : decide (rm < 1) = false := decide_eq_false (by (try rw [hwd]); omega)
            have kg2 : decide (rm > wrap64 (dk - 1)) = true := decide_eq_true (by (try rw [hwd]); omega)
            clear g1 g2
            rw [hwd] at kg2
            refine drawn_bars (S := fun _ => True) [] [0, 1, 2, 3, 4, 5, 6, 7, 8, 9, 10, 11, 12, 13, 14, 15, 16, 17, 18, 19, 20, 21, 22, 23, 24, 25, 26, 27, 28, 29, 30, 31, 32, 33, 34, 35, 36, 37, 38] (by kernel_rfl) (by kernel_rfl) (by kernel_rfl) rfl trivial ?_
            refine Phased.end_ ?_
            simp only [pick, List.map_cons, List.map_nil, List.getElem?_cons_zero, List.getElem?_cons_succ, Option.getD_some]
            repeat (go_big_quiet_step (fail))
            refine wpQuiet_nil ?_
            clear hne p0 p1 p2 hwd HTD
            have ee : Ex (fun _ => False) w6 w6.drew := (Ex.refl _ w6).drew
            have L9 := Lib.hid (Ex.below L8.out ee (fun z hz => hz.elim))
            clear ee L8
            generalize w6.drew = w7 at *
            go_wp2_with fail
            clear kg1 kg2
            refine (awake_any w7).mono ?_; rintro e wz ⟨rfl, hbz⟩
            have ee : Ex (fun _ => False) w7 wz := Ex.of_below hbz
            have L10 := Lib.hid (Ex.below L9.out ee (fun k hk => hk.elim))
            clear ee L9 hbz
            go_wp2_with fail
            go_ret
            exact ⟨rfl, L10.out⟩
          by_cases g3 : 0 ≤ rk
          rotate_left
          · have kg1 : decide (rm < 1) = false := decide_eq_false (by (try rw [hwd]); omega)
            have kg2 : decide (rm > wrap64 (dk - 1)) = false := decide_eq_false (by (try rw [hwd]); omega)
            have kg3 : decide (rk < 0) = true := decide_eq_true (by (try rw [hwd]); omega)
            clear g1 g2 g3
            rw [hwd] at kg2
            refine drawn_bars (S := fun _ => True) [] [0, 1, 2, 3, 4, 5, 6, 7, 8, 9, 10, 11, 12, 13, 14, 15, 16, 17, 18, 19, 20, 21, 22, 23, 24, 25, 26, 27, 28, 29, 30, 31, 32, 33, 34, 35, 36, 37, 38] (by kernel_rfl) (by kernel_rfl) (by kernel_rfl) rfl trivial ?_
            refine Phased.end_ ?_
            simp only [pick, List.map_cons, List.map_nil, List.getElem?_cons_zero, List.getElem?_cons_succ, Option.getD_some]
            repeat (go_big_quiet_step (fail))
            refine wpQuiet_nil ?_
            clear hne p0 p1 p2 hwd HTD
            have ee : Ex (fun _ => False) w6 w6.drew := (Ex.refl _ w6).drew
            have L9 := Lib.hid (Ex.below L8.out ee (fun z hz => hz.elim))
            clear ee L8
            generalize w6.drew = w7 at *
            go_wp2_with fail
            clear kg1 kg2 kg3
            refine (awake_any w7).mono ?_; rintro e wz ⟨rfl, hbz⟩
            have ee : Ex (fun _ => False) w7 wz := Ex.of_below hbz
            have L10 := Lib.hid (Ex.below L9.out ee (fun k hk => hk.elim))
            clear ee L9 hbz
            go_wp2_with fail
            go_ret
            exact ⟨rfl, L10.out⟩
          by_cases g4 : rk ≤ 255
          rotate_left
          · have kg1 : decide (rm < 1) = false := decide_eq_false (by (try rw [hwd]); omega)
            have kg2 : decide (rm > wrap64 (dk - 1)) = false := decide_eq_false (by (try rw [hwd]); omega)
            have kg3 : decide (rk < 0) = false := decide_eq_false (by (try rw [hwd]); omega)
            have kg4 : decide (rk > 255) = true := decide_eq_true (by (try rw [hwd]); omega)
            clear g1 g2 g3 g4
            rw [hwd] at kg2
            refine drawn_bars (S := fun _ => True) [] [0, 1, 2, 3, 4, 5, 6, 7, 8, 9, 10, 11, 12, 13, 14, 15, 16, 17, 18, 19, 20, 21, 22, 23, 24, 25, 26, 27, 28, 29, 30, 31, 32, 33, 34, 35, 36, 37, 38] (by kernel_rfl) (by kernel_rfl) (by kernel_rfl) rfl trivial ?_
            refine Phased.end_ ?_
            simp only [pick, List.map_cons, List.map_nil, List.getElem?_cons_zero, List.getElem?_cons_succ, Option.getD_some]
            repeat (go_big_quiet_step (fail))
            refine wpQuiet_nil ?_
            clear hne p0 p1 p2 hwd HTD
            have ee : Ex (fun _ => False) w6 w6.drew := (Ex.refl _ w6).drew
            have L9 := Lib.hid (Ex.below L8.out ee (fun z hz => hz.elim))
            clear ee L8
            generalize w6.drew = w7 at *
            go_wp2_with fail
            clear kg1 kg2 kg3 kg4
            refine (awake_any w7).mono ?_; rintro e wz ⟨rfl, hbz⟩
            have ee : Ex (fun _ => False) w7 wz := Ex.of_below hbz
            have L10 := Lib.hid (Ex.below L9.out ee (fun k hk => hk.elim))
            clear ee L9 hbz
            go_wp2_with fail
            go_ret
            exact ⟨rfl, L10.out⟩
          have kg1 : decide (rm < 1) = false := decide_eq_false (by (try rw [hwd]); omega)
          have kg2 : decide (rm > wrap64 (dk - 1)) = false := decide_eq_false (by (try rw [hwd]); omega)
          have kg3 : decide (rk < 0) = false := decide_eq_false (by (try rw [hwd]); omega)
          have kg4 : decide (rk > 255) = false := decide_eq_false (by (try rw [hwd]); omega)
          rw [hwd] at kg2
          have HSO := Lib.hid (show (1 ≤ rm ∧ rm ≤ dk - 1) ∧ (0 ≤ rk ∧ rk ≤ 255) from ⟨⟨g1, g2⟩, g3, g4⟩)
          clear g1 g2 g3 g4
          obtain ⟨hcc1, he9⟩ := HCC.out (by have h := HSO.out; have h2 := HDK.out; omega)
          subst hcc1
          subst he9
          refine drawn_bars (S := fun _ => True) [] [0, 1, 2, 3, 4, 5, 6, 7, 8, 9, 10, 11, 12, 13, 14, 15, 16, 17, 18, 19, 20, 21, 22, 23, 24, 25, 26, 27, 28, 29, 30, 31, 32, 33, 34, 35, 36, 37, 38] (by kernel_rfl) (by kernel_rfl) (by kernel_rfl) rfl trivial ?_
          refine Phased.end_ ?_
          simp only [pick, List.map_cons, List.map_nil, List.getElem?_cons_zero, List.getElem?_cons_succ, Option.getD_some]
          repeat (go_big_quiet_step (fail))
          refine wpQuiet_nil ?_
          clear hne p0 p1 p2 hwd HTD
          have ee : Ex (fun _ => False) w6 w6.drew := (Ex.refl _ w6).drew
          have SP9 := Lib.hid (SP8.out.ex ee (fun h => h))
          have T9 := Lib.hid (T8.out.ex ee (fun h => h))
          have L9 := Lib.hid (Ex.below L8.out ee (fun z hz => hz.elim))
          have OL9 := Lib.hid (ownsRow_ex OL8.out ee (fun _ _ h => h))
          have OS9 := Lib.hid (ownsRow_ex OS8.out ee (fun _ _ h => h))
          have CC9 := Lib.hid (CC8.out.ex ee (fun h => h))
          clear ee SP8 T8 L8 OL8 OS8 CC8
          generalize w6.drew = w7 at *
          have k0 : ((0 : Int) != 0) = false := rfl
          go_upto_region 20 with fail
          clear k0 kg1 kg2 kg3 kg4
          have HLK := Lib.hid (show 2 * k + i + 1 ≤ maxLen ∧ (2 * k + i + 1) * 48 ≤ 140737488355328 ∧ (2 * k + i + 1) * 40 ≤ 140737488355328 from by have h1 := HK.out; have h2 := HI.out; unfold maxLen; omega)
          have HN1 := Lib.hid (fun (z : Nat) (hz : (Value.slice A7 (2 * k + i) c7).ownBlock = some z) (t : TypeId) (cs : Array Value) (W : World) (h1 : Blk w7 z t cs) (h2 : 46 ≠ t) => own_blk_ne OL9.out h1 h2 hz)
          have hne : Nonempty (Held (Ex (fun z => (Value.slice A7 (2 * k + i) c7).ownBlock = some z) w7)) := ⟨⟨w7, Ex.refl _ _⟩⟩
          have p0 : ∀ y : Held (Ex (fun z => (Value.slice A7 (2 * k + i) c7).ownBlock = some z) w7), y.w.cell? ⟨tb, k * 6 + 2 + i, none⟩ = some (.int .i64 rk) := fun y => (HSB.out _ (T9.out.ex y.ok (own_blk_ne OL9.out T9.out.box (by decide)))).1
          have hcq := fun y : Held (Ex (fun z => (Value.slice A7 (2 * k + i) c7).ownBlock = some z) w7) => CC9.out.ex y.ok (own_blk_ne OL9.out CC9.out (by decide))
          have p1 : ∀ y : Held (Ex (fun z => (Value.slice A7 (2 * k + i) c7).ownBlock = some z) w7), y.w.cell? ⟨qb9, 0, none⟩ = some (.int .u64 1) := fun y => (hcq y).cell 0
          have p2 : ∀ y : Held (Ex (fun z => (Value.slice A7 (2 * k + i) c7).ownBlock = some z) w7), y.w.cell? ⟨qb9, 1, none⟩ = some (.int .i64 rm) := fun y => (hcq y).cell 1
          have p3 : ∀ y : Held (Ex (fun z => (Value.slice A7 (2 * k + i) c7).ownBlock = some z) w7), y.w.cell? ⟨qb9, 2, none⟩ = some (.int .u64 0) := fun y => (hcq y).cell 2
          have p4 : ∀ y : Held (Ex (fun z => (Value.slice A7 (2 * k + i) c7).ownBlock = some z) w7), y.w.cell? ⟨qb9, 3, none⟩ = some (.int .u64 0) := fun y => (hcq y).cell 3
          clear hcq
          refine drawn_bars (S := (Ex (fun z => (Value.slice A7 (2 * k + i) c7).ownBlock = some z) w7)) [([0, 1, 2, 3, 4, 5, 6, 7, 8, 9], 10), ([], 11)] [12] (by kernel_rfl) (by kernel_rfl) (by kernel_rfl) rfl (Ex.refl _ _).drew ?_
          refine Phased.go ?_
          simp only [pick, List.map_cons, List.map_nil, List.getElem?_cons_zero, List.getElem?_cons_succ, Option.getD_some]
          repeat (go_big_quiet_step (fail))
          refine wpQuiet_nil ?_
          have q0 : Ex (fun z => (Value.slice A7 (2 * k + i) c7).ownBlock = some z) w7 w7.drew := (Ex.refl _ w7).drew
          clear HN1
          have ee : Ex (fun _ => False) w7 w7.drew := (Ex.refl _ w7).drew
          have SP10 := Lib.hid (SP9.out.ex ee (fun h => h))
          have T10 := Lib.hid (T9.out.ex ee (fun h => h))
          have L10 := Lib.hid (Ex.below L9.out ee (fun z hz => hz.elim))
          have OL10 := Lib.hid (ownsRow_ex OL9.out ee (fun _ _ h => h))
          have OS10 := Lib.hid (ownsRow_ex OS9.out ee (fun _ _ h => h))
          have CC10 := Lib.hid (CC9.out.ex ee (fun h => h))
          clear ee SP9 T9 L9 OL9 OS9 CC9
          generalize w7.drew = w8 at *
          go_wp2_with fail
          have q1 := q0.alloc (.cells #[.int .i64 (k : Nat), .int .i64 rk, .int .u64 1, .int .i64 rm, .int .u64 0, .int .u64 0] 46)
          refine behind_normal ⟨(Ex (fun z => (Value.slice A7 (2 * k + i) c7).ownBlock = some z) w7), fun W h => h, q1, ?_⟩
          refine Phased.go ?_
          simp only [pick, List.map_cons, List.map_nil, List.getElem?_cons_zero, List.getElem?_cons_succ, Option.getD_some]
          repeat (go_big_quiet_step (fail))
          refine wpQuiet_nil ?_
          have hb8 : Blk (w8.alloc (.cells #[.int .i64 (k : Nat), .int .i64 rk, .int .u64 1, .int .i64 rm, .int .u64 0, .int .u64 0] 46)) w8.heap.size 46 ([.int .i64 (k : Nat), .int .i64 rk, .int .u64 1, .int .i64 rm, .int .u64 0, .int .u64 0] : List Value).toArray := Blk.new w8 _ _
          obtain ⟨i0, hi0, hz0, hz1, hz2⟩ := info_parts sub9_info
          have hns := lM_sb a (k := k) HI.out
          rw [HRM.out, HRK.out] at hns
          have hn1 := sbV_one (lM a (cu9 a) (2 * k + i))
          rw [hns] at hn1
          go_wp2_with (at_builtin; refine wpList_append_own _ rfl _ _ 22 rfl w.heap.size 46 i0 (.agg #[.int .i64 0, .int .i64 0, .int .u64 0, .int .i64 0, .int .u64 0, .int .u64 0]) 6 48 Try.underlying22 hi0 hz0 hz1 hz2 rfl (by decide) _ _ _ rfl (OL10.out.alloc _) ⟨w8.heap.size, 0, none⟩ 1 1 [.int .i64 (k : Nat), .int .i64 rk, .int .u64 1, .int .i64 rm, .int .u64 0, .int .u64 0] rfl rfl (news_blk hb8) hn1 HLK.out.1 HLK.out.2.1 (Nat.le_trans L10.out.size (by simp)) ?_)
          intro v' w9 hown' hgrow _
          have hx9 : Ex (fun z => (Value.slice A7 (2 * k + i) c7).ownBlock = some z) w8 w9 := ((Ex.refl _ w8).alloc _).trans (ex_grown hgrow (fun z hz => hz))
          have q2 := q0.trans hx9
          have OLa := Lib.hid (show w9.ownsRow w.heap.size 46 6 v' (2 * k + i + 1) (subCs (lM a (cu9 a)) (2 * k + i + 1)) from by rw [subCs_succ, hns]; exact hown')
          have OSa := Lib.hid (ownsRow_ex OS10.out hx9 (fun z h1 h2 => own_apart9 OS10.out OL10.out (by decide) z h1 h2))
          have SPa := Lib.hid (SP10.out.ex hx9 (own_blk_ne OL10.out SP10.out (by decide)))
          have TTa := Lib.hid (T10.out.ex hx9 (own_blk_ne OL10.out T10.out.box (by decide)))
          have LLa := Lib.hid (Ex.below L10.out hx9 (fun z hz => (World.ownsRow.lt OL10.out z hz).1))
          clear hown' hgrow hx9 hb8 hns hn1 OL10 OS10 SP10 T10 L10 CC10
          go_wp2_with fail
          refine behind_normal ⟨(Ex (fun z => (Value.slice A7 (2 * k + i) c7).ownBlock = some z) w7), fun W h => h, q2, ?_⟩
          refine Phased.end_ ?_
          have hne5 : Nonempty (Held (fun W => W = w9)) := ⟨⟨_, rfl⟩⟩
          simp only [pick, List.map_cons, List.map_nil, List.getElem?_cons_zero, List.getElem?_cons_succ, Option.getD_some]
          repeat (go_big_quiet_step (fail))
          refine wpQuiet_nil ?_
          clear hne hne5 p0 p1 p2 p3 p4 q0 q1 q2 i0 hi0 hz0 hz1 hz2
          obtain ⟨s0, s1, s2, s3, s4⟩ := spA_cells SPa.out (show k < k + 1 by omega) HK.out
          have kk0 : (0 : Int) ≤ (k : Int) := by omega
          have kk1 : (k : Int) < 2 := by have := HK.out; omega
          simp only [spotM] at s0 s1 s2 s3 s4
          obtain ⟨i0, hi0, hz0, hz1, hz2⟩ := info_parts spot9_info
          have hb8 : Blk (w9.alloc (.cells #[.int .i64 (30 * (k : Int)), .int .i64 (30 * (k : Int) + 1), .int .i64 (30 * (k : Int) + 2), .int .i64 (a.W k), .int .i64 (a.D k)] 48)) w9.heap.size 48 ([.int .i64 (30 * (k : Int)), .int .i64 (30 * (k : Int) + 1), .int .i64 (30 * (k : Int) + 2), .int .i64 (a.W k), .int .i64 (a.D k)] : List Value).toArray := Blk.new w9 _ _
          have hns : spV (sM a (2 * k + i)) = [.int .i64 (30 * (k : Int)), .int .i64 (30 * (k : Int) + 1), .int .i64 (30 * (k : Int) + 2), .int .i64 (a.W k), .int .i64 (a.D k)] := by rw [sM_sp a HI.out]; rfl
          have hn1 := spV_one (sM a (2 * k + i))
          rw [hns] at hn1
          go_wp2_with (at_builtin; refine wpList_append_own _ rfl _ _ 23 rfl w.heap.size 48 i0 (.agg #[.int .i64 0, .int .i64 0, .int .i64 0, .int .i64 0, .int .i64 0]) 5 40 Try.underlying23 hi0 hz0 hz1 hz2 rfl (by decide) _ _ _ rfl (OSa.out.alloc _) ⟨w9.heap.size, 0, none⟩ 1 1 [.int .i64 (30 * (k : Int)), .int .i64 (30 * (k : Int) + 1), .int .i64 (30 * (k : Int) + 2), .int .i64 (a.W k), .int .i64 (a.D k)] rfl rfl (news_blk hb8) hn1 HLK.out.1 HLK.out.2.2 (Nat.le_trans LLa.out.size (by simp)) ?_)
          intro v9 wx hown' hgrow _
          have hx9 : Ex (fun z => (Value.slice A8 (2 * k + i) c8).ownBlock = some z) w9 wx := ((Ex.refl _ w9).alloc _).trans (ex_grown hgrow (fun z hz => hz))
          have OSb := Lib.hid (show wx.ownsRow w.heap.size 48 5 v9 (2 * k + i + 1) (spCs (sM a) (2 * k + i + 1)) from by
            have e : spCs (sM a) (2 * k + i + 1) = spCs (sM a) (2 * k + i) ++ spV (sM a (2 * k + i)) := rfl
            rw [e, hns]; exact hown')
          have OLb := Lib.hid (ownsRow_ex OLa.out hx9 (fun z h1 h2 => own_apart9 OLa.out OSa.out (by decide) z h1 h2))
          have SPb := Lib.hid (SPa.out.ex hx9 (own_blk_ne OSa.out SPa.out (by decide)))
          have TTb := Lib.hid (TTa.out.ex hx9 (own_blk_ne OSa.out TTa.out.box (by decide)))
          have LLb := Lib.hid (Ex.below LLa.out hx9 (fun z hz => (World.ownsRow.lt OSa.out z hz).1))
          clear hown' hgrow hx9 hb8 hns hn1 OLa OSa SPa TTa LLa s0 s1 s2 s3 s4 i0 hi0 hz0 hz1 hz2 kk0 kk1
          have ki1 : (i : Int) < 2 := by have := HI.out; omega
          go_wp2_with fail
          go_roundw
          case rel => exact ⟨i + 1, HI.out, by go_num, fun j hj => by
            by_cases e : j = 2 * k + i
            · have h := HSO.out
              rw [← HRM.out, ← HRK.out, ← HDE.out] at h
              unfold SubOk
              rw [e, show (2 * k + i) / 2 = k by have := HI.out; omega]
              exact h
            · exact HSK.out j (by omega), OLb.out, OSb.out, SPb.out, TTb.out, LLb.out⟩
          case measure => have := HI.out; simp [intOf]; omega
        · obtain rfl : i = 2 := by omega
          have kd : decide (((2 : Nat) : Int) < 2) = false := by decide
          have kd2 : decide ((2 : Int) < 2) = false := by decide
          clear hi hlt
          have HM := Lib.hid (turn_no k 2 HK.out (by decide))
          go_wp2_with fail
          go_roundw
          case rel => exact ⟨k + 1, HK.out, by first | exact HM.out.1 | go_num, fun k' hk' => by
            by_cases e : k' = k
            · rw [e]; exact HTP.out
            · exact HTK.out k' (by omega), fun j hj => HSK.out j (by omega), OL.out, OS.out, SP.out, TT.out, LL.out⟩
          case measure => first | exact HM.out.2 | (have := HK.out; simp [intOf]; omega)
    obtain rfl : k = 2 := by omega
    have kd : decide (((2 : Nat) : Int) < 2) = false := by decide
    have kd2 : decide ((2 : Int) < 2) = false := by decide
    clear hk hlt
    have HOK := Lib.hid (show a.Ok from ⟨fun z hz => HTK.out z hz, fun z hz => HSK.out z (by omega)⟩)
    have HCU := Lib.hid (cu9_curs HOK.out)
    obtain ⟨r1, d1, e7, hd1, hr1, hsin⟩ := subsIn_of_own (show wq.ownsRow w.heap.size 46 6 (.slice A7 4 c7) 4 (subCs (lM a (cu9 a)) 4) from OL.out) (by decide)
    have hsps : Sps wq (.slice A8 4 c8) 4 (sM a) := sps_of_cs9 (show wq.ownsRow w.heap.size 48 5 (.slice A8 4 c8) 4 (spCs (sM a) 4) from OS.out) (by decide)
    simp only [Value.slice.injEq, true_and] at e7
    obtain ⟨rfl, rfl⟩ := e7
    have SS := Lib.hid hsin
    have HSP9 := Lib.hid hsps
    have HD1 := Lib.hid hd1
    clear hsin hsps hd1 hr1 OL OS HTK HSK
    simp only [Nat.reduceMul]
    have HLT := Lib.hid (show tb < wq.heap.size ∧ spb < wq.heap.size ∧ r1 < wq.heap.size from ⟨TT.out.lt, SP.out.lt, SS.out.lt⟩)
    go_wp2_with fail
    clear kd kd2
    refine (Bank.New_in 60 (by decide) (by decide) wq).mono ?_; rintro e wz ⟨rfl, hb, hl, hsz⟩
    have hb : BankAt wz (wq.heap.size + 1) wq.heap.size (zeros 60) 0 := hb
    obtain ⟨h, hrr⟩ : ∃ h, wq.heap.size = h := ⟨_, rfl⟩
    have HQS := Lib.hid hrr
    have hl2 := hl
    rw [hrr] at hb ⊢
    obtain ⟨g, hg⟩ : ∃ g, h + 1 = g := ⟨_, rfl⟩
    rw [hg] at hb ⊢
    obtain ⟨N0, hN0⟩ : ∃ N0, wz.heap.size = N0 := ⟨_, rfl⟩
    have HN0 := Lib.hid hN0
    have HGH := Lib.hid (show h + 1 = g ∧ g < N0 ∧ tb < h ∧ spb < h ∧ r1 < h ∧ w.heap.size ≤ h from by
      have h1 := HLT.out
      have h2 := hb.head.lt
      have h3 := LL.out.size
      omega)
    have HBZ := Lib.hid (show ∀ W, Ex (fun z => z = g ∨ z = h ∨ N0 ≤ z) wz W → Below wq.heap.size wq W from fun W p => Ex.below hl p (fun z hz => by have hz : z = g ∨ z = h ∨ N0 ≤ z := hz; have o_ := HGH.out; omega))
    have HZT := Lib.hid (show ∀ W, Ex (fun z => z = g ∨ z = h ∨ N0 ≤ z) wz W → TopIn W tb a from fun W p => TT.out.ex (T := fun _ => False) (Ex.of_below (HBZ.out W p)) (fun h => h))
    have HZP := Lib.hid (show ∀ W, Ex (fun z => z = g ∨ z = h ∨ N0 ≤ z) wz W → Blk W spb 56 (spA a 2) from fun W p => SP.out.bl (HBZ.out W p))
    have HZS := Lib.hid (show ∀ W, Ex (fun z => z = g ∨ z = h ∨ N0 ≤ z) wz W → Sps W (.slice A8 4 c8) 4 (sM a) from fun W p => HSP9.out.below (HBZ.out W p))
    have HZL := Lib.hid (show ∀ W, Ex (fun z => z = g ∨ z = h ∨ N0 ≤ z) wz W → Below w.heap.size w W from fun W p => bl LL.out (HBZ.out W p))
    have HZR := Lib.hid (SS.out.bl hl)
    have KZ := Lib.hid hb
    have hZ0 := Ex.refl (fun z => z = g ∨ z = h ∨ N0 ≤ z) wz
    have HW := Lib.hid (LNew_in (fun _ => 0) 1 _ _ 4 4 (lM a (cu9 a)) (sM a) tries wz (HZR.out.subsC (by decide) HD1.out (HCU.out.ok HOK.out)) (HZS.out wz hZ0) (by decide) (HCU.out.fits HOK.out) HTR.out)
    clear hb hl hl2 hsz hrr hg hN0 hZ0 SP TT LL SS HSP9 HBZ
    go_wp2_with fail
    refine HW.out.mono ?_; rintro e w5 ⟨o, rfl, hp, ho, hb⟩
    rw [HN0.out] at hp ho
    have AA := Lib.hid (show PLive w5 (lamN (fun _ => 0) N0 1) 1 o (cM a) (x0F 4 (lM a (cu9 a)) (sM a) tries) from hp)
    have Z5 := Lib.hid (show Ex (fun z => z = g ∨ z = h ∨ N0 ≤ z) wz w5 from (Ex.of_below hb))
    have K5 := Lib.hid (KZ.out.ex (T := fun _ => False) (Ex.of_below hb) (fun h => h) (fun h => h))
    have S5 := Lib.hid (HZR.out.bl hb)
    have HO5 := Lib.hid (show N0 ≤ w5.heap.size from by have := hb.size; have e := HN0.out; omega)
    clear hp ho hb HW KZ HZR
    have k0 : ((0 : Int) != 0) = false := rfl
    go_upto_region 27 with fail
    clear k0
    have hp6 : Blk (w5.alloc (.cells #[.int .i64 0, .int .u64 0, .int .i64 0, .int .u64 0] 61)) w5.heap.size 61 (pubC pz) := Blk.new w5 _ _
    obtain ⟨pb, hpb⟩ : ∃ pb, w5.heap.size = pb := ⟨_, rfl⟩
    have HPBE := Lib.hid hpb
    simp only [hpb] at hp6 ⊢
    have e6 := (Ex.refl (fun _ => False) w5).alloc (.cells #[.int .i64 0, .int .u64 0, .int .i64 0, .int .u64 0] 61)
    have hs6 : (w5.alloc (.cells #[.int .i64 0, .int .u64 0, .int .i64 0, .int .u64 0] 61)).heap.size = pb + 1 := by rw [← hpb]; simp
    have P6 := Lib.hid hp6
    have E6 := Lib.hid e6
    have HS6 := Lib.hid hs6
    clear hp6 e6 hs6 hpb
    generalize w5.alloc (.cells #[.int .i64 0, .int .u64 0, .int .i64 0, .int .u64 0] 61) = w6 at *
    go_upto_region 28 with fail
    have hq7 : Blk (w6.alloc (.cells #[.slice none 0 0, .slice none 0 0, .slice none 0 0, .slice none 0 0] 62)) w6.heap.size 62 (teV teZ) := Blk.new w6 _ _
    have e7 := (Ex.refl (fun _ => False) w6).alloc (.cells #[.slice none 0 0, .slice none 0 0, .slice none 0 0, .slice none 0 0] 62)
    have hs7 : (w6.alloc (.cells #[.slice none 0 0, .slice none 0 0, .slice none 0 0, .slice none 0 0] 62)).heap.size = pb + 2 := by rw [show (w6.alloc (.cells #[.slice none 0 0, .slice none 0 0, .slice none 0 0, .slice none 0 0] 62)).heap.size = w6.heap.size + 1 from by simp, HS6.out]
    simp only [HS6.out] at hq7 ⊢
    have Q7 := Lib.hid hq7
    have E7 := Lib.hid e7
    have HS7 := Lib.hid hs7
    clear hq7 e7 hs7
    generalize w6.alloc (.cells #[.slice none 0 0, .slice none 0 0, .slice none 0 0, .slice none 0 0] 62) = w7 at *
    go_upto_region 29 with fail
    have hown := World.ownsRow_made (base := 0) (e := 62) (size := 4) w7 #[] 0 (Nat.zero_le _) (Nat.zero_le _) rfl
    have e8 := (Ex.refl (fun _ => False) w7).alloc (.cells #[] 62)
    simp only [HS7.out] at hown ⊢
    have OW8 := Lib.hid hown
    have E8 := Lib.hid e8
    clear hown e8
    generalize w7.alloc (.cells #[] 62) = w8 at *
    obtain ⟨lam, hlam⟩ : ∃ lam, lamN (lamN (lamN (fun _ => 0) N0 1) pb 0) (pb + 2) 4 = lam := ⟨_, rfl⟩
    have E58 := Lib.hid ((E6.out.trans E7.out).trans E8.out)
    have HMM := Lib.hid (show MM w8 lam wz N0 g h pb (pb + 1) o r1 a (cu9 a) (x0F 4 (lM a (cu9 a)) (sM a) tries) pz (zeros 60) 0 teZ (.slice (some ⟨pb + 2, 0, none⟩) 0 0) [] from by
      have o_ := HGH.out
      have hpN : N0 ≤ pb := by have h1 := HO5.out; have h2 := HPBE.out; omega
      have z0 : ∀ z, z < pb → lam z = lamN (fun _ => 0) N0 1 z := fun z hz => by rw [← hlam, lamN_lt (by omega), lamN_lt hz]
      refine ⟨K5.out.ex E58.out (fun h => h) (fun h => h), P6.out.ex (E7.out.trans E8.out) (fun h => h), Q7.out.ex E8.out (fun h => h), fun j hj => QI.nil _ _, fun j hj => Nat.le_refl 0, OW8.out, fun z hz => ?_, fun e he => absurd he (by simp), ?_, S5.out.ex E58.out (fun h => h), Z5.out.trans (E58.out.mono (fun _ h => h.elim)), ⟨o_.2.1, by omega, hpN, by omega, by omega, fun z hz => ?_, ?_, ?_, ?_, by omega⟩⟩
      · simp [Value.ownBlock] at hz
        rw [← hlam, ← hz]
        exact lamN_ge (Nat.le_refl _)
      · refine (AA.out.relam (fun z hz => ?_)).ex E58.out (fun _ h => h.elim)
        exact z0 z (by have h2 := HPBE.out; omega)
      · rw [z0 z (by omega), lamN_lt hz]
      · rw [← hlam, lamN_lt (by omega), lamN_ge (Nat.le_refl _)]
      · rw [← hlam, lamN_lt (by omega), lamN_ge (by omega)]
      · rw [z0 _ (by omega), lamN_lt (by omega)])
    have HPN := Lib.hid (show PN a tries (cu9 a) (x0F 4 (lM a (cu9 a)) (sM a) tries) pz (zeros 60) teZ [] [] 0 0 0 from ⟨fun k hk => TInv.zero k _ _ (HOK.out.top k hk).1.1, by simp [zeros], fun k hk => Int.le_refl 0, HCU.out, Prog.zero HOK.out HCU.out HTR.out (Int.le_refl 0), fun j hj => by
      have h := (qOf_len (cu9 a j) 0).2 (by rw [seen_n]; show (0 : Int) < if (0 : Int) < 1 then 1 else _; rw [if_pos (by decide)]; decide)
      exact (List.eq_nil_of_length_eq_zero h).symm, rfl, fun e he => absurd he (by simp), rfl, ⟨Int.le_refl 0, Int.le_refl 0⟩⟩)
    clear hlam AA Z5 K5 S5 P6 E6 Q7 E7 OW8 E8 E58
    go_wp2_with fail
    go_loopw [7, 15, 16, 20, 21, 22, 23, 24, 25, 26, 27, 28, 29, 30, 31, 32, 33] (fun s7 s15 s16 s20 s21 s22 s23 s24 s25 s26 s27 s28 s29 s30 s31 s32 s33 wr => ∃ (i : Nat) (lam : Nat → Nat) (qb o r cl : Nat) (cu : Nat → Cur) (x : PX) (b : Nat → Pb) (WS : List Int) (t : Int) (q : TE) (tv : Value) (ents : List TE) (th : List (Int × Int)) (ends seen : Int), i ≤ np ∧ s23 = .int .i64 i ∧ s7 = .slice (some ⟨r, 0, none⟩) 4 cl ∧ 4 ≤ cl ∧ s16 = .pointer (some ⟨o, 0, none⟩) ∧ s20 = tv ∧ s21 = .int .i64 ends ∧ s22 = .int .i64 seen ∧ qb = pb + 1 ∧ MM wr lam wz N0 g h pb qb o r a cu x b WS t q tv ents ∧ PN a tries cu x b WS q ents th ends seen i) (fun s7 s15 s16 s20 s21 s22 s23 s24 s25 s26 s27 s28 s29 s30 s31 s32 s33 _ => np - (intOf s23).toNat)
    case atStart => exact ⟨0, lam, _, o, r1, c7, _, _, _, _, _, _, _, _, _, 0, 0, by omega, rfl, rfl, HD1.out, rfl, rfl, rfl, rfl, rfl, HMM.out, HPN.out⟩
    case round =>
      clear HMM HPN
      obtain ⟨i, lam, qb, o, r, cl, cu, x, b, WS, t, q, tv, ents, th, ends, seen, hi, rfl, rfl, hcl, rfl, e20, rfl, rfl, rfl, hmm, hpn⟩ := hrel
      obtain rfl := e20.symm
      have MM0 := Lib.hid hmm
      have PN0 := Lib.hid hpn
      have HCL := Lib.hid hcl
      clear hmm hpn hcl
      obtain ⟨wC, rfl⟩ : ∃ W : World, W = wr := ⟨_, rfl⟩
      by_cases hlt : i < np
      · have kd : decide ((i : Int) < (np : Int)) = true := decide_eq_true (by omega)
        have kd2 : decide (i < np) = true := decide_eq_true hlt
        have ki0 : (0 : Int) ≤ (i : Int) := by omega
        have ki1 : (i : Int) < (np : Int) := by omega
        have HI := Lib.hid hlt
        have HMI := Lib.hid (turn_no i np hlt (by have h1 := HNP.out; unfold maxLen; omega))
        clear hi hlt
        obtain ⟨b3, o3, rfl, hb3, hc3⟩ := HF3.out (by intro hz; have h1 := HNE.out; have h2 := HI.out; rw [hz] at h1; simp at h1; omega)
        have HCE := Lib.hid (show ∀ W, Ex (fun z => z = g ∨ z = h ∨ N0 ≤ z) wz W → W.cell? ⟨b3, o3 + i, none⟩ = some (.int .i64 (nth pk i)) from fun W p => ((HZL.out W p).cell (p := ⟨b3, o3 + i, none⟩) hb3).trans (hc3 i (by rw [HNE.out]; exact HI.out)))
        clear hb3 hc3
        obtain ⟨pv, hpv⟩ : ∃ pv, nth pk i = pv := ⟨_, rfl⟩
        rw [hpv] at HCE
        clear hpv
        have xc := HCE.out wC MM0.out.z
        have HORD := Lib.hid (show g < N0 ∧ h < N0 ∧ N0 ≤ pb ∧ h + 1 = g ∧ tb < h ∧ spb < h from by have o_ := HGH.out; have l_ := MM0.out.lm; have := l_.lpb; omega)
        by_cases p0 : pv = 0
        · as_aux_lemma =>
            subst p0
            clear HCE
            go_upto_region 36 with fail
            clear xc kd kd2
            have hne : Nonempty (Held (Ex (fun z => z = g ∨ z = h ∨ z = pb) wC)) := ⟨⟨wC, Ex.refl _ _⟩⟩
            have HPB := Lib.hid (show ∀ y : Held (Ex (fun z => z = g ∨ z = h ∨ z = pb) wC), Blk y.w spb 56 (spA a 2) from fun y => HZP.out y.w (MM0.out.z.trans (y.ok.mono (fun z hz => by have hz : z = g ∨ z = h ∨ z = pb := hz; have o_ := HORD.out; omega))))
            have c0 : ∀ y : Held (Ex (fun z => z = g ∨ z = h ∨ z = pb) wC), y.w.cell? ⟨spb, 0, none⟩ = some (.int .i64 0) := fun y => (HPB.out y).cell 0
            have c1 : ∀ y : Held (Ex (fun z => z = g ∨ z = h ∨ z = pb) wC), y.w.cell? ⟨spb, 1, none⟩ = some (.int .i64 1) := fun y => (HPB.out y).cell 1
            have c2 : ∀ y : Held (Ex (fun z => z = g ∨ z = h ∨ z = pb) wC), y.w.cell? ⟨spb, 2, none⟩ = some (.int .i64 2) := fun y => (HPB.out y).cell 2
            have c3 : ∀ y : Held (Ex (fun z => z = g ∨ z = h ∨ z = pb) wC), y.w.cell? ⟨spb, 3, none⟩ = some (.int .i64 (a.W 0)) := fun y => (HPB.out y).cell 3
            have c4 : ∀ y : Held (Ex (fun z => z = g ∨ z = h ∨ z = pb) wC), y.w.cell? ⟨spb, 4, none⟩ = some (.int .i64 (a.D 0)) := fun y => (HPB.out y).cell 4
            clear HPB
            refine drawn_bars (S := (Ex (fun z => z = g ∨ z = h ∨ z = pb) wC)) [([0, 1, 2, 3, 4, 5, 6, 7], 8)] [] (by kernel_rfl) (by kernel_rfl) (by kernel_rfl) rfl (Ex.refl _ _).drew ?_
            refine Phased.go ?_
            simp only [pick, List.map_cons, List.map_nil, List.getElem?_cons_zero, List.getElem?_cons_succ, Option.getD_some]
            repeat (go_big_quiet_step (fail))
            refine wpQuiet_nil ?_
            have MD := Lib.hid (MM0.out.bl (Below.refl _ wC).drew)
            go_wp2_with fail
            refine (publish0_any g h pb b 0 (a.W 0) (a.D 0) WS t wC.drew MD.out.bank MD.out.pubs PN0.out.len (PN0.out.tinv 0 (by decide)) (HOK.out.top 0 (by decide)) (by have h1 := PN0.out.gn 0 (by decide); have h2 := HI.out; have h3 := HNP.out; omega) (by have o_ := HORD.out; omega)).mono ?_; rintro e w9 ⟨rfl, ⟨t', hk9⟩, hp9, hx9⟩
            have q1 : Ex (fun z => z = g ∨ z = h ∨ z = pb) wC w9 := (Ex.refl _ wC).drew.trans hx9
            have M9 := Lib.hid (MD.out.pub hk9 hp9 hx9)
            clear hk9 hp9 hx9 MD
            have HPN2 := Lib.hid (fun (q' : TE) (hq : ∀ j, j < 4 → q'.L j = if j / 2 = 0 ∧ pubE (a.W 0) (b 0) = true then pushF (q.L j) ((b 0).p + 1) (a.rm j) else q.L j) => PN0.out.pub HOK.out (k := 0) (by decide) hq)
            have HPBV := Lib.hid (PN0.out.pb 0 (by decide))
            have HQL := Lib.hid (fun (j : Nat) (hj : j < 4) => PN0.out.qlen HOK.out hj)
            have HEB := Lib.hid (show 0 ≤ ends ∧ ends ≤ 800 from by have h1 := PN0.out.hends; have h2 := PN0.out.pb 0 (by decide); have h3 := PN0.out.pb 1 (by decide); have h4 := HI.out; have h5 := HNP.out; omega)
            have HGN := Lib.hid (fun (he : pubE (a.W 0) (b 0) = true) => pubE_gn he)
            clear MM0 PN0
            go_wp2_with fail
            refine behind_normal ⟨(Ex (fun z => z = g ∨ z = h ∨ z = pb) wC), fun W h => h, q1, ?_⟩
            refine Phased.end_ ?_
            have hne5 : Nonempty (Held (fun W => W = w9)) := ⟨⟨_, rfl⟩⟩
            simp only [pick, List.map_cons, List.map_nil, List.getElem?_cons_zero, List.getElem?_cons_succ, Option.getD_some]
            repeat (go_big_quiet_step (fail))
            refine wpQuiet_nil ?_
            clear hne hne5 c0 c1 c2 c3 c4 q1
            obtain ⟨pe, hpe⟩ : ∃ pe, pubE (a.W 0) (b 0) = pe := ⟨_, rfl⟩
            rw [hpe] at HPN2 HGN ⊢
            clear hpe
            cases pe with
            | false =>
              have HP3 := Lib.hid (HPN2.out q (fun j hj => by rw [if_neg (fun h => by cases h.2)]))
              go_wp2_with fail
              go_roundw
              case rel => exact ⟨i + 1, lam, _, o, r, cl, cu, x, _, _, _, q, tv, ents, th, ends, seen, HI.out, HMI.out.1, rfl, HCL.out, rfl, rfl, rfl, rfl, rfl, M9.out, (by have h := HP3.out; simpa using h)⟩
              case measure => exact HMI.out.2
            | true =>
              have HGV := Lib.hid (HGN.out rfl)
              have hwe : wrap64 (ends + 1) = ends + 1 := wrap64_in _ (by have h := HEB.out; omega)
              have HWE := Lib.hid hwe
              obtain ⟨bn, hbn⟩ : ∃ bn : Nat → Pb, (fun z => if z = 0 then pubB (a.W 0) (b 0) else b z) = bn := ⟨_, rfl⟩
              obtain ⟨Wn, hWn⟩ : ∃ Wn, setF WS (pubAt (0 : Int) (a.W 0) (a.D 0) (b 0)) (pubV (0 : Int) (a.W 0) (b 0)) = Wn := ⟨_, rfl⟩
              have HPN3 := Lib.hid (show ∀ q' : TE, (∀ j, j < 4 → q'.L j = if j / 2 = 0 then pushF (q.L j) ((b 0).p + 1) (a.rm j) else q.L j) → PN a tries cu x bn Wn q' ents th (ends + 1) seen ((i : Int) + 1) from fun q' hq => by
                have h := HPN2.out q' (fun j hj => by
                  rw [hq j hj]
                  by_cases e : j / 2 = 0
                  · rw [if_pos e, if_pos ⟨e, rfl⟩]
                  · rw [if_neg e, if_neg (fun h => e h.1)])
                rw [← hbn, ← hWn]
                simpa using h)
              have HGB := Lib.hid (show (bn 0).gn = (b 0).p + 1 from by rw [← hbn]; simp only [if_true]; exact HGV.out)
              rw [hbn, hWn] at M9
              clear HPN2 HGN HGV hbn hWn
              obtain ⟨G, hG⟩ : ∃ G, (bn 0).gn = G := ⟨_, rfl⟩
              have HGE := Lib.hid hG
              have HGR := Lib.hid (show G = (b 0).p + 1 ∧ 0 ≤ G ∧ G ≤ 1000 from by rw [← hG, HGB.out]; have h1 := HPBV.out; have h2 := HI.out; have h3 := HNP.out; omega)
              clear hG HGB
              go_wp2_with fail
              clear hwe
              go_loopw [25] (fun s25 wr => ∃ (j : Nat) (lam' : Nat → Nat) (q' : TE), 0 ≤ j ∧ j ≤ 2 ∧ s25 = .int .i64 j ∧ MM wr lam' wz N0 g h pb (pb + 1) o r a cu x bn Wn t' q' tv ents ∧ ∀ z, z < 4 → q'.L z = if 0 ≤ z ∧ z < j then pushF (q.L z) G (a.rm z) else q.L z) (fun s25 _ => 2 - (intOf s25).toNat)
              case atStart => exact ⟨0, lam, q, Nat.le_refl _, by decide, rfl, M9.out, fun z hz => by rw [if_neg (by omega)]⟩
              case round =>
                clear M9
                obtain ⟨j, lam', q', hj1, hj2, rfl, hmm, hqq⟩ := hrel
                have M0 := Lib.hid hmm
                have HQQ := Lib.hid hqq
                clear hmm hqq
                obtain ⟨wq, rfl⟩ : ∃ W : World, W = wr := ⟨_, rfl⟩
                rcases (show j = 0 ∨ j = 1 ∨ j = 2 by omega) with rfl | rfl | rfl
                · as_aux_lemma =>
                    have HLJ := Lib.hid (show q'.L 0 = q.L 0 from by rw [HQQ.out 0 (by decide), if_neg (by omega)])
                    clear hj1 hj2
                    go_upto_region 41 with fail
                    have hne : Nonempty (Held (Below wq.heap.size wq)) := ⟨⟨wq, Below.refl _ _⟩⟩
                    have c0 : ∀ y : Held (Below wq.heap.size wq), y.w.cell? ⟨pb + 1, 0, none⟩ = some (.slice (q'.A 0) (q'.L 0).length (q'.c 0)) := fun y => teV_at (M0.out.qs.bl y.ok) (by decide)
                    have c1 : ∀ y : Held (Below wq.heap.size wq), y.w.cell? ⟨pb, 1, none⟩ = some (.int .u64 G) := fun y => by rw [← HGE.out]; exact (M0.out.pubs.bl y.ok).cell 1
                    have c2 : ∀ y : Held (Below wq.heap.size wq), y.w.cell? ⟨tb, 4, none⟩ = some (.int .i64 (a.rm 0)) := fun y => (HZT.out y.w (M0.out.z.trans ((Ex.of_below (T := fun _ => False) y.ok).mono (fun _ h => h.elim)))).box.cell 4
                    refine drawn_tail (S := (Below wq.heap.size wq)) [19] [([0, 1, 2, 3, 4, 5, 6, 7, 8, 9, 10, 11, 12, 13, 14, 15, 16], 17), ([], 18), ([], 19)] (by kernel_rfl) (by kernel_rfl) (by kernel_rfl) rfl (Below.refl _ _).drew ?_
                    refine PhasedT.go ?_
                    simp only [pick, List.map_cons, List.map_nil, List.getElem?_cons_zero, List.getElem?_cons_succ, Option.getD_some]
                    repeat (go_big_quiet_step (fail))
                    refine wpQuiet_nil ?_
                    have MD := Lib.hid (M0.out.bl (Below.refl _ wq).drew)
                    have QB := Lib.hid (Below.refl wq.heap.size wq).drew
                    have HRM := Lib.hid (show 0 ≤ a.rm 0 ∧ a.rm 0 ≤ 1000 from by have h1 := (HOK.out.sub 0 (by decide)).1; have h2 := (HOK.out.top (0 / 2) (by decide)).2; omega)
                    clear M0
                    generalize wq.drew = wd at *
                    go_wp2_with fail
                    refine (push_any lam' (q'.A 0) (q'.c 0) (q'.L 0) G (a.rm 0) wd (MD.out.qi 0 (by decide)) (by rw [HLJ.out]; exact HQL.out 0 (by decide)) (by have h := HGR.out; omega) HRM.out).mono ?_; rintro e w8 ⟨A9, n9, c9, rfl, hn9, hc9, hqi9, hb9⟩
                    have M1 := Lib.hid ((MD.out.remark 3).bl hb9)
                    have QB2 := Lib.hid (bl QB.out hb9)
                    have HQI := Lib.hid hqi9
                    subst hn9
                    have HC9 := Lib.hid hc9
                    clear hqi9 hb9 hc9 QB MD
                    obtain ⟨lam2, hlam2⟩ : ∃ lam2, lamN lam' wd.heap.size 3 = lam2 := ⟨_, rfl⟩
                    rw [hlam2] at M1 HQI
                    clear hlam2
                    obtain ⟨L9, hL9⟩ : ∃ L9, pushF (q'.L 0) G (a.rm 0) = L9 := ⟨_, rfl⟩
                    have HL9 := Lib.hid hL9
                    rw [hL9] at HQI HC9 ⊢
                    clear hL9
                    go_wp2_with fail
                    refine behind_normal ⟨(Below wq.heap.size wq), fun W h => h, by first | exact QB2.out | exact fun _ => QB2.out, ?_⟩
                    refine PhasedT.go ?_
                    simp only [pick, List.map_cons, List.map_nil, List.getElem?_cons_zero, List.getElem?_cons_succ, Option.getD_some]
                    repeat (go_big_quiet_step (fail))
                    refine wpQuiet_nil ?_
                    go_wp2_with fail
                    refine behind_normal ⟨(Below wq.heap.size wq), fun W h => h, by first | exact QB2.out | exact fun _ => QB2.out, ?_⟩
                    refine PhasedT.go ?_
                    simp only [pick, List.map_cons, List.map_nil, List.getElem?_cons_zero, List.getElem?_cons_succ, Option.getD_some]
                    repeat (go_big_quiet_step (fail))
                    refine wpQuiet_nil ?_
                    clear hne c0 c1 c2
                    have y0 := teV_at M1.out.qs (j := 0) (by decide)
                    have z0 := Blk.frozen M1.out.qs 0
                    go_wp2_with fail
                    clear y0 z0
                    have bb := teV_set M1.out.qs (j := 0) (by decide) A9 c9 L9
                    have ee : Ex (fun z => z = pb + 1) w8 (w8.setCell ⟨pb + 1, 0, none⟩ (.slice A9 L9.length c9)) := (Ex.refl (fun z => z = pb + 1) w8).setCell (q := ⟨pb + 1, 0, none⟩) (.inl rfl) _
                    have M2 := Lib.hid (M1.out.setq bb ee (fun z hz => by
                      unfold teU
                      by_cases e : z = 0
                      · simp only [if_pos e]; exact HQI.out
                      · simp only [if_neg e]; exact M1.out.qi z hz) (fun z hz => by
                      unfold teU
                      by_cases e : z = 0
                      · simp only [if_pos e]; exact HC9.out
                      · simp only [if_neg e]; exact M1.out.qc z hz))
                    clear bb ee M1 QB2
                    refine behind_normal ⟨(Below wq.heap.size wq), fun W h => h, by first | exact fun h => absurd h (by decide) | trivial | simp, ?_⟩
                    refine PhasedT.end_ ?_
                    generalize w8.setCell ⟨pb + 1, 0, none⟩ (.slice A9 L9.length c9) = wy at *
                    go_wp2_with fail
                    go_roundw
                    case rel => exact ⟨1, lam2, _, by decide, by decide, rfl, M2.out, fun z hz => by
                      unfold teU
                      by_cases e : z = 0
                      · simp only [if_pos e]
                        rw [if_pos (by omega), e, ← HL9.out, HLJ.out]
                      · simp only [if_neg e]
                        rw [HQQ.out z hz]
                        by_cases e2 : 0 ≤ z ∧ z < 0
                        · rw [if_pos e2, if_pos (by omega)]
                        · rw [if_neg e2, if_neg (by omega)]⟩
                    case measure => simp [intOf]
                · as_aux_lemma =>
                    have HLJ := Lib.hid (show q'.L 1 = q.L 1 from by rw [HQQ.out 1 (by decide), if_neg (by omega)])
                    clear hj1 hj2
                    go_upto_region 41 with fail
                    have hne : Nonempty (Held (Below wq.heap.size wq)) := ⟨⟨wq, Below.refl _ _⟩⟩
                    have c0 : ∀ y : Held (Below wq.heap.size wq), y.w.cell? ⟨pb + 1, 1, none⟩ = some (.slice (q'.A 1) (q'.L 1).length (q'.c 1)) := fun y => teV_at (M0.out.qs.bl y.ok) (by decide)
                    have c1 : ∀ y : Held (Below wq.heap.size wq), y.w.cell? ⟨pb, 1, none⟩ = some (.int .u64 G) := fun y => by rw [← HGE.out]; exact (M0.out.pubs.bl y.ok).cell 1
                    have c2 : ∀ y : Held (Below wq.heap.size wq), y.w.cell? ⟨tb, 5, none⟩ = some (.int .i64 (a.rm 1)) := fun y => (HZT.out y.w (M0.out.z.trans ((Ex.of_below (T := fun _ => False) y.ok).mono (fun _ h => h.elim)))).box.cell 5
                    refine drawn_tail (S := (Below wq.heap.size wq)) [19] [([0, 1, 2, 3, 4, 5, 6, 7, 8, 9, 10, 11, 12, 13, 14, 15, 16], 17), ([], 18), ([], 19)] (by kernel_rfl) (by kernel_rfl) (by kernel_rfl) rfl (Below.refl _ _).drew ?_
                    refine PhasedT.go ?_
                    simp only [pick, List.map_cons, List.map_nil, List.getElem?_cons_zero, List.getElem?_cons_succ, Option.getD_some]
                    repeat (go_big_quiet_step (fail))
                    refine wpQuiet_nil ?_
                    have MD := Lib.hid (M0.out.bl (Below.refl _ wq).drew)
                    have QB := Lib.hid (Below.refl wq.heap.size wq).drew
                    have HRM := Lib.hid (show 0 ≤ a.rm 1 ∧ a.rm 1 ≤ 1000 from by have h1 := (HOK.out.sub 1 (by decide)).1; have h2 := (HOK.out.top (1 / 2) (by decide)).2; omega)
                    clear M0
                    generalize wq.drew = wd at *
                    go_wp2_with fail
                    refine (push_any lam' (q'.A 1) (q'.c 1) (q'.L 1) G (a.rm 1) wd (MD.out.qi 1 (by decide)) (by rw [HLJ.out]; exact HQL.out 1 (by decide)) (by have h := HGR.out; omega) HRM.out).mono ?_; rintro e w8 ⟨A9, n9, c9, rfl, hn9, hc9, hqi9, hb9⟩
                    have M1 := Lib.hid ((MD.out.remark 3).bl hb9)
                    have QB2 := Lib.hid (bl QB.out hb9)
                    have HQI := Lib.hid hqi9
                    subst hn9
                    have HC9 := Lib.hid hc9
                    clear hqi9 hb9 hc9 QB MD
                    obtain ⟨lam2, hlam2⟩ : ∃ lam2, lamN lam' wd.heap.size 3 = lam2 := ⟨_, rfl⟩
                    rw [hlam2] at M1 HQI
                    clear hlam2
                    obtain ⟨L9, hL9⟩ : ∃ L9, pushF (q'.L 1) G (a.rm 1) = L9 := ⟨_, rfl⟩
                    have HL9 := Lib.hid hL9
                    rw [hL9] at HQI HC9 ⊢
                    clear hL9
                    go_wp2_with fail
                    refine behind_normal ⟨(Below wq.heap.size wq), fun W h => h, by first | exact QB2.out | exact fun _ => QB2.out, ?_⟩
                    refine PhasedT.go ?_
                    simp only [pick, List.map_cons, List.map_nil, List.getElem?_cons_zero, List.getElem?_cons_succ, Option.getD_some]
                    repeat (go_big_quiet_step (fail))
                    refine wpQuiet_nil ?_
                    go_wp2_with fail
                    refine behind_normal ⟨(Below wq.heap.size wq), fun W h => h, by first | exact QB2.out | exact fun _ => QB2.out, ?_⟩
                    refine PhasedT.go ?_
                    simp only [pick, List.map_cons, List.map_nil, List.getElem?_cons_zero, List.getElem?_cons_succ, Option.getD_some]
                    repeat (go_big_quiet_step (fail))
                    refine wpQuiet_nil ?_
                    clear hne c0 c1 c2
                    have y0 := teV_at M1.out.qs (j := 1) (by decide)
                    have z0 := Blk.frozen M1.out.qs 1
                    go_wp2_with fail
                    clear y0 z0
                    have bb := teV_set M1.out.qs (j := 1) (by decide) A9 c9 L9
                    have ee : Ex (fun z => z = pb + 1) w8 (w8.setCell ⟨pb + 1, 1, none⟩ (.slice A9 L9.length c9)) := (Ex.refl (fun z => z = pb + 1) w8).setCell (q := ⟨pb + 1, 1, none⟩) (.inl rfl) _
                    have M2 := Lib.hid (M1.out.setq bb ee (fun z hz => by
                      unfold teU
                      by_cases e : z = 1
                      · simp only [if_pos e]; exact HQI.out
                      · simp only [if_neg e]; exact M1.out.qi z hz) (fun z hz => by
                      unfold teU
                      by_cases e : z = 1
                      · simp only [if_pos e]; exact HC9.out
                      · simp only [if_neg e]; exact M1.out.qc z hz))
                    clear bb ee M1 QB2
                    refine behind_normal ⟨(Below wq.heap.size wq), fun W h => h, by first | exact fun h => absurd h (by decide) | trivial | simp, ?_⟩
                    refine PhasedT.end_ ?_
                    generalize w8.setCell ⟨pb + 1, 1, none⟩ (.slice A9 L9.length c9) = wy at *
                    go_wp2_with fail
                    go_roundw
                    case rel => exact ⟨2, lam2, _, by decide, by decide, rfl, M2.out, fun z hz => by
                      unfold teU
                      by_cases e : z = 1
                      · simp only [if_pos e]
                        rw [if_pos (by omega), e, ← HL9.out, HLJ.out]
                      · simp only [if_neg e]
                        rw [HQQ.out z hz]
                        by_cases e2 : 0 ≤ z ∧ z < 1
                        · rw [if_pos e2, if_pos (by omega)]
                        · rw [if_neg e2, if_neg (by omega)]⟩
                    case measure => simp [intOf]
                · clear hj1 hj2
                  have HP4 := Lib.hid (HPN3.out q' (fun z hz => by
                    rw [HQQ.out z hz, ← HGR.out.1]
                    by_cases e : z / 2 = 0
                    · rw [if_pos e, if_pos (by omega)]
                    · rw [if_neg e, if_neg (by omega)]))
                  go_wp2_with fail
                  go_roundw
                  case rel => exact ⟨i + 1, lam', _, o, r, cl, cu, x, bn, Wn, t', q', tv, ents, th, ends + 1, seen, HI.out, HMI.out.1, rfl, HCL.out, rfl, rfl, by first | rfl | rw [HWE.out], rfl, rfl, M0.out, HP4.out⟩
                  case measure => exact HMI.out.2
        by_cases p1 : pv = 1
        · as_aux_lemma =>
            subst p1
            clear HCE
            go_upto_region 36 with fail
            clear xc kd kd2
            have hne : Nonempty (Held (Ex (fun z => z = g ∨ z = h ∨ z = pb) wC)) := ⟨⟨wC, Ex.refl _ _⟩⟩
            have HPB := Lib.hid (show ∀ y : Held (Ex (fun z => z = g ∨ z = h ∨ z = pb) wC), Blk y.w spb 56 (spA a 2) from fun y => HZP.out y.w (MM0.out.z.trans (y.ok.mono (fun z hz => by have hz : z = g ∨ z = h ∨ z = pb := hz; have o_ := HORD.out; omega))))
            have c0 : ∀ y : Held (Ex (fun z => z = g ∨ z = h ∨ z = pb) wC), y.w.cell? ⟨spb, 5, none⟩ = some (.int .i64 30) := fun y => (HPB.out y).cell 5
            have c1 : ∀ y : Held (Ex (fun z => z = g ∨ z = h ∨ z = pb) wC), y.w.cell? ⟨spb, 6, none⟩ = some (.int .i64 31) := fun y => (HPB.out y).cell 6
            have c2 : ∀ y : Held (Ex (fun z => z = g ∨ z = h ∨ z = pb) wC), y.w.cell? ⟨spb, 7, none⟩ = some (.int .i64 32) := fun y => (HPB.out y).cell 7
            have c3 : ∀ y : Held (Ex (fun z => z = g ∨ z = h ∨ z = pb) wC), y.w.cell? ⟨spb, 8, none⟩ = some (.int .i64 (a.W 1)) := fun y => (HPB.out y).cell 8
            have c4 : ∀ y : Held (Ex (fun z => z = g ∨ z = h ∨ z = pb) wC), y.w.cell? ⟨spb, 9, none⟩ = some (.int .i64 (a.D 1)) := fun y => (HPB.out y).cell 9
            clear HPB
            refine drawn_bars (S := (Ex (fun z => z = g ∨ z = h ∨ z = pb) wC)) [([0, 1, 2, 3, 4, 5, 6, 7], 8)] [] (by kernel_rfl) (by kernel_rfl) (by kernel_rfl) rfl (Ex.refl _ _).drew ?_
            refine Phased.go ?_
            simp only [pick, List.map_cons, List.map_nil, List.getElem?_cons_zero, List.getElem?_cons_succ, Option.getD_some]
            repeat (go_big_quiet_step (fail))
            refine wpQuiet_nil ?_
            have MD := Lib.hid (MM0.out.bl (Below.refl _ wC).drew)
            go_wp2_with fail
            refine (publish1_any g h pb b 30 (a.W 1) (a.D 1) WS t wC.drew MD.out.bank MD.out.pubs PN0.out.len (PN0.out.tinv 1 (by decide)) (HOK.out.top 1 (by decide)) (by have h1 := PN0.out.gn 1 (by decide); have h2 := HI.out; have h3 := HNP.out; omega) (by have o_ := HORD.out; omega)).mono ?_; rintro e w9 ⟨rfl, ⟨t', hk9⟩, hp9, hx9⟩
            have q1 : Ex (fun z => z = g ∨ z = h ∨ z = pb) wC w9 := (Ex.refl _ wC).drew.trans hx9
            have M9 := Lib.hid (MD.out.pub hk9 hp9 hx9)
            clear hk9 hp9 hx9 MD
            have HPN2 := Lib.hid (fun (q' : TE) (hq : ∀ j, j < 4 → q'.L j = if j / 2 = 1 ∧ pubE (a.W 1) (b 1) = true then pushF (q.L j) ((b 1).p + 1) (a.rm j) else q.L j) => PN0.out.pub HOK.out (k := 1) (by decide) hq)
            have HPBV := Lib.hid (PN0.out.pb 1 (by decide))
            have HQL := Lib.hid (fun (j : Nat) (hj : j < 4) => PN0.out.qlen HOK.out hj)
            have HEB := Lib.hid (show 0 ≤ ends ∧ ends ≤ 800 from by have h1 := PN0.out.hends; have h2 := PN0.out.pb 0 (by decide); have h3 := PN0.out.pb 1 (by decide); have h4 := HI.out; have h5 := HNP.out; omega)
            have HGN := Lib.hid (fun (he : pubE (a.W 1) (b 1) = true) => pubE_gn he)
            clear MM0 PN0
            go_wp2_with fail
            refine behind_normal ⟨(Ex (fun z => z = g ∨ z = h ∨ z = pb) wC), fun W h => h, q1, ?_⟩
            refine Phased.end_ ?_
            have hne5 : Nonempty (Held (fun W => W = w9)) := ⟨⟨_, rfl⟩⟩
            simp only [pick, List.map_cons, List.map_nil, List.getElem?_cons_zero, List.getElem?_cons_succ, Option.getD_some]
            repeat (go_big_quiet_step (fail))
            refine wpQuiet_nil ?_
            clear hne hne5 c0 c1 c2 c3 c4 q1
            obtain ⟨pe, hpe⟩ : ∃ pe, pubE (a.W 1) (b 1) = pe := ⟨_, rfl⟩
            rw [hpe] at HPN2 HGN ⊢
            clear hpe
            cases pe with
            | false =>
              have HP3 := Lib.hid (HPN2.out q (fun j hj => by rw [if_neg (fun h => by cases h.2)]))
              go_wp2_with fail
              go_roundw
              case rel => exact ⟨i + 1, lam, _, o, r, cl, cu, x, _, _, _, q, tv, ents, th, ends, seen, HI.out, HMI.out.1, rfl, HCL.out, rfl, rfl, rfl, rfl, rfl, M9.out, (by have h := HP3.out; simpa using h)⟩
              case measure => exact HMI.out.2
            | true =>
              have HGV := Lib.hid (HGN.out rfl)
              have hwe : wrap64 (ends + 1) = ends + 1 := wrap64_in _ (by have h := HEB.out; omega)
              have HWE := Lib.hid hwe
              obtain ⟨bn, hbn⟩ : ∃ bn : Nat → Pb, (fun z => if z = 1 then pubB (a.W 1) (b 1) else b z) = bn := ⟨_, rfl⟩
              obtain ⟨Wn, hWn⟩ : ∃ Wn, setF WS (pubAt (1 : Int) (a.W 1) (a.D 1) (b 1)) (pubV (1 : Int) (a.W 1) (b 1)) = Wn := ⟨_, rfl⟩
              have HPN3 := Lib.hid (show ∀ q' : TE, (∀ j, j < 4 → q'.L j = if j / 2 = 1 then pushF (q.L j) ((b 1).p + 1) (a.rm j) else q.L j) → PN a tries cu x bn Wn q' ents th (ends + 1) seen ((i : Int) + 1) from fun q' hq => by
                have h := HPN2.out q' (fun j hj => by
                  rw [hq j hj]
                  by_cases e : j / 2 = 1
                  · rw [if_pos e, if_pos ⟨e, rfl⟩]
                  · rw [if_neg e, if_neg (fun h => e h.1)])
                rw [← hbn, ← hWn]
                simpa using h)
              have HGB := Lib.hid (show (bn 1).gn = (b 1).p + 1 from by rw [← hbn]; simp only [if_true]; exact HGV.out)
              rw [hbn, hWn] at M9
              clear HPN2 HGN HGV hbn hWn
              obtain ⟨G, hG⟩ : ∃ G, (bn 1).gn = G := ⟨_, rfl⟩
              have HGE := Lib.hid hG
              have HGR := Lib.hid (show G = (b 1).p + 1 ∧ 0 ≤ G ∧ G ≤ 1000 from by rw [← hG, HGB.out]; have h1 := HPBV.out; have h2 := HI.out; have h3 := HNP.out; omega)
              clear hG HGB
              go_wp2_with fail
              clear hwe
              go_loopw [25] (fun s25 wr => ∃ (j : Nat) (lam' : Nat → Nat) (q' : TE), 2 ≤ j ∧ j ≤ 4 ∧ s25 = .int .i64 j ∧ MM wr lam' wz N0 g h pb (pb + 1) o r a cu x bn Wn t' q' tv ents ∧ ∀ z, z < 4 → q'.L z = if 2 ≤ z ∧ z < j then pushF (q.L z) G (a.rm z) else q.L z) (fun s25 _ => 4 - (intOf s25).toNat)
              case atStart => exact ⟨2, lam, q, Nat.le_refl _, by decide, rfl, M9.out, fun z hz => by rw [if_neg (by omega)]⟩
              case round =>
                clear M9
                obtain ⟨j, lam', q', hj1, hj2, rfl, hmm, hqq⟩ := hrel
                have M0 := Lib.hid hmm
                have HQQ := Lib.hid hqq
                clear hmm hqq
                obtain ⟨wq, rfl⟩ : ∃ W : World, W = wr := ⟨_, rfl⟩
                rcases (show j = 2 ∨ j = 3 ∨ j = 4 by omega) with rfl | rfl | rfl
                · as_aux_lemma =>
                    have HLJ := Lib.hid (show q'.L 2 = q.L 2 from by rw [HQQ.out 2 (by decide), if_neg (by omega)])
                    clear hj1 hj2
                    go_upto_region 41 with fail
                    have hne : Nonempty (Held (Below wq.heap.size wq)) := ⟨⟨wq, Below.refl _ _⟩⟩
                    have c0 : ∀ y : Held (Below wq.heap.size wq), y.w.cell? ⟨pb + 1, 2, none⟩ = some (.slice (q'.A 2) (q'.L 2).length (q'.c 2)) := fun y => teV_at (M0.out.qs.bl y.ok) (by decide)
                    have c1 : ∀ y : Held (Below wq.heap.size wq), y.w.cell? ⟨pb, 3, none⟩ = some (.int .u64 G) := fun y => by rw [← HGE.out]; exact (M0.out.pubs.bl y.ok).cell 3
                    have c2 : ∀ y : Held (Below wq.heap.size wq), y.w.cell? ⟨tb, 10, none⟩ = some (.int .i64 (a.rm 2)) := fun y => (HZT.out y.w (M0.out.z.trans ((Ex.of_below (T := fun _ => False) y.ok).mono (fun _ h => h.elim)))).box.cell 10
                    refine drawn_tail (S := (Below wq.heap.size wq)) [19] [([0, 1, 2, 3, 4, 5, 6, 7, 8, 9, 10, 11, 12, 13, 14, 15, 16], 17), ([], 18), ([], 19)] (by kernel_rfl) (by kernel_rfl) (by kernel_rfl) rfl (Below.refl _ _).drew ?_
                    refine PhasedT.go ?_
                    simp only [pick, List.map_cons, List.map_nil, List.getElem?_cons_zero, List.getElem?_cons_succ, Option.getD_some]
                    repeat (go_big_quiet_step (fail))
                    refine wpQuiet_nil ?_
                    have MD := Lib.hid (M0.out.bl (Below.refl _ wq).drew)
                    have QB := Lib.hid (Below.refl wq.heap.size wq).drew
                    have HRM := Lib.hid (show 0 ≤ a.rm 2 ∧ a.rm 2 ≤ 1000 from by have h1 := (HOK.out.sub 2 (by decide)).1; have h2 := (HOK.out.top (2 / 2) (by decide)).2; omega)
                    clear M0
                    generalize wq.drew = wd at *
                    go_wp2_with fail
                    refine (push_any lam' (q'.A 2) (q'.c 2) (q'.L 2) G (a.rm 2) wd (MD.out.qi 2 (by decide)) (by rw [HLJ.out]; exact HQL.out 2 (by decide)) (by have h := HGR.out; omega) HRM.out).mono ?_; rintro e w8 ⟨A9, n9, c9, rfl, hn9, hc9, hqi9, hb9⟩
                    have M1 := Lib.hid ((MD.out.remark 3).bl hb9)
                    have QB2 := Lib.hid (bl QB.out hb9)
                    have HQI := Lib.hid hqi9
                    subst hn9
                    have HC9 := Lib.hid hc9
                    clear hqi9 hb9 hc9 QB MD
                    obtain ⟨lam2, hlam2⟩ : ∃ lam2, lamN lam' wd.heap.size 3 = lam2 := ⟨_, rfl⟩
                    rw [hlam2] at M1 HQI
                    clear hlam2
                    obtain ⟨L9, hL9⟩ : ∃ L9, pushF (q'.L 2) G (a.rm 2) = L9 := ⟨_, rfl⟩
                    have HL9 := Lib.hid hL9
                    rw [hL9] at HQI HC9 ⊢
                    clear hL9
                    go_wp2_with fail
                    refine behind_normal ⟨(Below wq.heap.size wq), fun W h => h, by first | exact QB2.out | exact fun _ => QB2.out, ?_⟩
                    refine PhasedT.go ?_
                    simp only [pick, List.map_cons, List.map_nil, List.getElem?_cons_zero, List.getElem?_cons_succ, Option.getD_some]
                    repeat (go_big_quiet_step (fail))
                    refine wpQuiet_nil ?_
                    go_wp2_with fail
                    refine behind_normal ⟨(Below wq.heap.size wq), fun W h => h, by first | exact QB2.out | exact fun _ => QB2.out, ?_⟩
                    refine PhasedT.go ?_
                    simp only [pick, List.map_cons, List.map_nil, List.getElem?_cons_zero, List.getElem?_cons_succ, Option.getD_some]
                    repeat (go_big_quiet_step (fail))
                    refine wpQuiet_nil ?_
                    clear hne c0 c1 c2
                    have y0 := teV_at M1.out.qs (j := 2) (by decide)
                    have z0 := Blk.frozen M1.out.qs 2
                    go_wp2_with fail
                    clear y0 z0
                    have bb := teV_set M1.out.qs (j := 2) (by decide) A9 c9 L9
                    have ee : Ex (fun z => z = pb + 1) w8 (w8.setCell ⟨pb + 1, 2, none⟩ (.slice A9 L9.length c9)) := (Ex.refl (fun z => z = pb + 1) w8).setCell (q := ⟨pb + 1, 2, none⟩) (.inl rfl) _
                    have M2 := Lib.hid (M1.out.setq bb ee (fun z hz => by
                      unfold teU
                      by_cases e : z = 2
                      · simp only [if_pos e]; exact HQI.out
                      · simp only [if_neg e]; exact M1.out.qi z hz) (fun z hz => by
                      unfold teU
                      by_cases e : z = 2
                      · simp only [if_pos e]; exact HC9.out
                      · simp only [if_neg e]; exact M1.out.qc z hz))
                    clear bb ee M1 QB2
                    refine behind_normal ⟨(Below wq.heap.size wq), fun W h => h, by first | exact fun h => absurd h (by decide) | trivial | simp, ?_⟩
                    refine PhasedT.end_ ?_
                    generalize w8.setCell ⟨pb + 1, 2, none⟩ (.slice A9 L9.length c9) = wy at *
                    go_wp2_with fail
                    go_roundw
                    case rel => exact ⟨3, lam2, _, by decide, by decide, rfl, M2.out, fun z hz => by
                      unfold teU
                      by_cases e : z = 2
                      · simp only [if_pos e]
                        rw [if_pos (by omega), e, ← HL9.out, HLJ.out]
                      · simp only [if_neg e]
                        rw [HQQ.out z hz]
                        by_cases e2 : 2 ≤ z ∧ z < 2
                        · rw [if_pos e2, if_pos (by omega)]
                        · rw [if_neg e2, if_neg (by omega)]⟩
                    case measure => simp [intOf]
                · as_aux_lemma =>
                    have HLJ := Lib.hid (show q'.L 3 = q.L 3 from by rw [HQQ.out 3 (by decide), if_neg (by omega)])
                    clear hj1 hj2
                    go_upto_region 41 with fail
                    have hne : Nonempty (Held (Below wq.heap.size wq)) := ⟨⟨wq, Below.refl _ _⟩⟩
                    have c0 : ∀ y : Held (Below wq.heap.size wq), y.w.cell? ⟨pb + 1, 3, none⟩ = some (.slice (q'.A 3) (q'.L 3).length (q'.c 3)) := fun y => teV_at (M0.out.qs.bl y.ok) (by decide)
                    have c1 : ∀ y : Held (Below wq.heap.size wq), y.w.cell? ⟨pb, 3, none⟩ = some (.int .u64 G) := fun y => by rw [← HGE.out]; exact (M0.out.pubs.bl y.ok).cell 3
                    have c2 : ∀ y : Held (Below wq.heap.size wq), y.w.cell? ⟨tb, 11, none⟩ = some (.int .i64 (a.rm 3)) := fun y => (HZT.out y.w (M0.out.z.trans ((Ex.of_below (T := fun _ => False) y.ok).mono (fun _ h => h.elim)))).box.cell 11
                    refine drawn_tail (S := (Below wq.heap.size wq)) [19] [([0, 1, 2, 3, 4, 5, 6, 7, 8, 9, 10, 11, 12, 13, 14, 15, 16], 17), ([], 18), ([], 19)] (by kernel_rfl) (by kernel_rfl) (by kernel_rfl) rfl (Below.refl _ _).drew ?_
                    refine PhasedT.go ?_
                    simp only [pick, List.map_cons, List.map_nil, List.getElem?_cons_zero, List.getElem?_cons_succ, Option.getD_some]
                    repeat (go_big_quiet_step (fail))
                    refine wpQuiet_nil ?_
                    have MD := Lib.hid (M0.out.bl (Below.refl _ wq).drew)
                    have QB := Lib.hid (Below.refl wq.heap.size wq).drew
                    have HRM := Lib.hid (show 0 ≤ a.rm 3 ∧ a.rm 3 ≤ 1000 from by have h1 := (HOK.out.sub 3 (by decide)).1; have h2 := (HOK.out.top (3 / 2) (by decide)).2; omega)
                    clear M0
                    generalize wq.drew = wd at *
                    go_wp2_with fail
                    refine (push_any lam' (q'.A 3) (q'.c 3) (q'.L 3) G (a.rm 3) wd (MD.out.qi 3 (by decide)) (by rw [HLJ.out]; exact HQL.out 3 (by decide)) (by have h := HGR.out; omega) HRM.out).mono ?_; rintro e w8 ⟨A9, n9, c9, rfl, hn9, hc9, hqi9, hb9⟩
                    have M1 := Lib.hid ((MD.out.remark 3).bl hb9)
                    have QB2 := Lib.hid (bl QB.out hb9)
                    have HQI := Lib.hid hqi9
                    subst hn9
                    have HC9 := Lib.hid hc9
                    clear hqi9 hb9 hc9 QB MD
                    obtain ⟨lam2, hlam2⟩ : ∃ lam2, lamN lam' wd.heap.size 3 = lam2 := ⟨_, rfl⟩
                    rw [hlam2] at M1 HQI
                    clear hlam2
                    obtain ⟨L9, hL9⟩ : ∃ L9, pushF (q'.L 3) G (a.rm 3) = L9 := ⟨_, rfl⟩
                    have HL9 := Lib.hid hL9
                    rw [hL9] at HQI HC9 ⊢
                    clear hL9
                    go_wp2_with fail
                    refine behind_normal ⟨(Below wq.heap.size wq), fun W h => h, by first | exact QB2.out | exact fun _ => QB2.out, ?_⟩
                    refine PhasedT.go ?_
                    simp only [pick, List.map_cons, List.map_nil, List.getElem?_cons_zero, List.getElem?_cons_succ, Option.getD_some]
                    repeat (go_big_quiet_step (fail))
                    refine wpQuiet_nil ?_
                    go_wp2_with fail
                    refine behind_normal ⟨(Below wq.heap.size wq), fun W h => h, by first | exact QB2.out | exact fun _ => QB2.out, ?_⟩
                    refine PhasedT.go ?_
                    simp only [pick, List.map_cons, List.map_nil, List.getElem?_cons_zero, List.getElem?_cons_succ, Option.getD_some]
                    repeat (go_big_quiet_step (fail))
                    refine wpQuiet_nil ?_
                    clear hne c0 c1 c2
                    have y0 := teV_at M1.out.qs (j := 3) (by decide)
                    have z0 := Blk.frozen M1.out.qs 3
                    go_wp2_with fail
                    clear y0 z0
                    have bb := teV_set M1.out.qs (j := 3) (by decide) A9 c9 L9
                    have ee : Ex (fun z => z = pb + 1) w8 (w8.setCell ⟨pb + 1, 3, none⟩ (.slice A9 L9.length c9)) := (Ex.refl (fun z => z = pb + 1) w8).setCell (q := ⟨pb + 1, 3, none⟩) (.inl rfl) _
                    have M2 := Lib.hid (M1.out.setq bb ee (fun z hz => by
                      unfold teU
                      by_cases e : z = 3
                      · simp only [if_pos e]; exact HQI.out
                      · simp only [if_neg e]; exact M1.out.qi z hz) (fun z hz => by
                      unfold teU
                      by_cases e : z = 3
                      · simp only [if_pos e]; exact HC9.out
                      · simp only [if_neg e]; exact M1.out.qc z hz))
                    clear bb ee M1 QB2
                    refine behind_normal ⟨(Below wq.heap.size wq), fun W h => h, by first | exact fun h => absurd h (by decide) | trivial | simp, ?_⟩
                    refine PhasedT.end_ ?_
                    generalize w8.setCell ⟨pb + 1, 3, none⟩ (.slice A9 L9.length c9) = wy at *
                    go_wp2_with fail
                    go_roundw
                    case rel => exact ⟨4, lam2, _, by decide, by decide, rfl, M2.out, fun z hz => by
                      unfold teU
                      by_cases e : z = 3
                      · simp only [if_pos e]
                        rw [if_pos (by omega), e, ← HL9.out, HLJ.out]
                      · simp only [if_neg e]
                        rw [HQQ.out z hz]
                        by_cases e2 : 2 ≤ z ∧ z < 3
                        · rw [if_pos e2, if_pos (by omega)]
                        · rw [if_neg e2, if_neg (by omega)]⟩
                    case measure => simp [intOf]
                · clear hj1 hj2
                  have HP4 := Lib.hid (HPN3.out q' (fun z hz => by
                    rw [HQQ.out z hz, ← HGR.out.1]
                    by_cases e : z / 2 = 1
                    · rw [if_pos e, if_pos (by omega)]
                    · rw [if_neg e, if_neg (by omega)]))
                  go_wp2_with fail
                  go_roundw
                  case rel => exact ⟨i + 1, lam', _, o, r, cl, cu, x, bn, Wn, t', q', tv, ents, th, ends + 1, seen, HI.out, HMI.out.1, rfl, HCL.out, rfl, rfl, by first | rfl | rw [HWE.out], rfl, rfl, M0.out, HP4.out⟩
                  case measure => exact HMI.out.2
        as_aux_lemma =>
          have k0 : (pv == 0) = false := beq_eq_false_iff_ne.2 p0
          have k1 : (pv == 1) = false := beq_eq_false_iff_ne.2 p1
          clear p0 p1 HCE
          have HST := Lib.hid (PN0.out.prog.step HOK.out PN0.out.hcu PN0.out.len MM0.out.bank.fit PN0.out.tinv (fun _ _ => rfl))
          have HMB := Lib.hid (most_b HOK.out HTR.out)
          have HEL := Lib.hid (show (ents.length : Int) = x.steps from by have h1 := PN0.out.el; have h2 := PN0.out.prog.len; omega)
          have HIN := Lib.hid (fun (h : x.how = 0) => PN0.out.prog.good.inv (by have h1 := HST.out.1; have h2 := HST.out.2.1; have h3 := HMB.out; omega) h)
          have HLG := Lib.hid (show lam g ≠ 1 ∧ lam h ≠ 1 from by
            have l := MM0.out.lm
            exact ⟨by rw [l.lo _ l.lg]; decide, by rw [l.lo _ l.lh]; decide⟩)
          go_wp2_with fail
          clear xc kd kd2 k0 k1
          refine (LStep_any lam 1 g h o WS t (cM a) x wC MM0.out.bank MM0.out.live HIN.out HLG.out.1 HLG.out.2).mono ?_; rintro e w8 ⟨rfl, hk8, hp8, hx8⟩
          have M8 := Lib.hid (MM0.out.step hk8 hp8 hx8)
          clear hk8 hp8 hx8 HIN HLG
          obtain ⟨x1, hx1⟩ : ∃ x1, pStepF (cM a) WS x = x1 := ⟨_, rfl⟩
          obtain ⟨t1, ht1⟩ : ∃ t1, pTickF (cM a) WS x t = t1 := ⟨_, rfl⟩
          obtain ⟨lam1, hlam1⟩ : ∃ lam1, lamN lam wC.heap.size 1 = lam1 := ⟨_, rfl⟩
          rw [hx1] at HST M8 ⊢
          rw [ht1, hlam1] at M8
          clear hx1 ht1 hlam1
          obtain ⟨A20, c20, htv⟩ := M8.out.form
          subst htv
          clear MM0
          have c0 := teV_at M8.out.qs (j := 0) (by decide)
          have c1 := teV_at M8.out.qs (j := 1) (by decide)
          have c2 := teV_at M8.out.qs (j := 2) (by decide)
          have c3 := teV_at M8.out.qs (j := 3) (by decide)
          obtain ⟨i0, hi0, hz0, hz1, hz2⟩ := info_parts q4_info
          have hb9 : Blk (w8.alloc (.cells (teV q) 62)) w8.heap.size 62 (teC q).toArray := Blk.new w8 _ _
          have HLE := Lib.hid (show ents.length + 1 ≤ 1088 from by have h1 := HST.out.1; have h2 := HST.out.2.1; have h3 := HMB.out; have h4 := HEL.out; omega)
          go_wp2_with (at_builtin; refine wpList_append_own_at _ rfl _ _ 63 rfl 0 62 i0 (.agg #[.slice none 0 0, .slice none 0 0, .slice none 0 0, .slice none 0 0]) 4 96 Try.underlying63 hi0 hz0 hz1 hz2 rfl (by decide) _ _ _ rfl (M8.out.row.alloc _) ⟨w8.heap.size, 0, none⟩ 1 1 (teC q) rfl rfl (news_blk hb9) (teC_one q) (by have h := HLE.out; unfold maxLen; omega) (by have h := HLE.out; omega) (Nat.zero_le _) ?_)
          intro v' w9 hown' hgrow _ hat
          have M9 := Lib.hid (M8.out.note hown' hgrow (by simpa using hat))
          obtain ⟨lam2, hlam2⟩ : ∃ lam2, lamN lam1 w8.heap.size 4 = lam2 := ⟨_, rfl⟩
          rw [hlam2] at M9
          obtain ⟨A21, c21, htv⟩ := M9.out.form
          rw [List.length_append] at htv
          simp only [List.length_cons, List.length_nil] at htv
          subst htv
          clear hown' hgrow hat hlam2 M8 c0 c1 c2 c3 hb9 i0 hi0 hz0 hz1 hz2
          go_wp2_with fail
          refine (LSteps_any lam2 1 o (cM a) x1 w9 M9.out.live).mono ?_; rintro e w0 ⟨rfl, rfl⟩
          have hs1 : x1.steps = ((ents.length + 1 : Nat) : Int) := by have h1 := HST.out.1; have h4 := HEL.out; omega
          rw [hs1]
          have HS1 := Lib.hid hs1
          clear hs1
          have kq : (((ents.length + 1 : Nat) : Int) != ((ents.length + 1 : Nat) : Int)) = false := bne_self_eq_false _
          have kq2 : ((ents.length : Int) + 1 != (ents.length : Int) + 1) = false := bne_self_eq_false _
          go_wp2_with fail
          refine (Most_any _ 4 (sM a) tries w9 (HZS.out w9 M9.out.z) (by decide)).mono ?_; rintro e wa ⟨rfl, hb⟩
          rw [mostM HOK.out HTR.out]
          have MA := Lib.hid (M9.out.bl hb)
          obtain ⟨mo, hmo⟩ : ∃ mo, tries * (4 + mwM a) = mo := ⟨_, rfl⟩
          rw [hmo] at HST ⊢
          have kg : decide (((ents.length + 1 : Nat) : Int) > mo) = false := decide_eq_false (by have h1 := HST.out.1; have h2 := HST.out.2.1; have h4 := HEL.out; omega)
          have kg2 : decide ((ents.length : Int) + 1 > mo) = false := decide_eq_false (by have h1 := HST.out.1; have h2 := HST.out.2.1; have h4 := HEL.out; omega)
          clear hb hmo M9
          go_upto_region 46 with fail
          clear kq kq2 kg kg2
          obtain ⟨hs1, hs2, hg1, hways⟩ := HST.out
          have HG1 := Lib.hid hg1
          clear hs1 hs2 hg1 HST HMB
          rcases hways with ⟨hh, hpr⟩ | ⟨hh, hsp⟩ | ⟨hh, htd, hgp⟩
          · as_aux_lemma =>
              rw [hh]
              have HPB := Lib.hid (PN0.out.busy hpr)
              clear hpr hh
              go_wp2_with fail
              go_roundw
              case rel => exact ⟨i + 1, lam2, _, o, r, cl, cu, x1, b, WS, t1, q, _, ents ++ [q], _, ends, seen, HI.out, HMI.out.1, rfl, HCL.out, rfl, rfl, rfl, rfl, rfl, MA.out, HPB.out⟩
              case measure => exact HMI.out.2
          · as_aux_lemma =>
              rw [hh]
              have hwe : wrap64 (ends - seen) = ends - seen := wrap64_in _ (by have h1 := PN0.out.hseen; have h2 := PN0.out.hends; have h3 := PN0.out.pb 0 (by decide); have h4 := PN0.out.pb 1 (by decide); have h5 := HI.out; have h6 := HNP.out; omega)
              have ksp : decide (ends - seen < tries) = false := decide_eq_false (by have h2 := PN0.out.hends; have hsp : tries + seen ≤ (b 0).p + (b 1).p := hsp; omega)
              have ksp2 : decide (wrap64 (ends - seen) < tries) = false := by rw [hwe]; exact ksp
              have HCN := Lib.hid PN0.out.hcu
              have HSR := Lib.hid MA.out.subs
              have HLR := Lib.hid MA.out.lm.zr
              have HR4 := Lib.hid MA.out.lm.rr
              have HPX := Lib.hid (PN0.out.anew (q' := q) HOK.out HTR.out PN0.out.hcu PN0.out.hq)
              clear hsp hh
              have HSB9 := Lib.hid (show SubsC wa (.slice (some ⟨r, 0, none⟩) 4 cl) 4 (lM a cu) from HSR.out.subsC (by decide) HCL.out (HCN.out.ok HOK.out))
              go_wp2_with fail
              refine (LNew_in lam2 1 _ _ 4 4 (lM a cu) (sM a) tries wa HSB9.out (HZS.out wa MA.out.z) (by decide) (HCN.out.fits HOK.out) HTR.out).mono ?_; rintro e wn ⟨on, rfl, hpn9, _, hbn9⟩
              have MN := Lib.hid (MA.out.anew (o' := on) (r' := r) (cu' := cu) (x' := x0F 4 (lM a cu) (sM a) tries) HSR.out HLR.out HR4.out hpn9 hbn9)
              clear hpn9 hbn9 HSB9
              have k00 : ((0 : Int) != 0) = false := rfl
              go_wp2_with fail
              go_roundw
              case rel => exact ⟨i + 1, _, _, on, r, cl, cu, _, b, WS, t1, q, _, [], [], ends, ends, HI.out, HMI.out.1, rfl, HCL.out, rfl, rfl, rfl, rfl, rfl, MN.out, HPX.out⟩
              case measure => exact HMI.out.2
          · as_aux_lemma =>
              have HH := Lib.hid hh
              have HTD := Lib.hid htd
              have HDT := Lib.hid (done_told HG1.out hh PN0.out.hcu HOK.out)
              have HDN := Lib.hid (done_next HG1.out hh PN0.out.hcu HOK.out hgp)
              have HL64 := Lib.hid (HG1.out.len hh)
              have HBE := Lib.hid (show 1 ≤ x1.begun ∧ x1.begun ≤ ((ents.length + 1 : Nat) : Int) from by have h1 := htd.at_; have h2 := PN0.out.el; rw [List.length_append] at h1; simp only [List.length_cons, List.length_nil] at h1; omega)
              have HPL := Lib.hid (fun k (hk : k < 2) => PN0.out.pb k hk)
              have HGP := Lib.hid hgp
              rw [hh]
              clear hh htd hgp
              go_wp2_with fail
              refine (LAt_any lam2 1 o (cM a) x1 wa MA.out.live).mono ?_; rintro e wa ⟨rfl, rfl⟩
              rw [if_pos HH.out]
              obtain ⟨e9, he9⟩ : ∃ e9 : Nat, x1.begun = ((e9 + 1 : Nat) : Int) := ⟨(x1.begun - 1).toNat, by have h := HBE.out; omega⟩
              obtain ⟨bg, hbg⟩ : ∃ bg, x1.begun = bg := ⟨_, rfl⟩
              rw [hbg]
              obtain ⟨ln, hln⟩ : ∃ ln, ents.length + 1 = ln := ⟨_, rfl⟩
              rw [hln]
              have HLN := Lib.hid hln
              have HBG := Lib.hid (show bg = (e9 : Int) + 1 from by rw [← hbg, he9]; omega)
              have HLR9 := Lib.hid (show (ln : Int) ≤ 1088 ∧ (e9 : Int) < (ln : Int) from by have h1 := HLE.out; have h2 := HBE.out; omega)
              clear hbg hln
              go_upto_region 51 with fail
              have HE9 := Lib.hid (show e9 < ents.length + 1 from by have h := HBE.out; omega)
              have HTW := Lib.hid (show thN (th ++ [((b 0).p, (b 1).p)]) (e9 : Int) = (nth x1.gl 0, nth x1.gl 1) from by have h := HTD.out.was; rw [he9] at h; rw [show ((e9 + 1 : Nat) : Int) - 1 = (e9 : Int) by omega] at h; exact h)
              obtain ⟨E, hE⟩ : ∃ E, (ents ++ [q]).getD e9 default = E := ⟨_, rfl⟩
              have HLS := Lib.hid (show ∀ j : Nat, j < 4 → E.L j = qOf (lM a cu j).cur (nth (gensL (cM a) x1.gl) j) from fun j hj => by
                rw [← hE, PN0.out.noted HE9.out HTW.out hj, gensL_nth _ _ (show j < (cM a).n from hj), cM_ix a hj]
                show qOf (cu j) _ = qOf (cu j) _
                by_cases e2 : j / 2 = 0
                · rw [if_pos e2, e2]
                · rw [if_neg e2, show j / 2 = 1 by omega])
              obtain ⟨gb, cg, htv, hcells⟩ := MA.out.entry (e := e9) (by rw [List.length_append]; exact HE9.out)
              have hold := MA.out.old e9 (by rw [List.length_append]; exact HE9.out)
              rw [hE] at hcells hold
              have HOLD := Lib.hid (show ∀ j : Nat, j < 4 → QI wa lam2 (E.A j) (E.c j) (qOf (lM a cu j).cur (nth (gensL (cM a) x1.gl) j)) from fun j hj => by rw [← HLS.out j hj]; exact hold j hj)
              have x0 := hcells 0 (by decide)
              have x1_ := hcells 1 (by decide)
              have x2 := hcells 2 (by decide)
              have x3 := hcells 3 (by decide)
              rw [HLS.out _ (by decide)] at x0 x1_ x2 x3
              simp only [Nat.add_zero] at x0
              simp only [Value.slice.injEq] at htv
              obtain ⟨hA21, _, hc21⟩ := htv
              subst hA21
              clear hcells hold hE he9 HBE hc21
              have kb1 : decide (bg < 1) = false := decide_eq_false (by have h := HBG.out; omega)
              have kb2 : decide (bg > (ln : Int)) = false := decide_eq_false (by have h := HBG.out; have h2 := HLR9.out; omega)
              have kb3 : decide ((ln : Int) < bg) = false := kb2
              have hwx : wrap64 (bg - 1) = (e9 : Int) := by rw [wrap64_in _ (by have h := HBG.out; have h2 := HLR9.out; omega)]; have h := HBG.out; omega
              have ke0 : (0 : Int) ≤ (e9 : Int) := by omega
              have ke1 : (e9 : Int) < (ln : Int) := HLR9.out.2
              obtain ⟨nq, hnq⟩ : ∃ nq : Nat → Nat, (fun j => (qOf (lM a cu j).cur (nth (gensL (cM a) x1.gl) j)).length) = nq := ⟨_, rfl⟩
              have HNQ := Lib.hid (show ∀ j, (qOf (lM a cu j).cur (nth (gensL (cM a) x1.gl) j)).length = nq j from fun j => by rw [← hnq])
              rw [HNQ.out] at x0 x1_ x2 x3
              clear hnq
              go_upto_region 53 with fail
              try rw [hwx]
              go_upto_region 54 with fail
              clear kb1 kb2 kb3 hwx ke0 ke1 x0 x1_ x2 x3
              have hn := Blk.new wa 62 #[.slice (E.A 0) (nq 0) (E.c 0), .slice (E.A 1) (nq 1) (E.c 1), .slice (E.A 2) (nq 2) (E.c 2), .slice (E.A 3) (nq 3) (E.c 3)]
              have hba := (Below.refl wa.heap.size wa).alloc (Nat.le_refl _) (.cells #[.slice (E.A 0) (nq 0) (E.c 0), .slice (E.A 1) (nq 1) (E.c 1), .slice (E.A 2) (nq 2) (E.c 2), .slice (E.A 3) (nq 3) (E.c 3)] 62)
              obtain ⟨wbk, hwb⟩ : ∃ wbk, wa.heap.size = wbk := ⟨_, rfl⟩
              simp only [hwb] at hn ⊢
              have WB := Lib.hid hn
              have MB := Lib.hid (MA.out.bl hba)
              have V0 := Lib.hid hba
              clear hn hwb hba MA
              generalize wa.alloc (.cells #[.slice (E.A 0) (nq 0) (E.c 0), .slice (E.A 1) (nq 1) (E.c 1), .slice (E.A 2) (nq 2) (E.c 2), .slice (E.A 3) (nq 3) (E.c 3)] 62) = wb at *
              go_wp2_with fail
              refine (LGot_any lam2 1 o (cM a) x1 wb MB.out.live HH.out HL64.out).mono ?_; rintro e wc ⟨v9, rfl, hown, hb⟩
              have I9 := Lib.hid (ints_of_own hown (by have h := HL64.out; unfold maxLen; omega))
              obtain ⟨A9, c9, hv9⟩ := own_form hown
              subst hv9
              have MC := Lib.hid (MB.out.bl hb)
              have WC := Lib.hid (WB.out.bl hb)
              have V1 := Lib.hid (bl V0.out hb)
              clear hown hb MB WB V0
              go_wp2_with fail
              refine (LSubs_any lam2 1 o (cM a) x1 wc MC.out.live HH.out (PN0.out.hcu.cok HOK.out) (fun j hj => (HDN.out.1 j hj).2.1)).mono ?_; rintro e wd ⟨r2, cl2, rfl, hcl2, hr2, hs2, hb⟩
              have MD := Lib.hid ((MC.out.remark 0).bl hb)
              obtain ⟨lam3, hlam3⟩ : ∃ lam3, lamN lam2 wc.heap.size 0 = lam3 := ⟨_, rfl⟩
              have HSR := Lib.hid (show SubsIn wd r2 4 (lM a x1.cu) from hs2)
              have HLR := Lib.hid (show lam3 r2 = 0 from by rw [← hlam3]; exact lamN_ge hr2)
              have HR4 := Lib.hid (show r2 ≠ g ∧ r2 ≠ h ∧ r2 ≠ pb ∧ r2 ≠ pb + 1 from by
                have l := MC.out.lm
                have h1 := MC.out.pubs.lt
                have h2 := MC.out.qs.lt
                have h3 := l.lg
                have h4 := l.lh
                have h5 := l.lpb
                omega)
              have HCL2 := Lib.hid (show 4 ≤ cl2 from hcl2)
              have HOL3 := Lib.hid (show ∀ j : Nat, j < 4 → QI wd lam3 (E.A j) (E.c j) (qOf (lM a cu j).cur (nth (gensL (cM a) x1.gl) j)) from fun j hj => by
                have h1 := ((HOLD.out j hj).bl (bl V1.out (Below.refl _ _))).relam (lam' := lam3) (fun k hk => by rw [← hlam3]; exact lamN_lt hk)
                exact h1.bl hb)
              rw [hlam3] at MD
              have WD := Lib.hid (WC.out.bl hb)
              have I10 := Lib.hid (I9.out.below hb)
              clear hlam3 hcl2 hr2 hs2 hb MC WC V1 I9 HOLD
              have y0 := WD.out.cell 0
              have y1 := WD.out.cell 1
              have y2 := WD.out.cell 2
              have y3 := WD.out.cell 3
              simp only [List.getElem?_toArray, List.getElem?_cons_zero, List.getElem?_cons_succ] at y0 y1 y2 y3
              have hnn : (((cM a).n : Int) != 4) = false := by rw [cM_n]; rfl
              rw [cM_n]
              have HTO := Lib.hid (told_any lam3 _ (lM a cu) (gensL (cM a) x1.gl) E.A E.c x1.pick x1.gen wd (MD.out.subs.subs (c := cl) (by decide) (PN0.out.hcu.ok HOK.out)) HOL3.out HDT.out.1 (fun h => by
                obtain ⟨h1, h2⟩ := HDT.out.2 (by omega)
                refine ⟨h1, ?_⟩
                rw [h2]
                have hb4 := best_lt (lM a cu) (gensL (cM a) x1.gl) 4
                have hj4 : (best (lM a cu) (gensL (cM a) x1.gl) 4).toNat < 4 := by omega
                rw [gensL_nth _ _ (show _ < (cM a).n from hj4), cM_ix a hj4]
                rfl))
              rw [HNQ.out, HNQ.out, HNQ.out, HNQ.out] at HTO
              go_wp2_with fail
              refine HTO.out.mono ?_; rintro e we ⟨rfl, hb⟩
              have ME := Lib.hid (MD.out.bl hb)
              have I11 := Lib.hid (I10.out.below hb)
              have HSR2 := Lib.hid (HSR.out.bl hb)
              clear HTO HOL3 hb MD I10 HSR y0 y1 y2 y3 hnn WD HDT HTW HLS HNQ
              have HSR := HSR2
              clear HSR2
              have HCN := Lib.hid HDN.out.1
              obtain ⟨nw, hnw⟩ : ∃ nw, x1.words.length = nw := ⟨_, rfl⟩
              have HNW := Lib.hid hnw
              rw [hnw]
              clear hnw
              by_cases hp : 0 ≤ x1.pick
              · as_aux_lemma =>
                  obtain ⟨k9, hk9⟩ : ∃ k9 : Nat, x1.pick = (k9 : Int) := ⟨x1.pick.toNat, by omega⟩
                  have HWD := Lib.hid (HTD.out.wrd hp)
                  have HGE := Lib.hid (HTD.out.gn hp)
                  have kp : decide (x1.pick ≥ 0) = true := decide_eq_true hp
                  have hk94 : k9 < 4 := by have h := HGE.out.2.2; omega
                  have HK9 := Lib.hid hk94
                  have HPK := Lib.hid hk9
                  rw [hk9, Int.toNat_natCast] at HWD
                  rw [hk9, Int.toNat_natCast] at HGE
                  rw [hk9] at kp ⊢
                  obtain ⟨gen, hgen⟩ : ∃ gen, x1.gen = gen := ⟨_, rfl⟩
                  have HGN := Lib.hid hgen
                  have HGR := Lib.hid (show 0 ≤ gen ∧ gen ≤ 1000 from by
                    have h1 := HGE.out
                    have h2 := HGP.out (k9 / 2) (by omega)
                    have h3 := HPL.out (k9 / 2) (by omega)
                    have h4 := HI.out
                    have h5 := HNP.out
                    rw [hgen] at h1
                    try simp only at h2
                    omega)
                  rw [hgen] at HWD ⊢
                  clear hp hk9 hk94 hgen
                  go_wp2_with fail
                  clear kp
                  have HII := Lib.hid I11.out.form
                  clear I11
                  go_loopw [33] (fun s33 wr => ∃ j : Nat, j ≤ nw ∧ s33 = .int .i64 j ∧ Below we.heap.size we wr) (fun s33 _ => nw - (intOf s33).toNat)
                  case atStart => exact ⟨0, by omega, rfl, Below.refl _ _⟩
                  case round =>
                    obtain ⟨j, hj, rfl, hbl⟩ := hrel
                    have VB := Lib.hid hbl
                    clear hbl
                    by_cases hlt : j < nw
                    · as_aux_lemma =>
                        have kd : decide ((j : Int) < (nw : Int)) = true := decide_eq_true (by omega)
                        have kd2 : decide (j < nw) = true := decide_eq_true hlt
                        have ki0 : (0 : Int) ≤ (j : Int) := by omega
                        have ki1 : (j : Int) < (nw : Int) := by omega
                        have HJ := Lib.hid hlt
                        have HMJ := Lib.hid (turn_no j nw hlt (by have h1 := HL64.out; have h2 := HNW.out; unfold maxLen; omega))
                        clear hj hlt
                        obtain ⟨Aq, cq, hvq, _, hfq⟩ := HII.out
                        rw [HNW.out] at hvq
                        simp only [Value.slice.injEq, true_and] at hvq
                        obtain ⟨rfl, rfl⟩ := hvq
                        obtain ⟨bq, oq, rfl, hbq, hcq⟩ := hfq (by intro hz; have h1 := HNW.out; have h2 := HJ.out; rw [hz] at h1; simp at h1; omega)
                        have HCQ := Lib.hid (show ∀ W, Below we.heap.size we W → W.cell? ⟨bq, oq + j, none⟩ = some (.int .u64 (recW ((k9 / 2 : Nat) : Int) gen j)) from fun W hW => by
                          rw [← HWD.out.1 j (by rw [HNW.out]; exact HJ.out)]
                          exact (hW.cell (p := ⟨bq, oq + j, none⟩) hbq).trans (hcq j (by rw [HNW.out]; exact HJ.out)))
                        clear hfq hbq hcq
                        have HWO := Lib.hid (fun W => word_any ((k9 / 2 : Nat) : Int) gen j W (by have h := HK9.out; omega) (by have h := HGR.out; omega) (by have h1 := HL64.out; have h2 := HNW.out; have h3 := HJ.out; omega))
                        go_upto_region 62 with fail
                        clear kd kd2
                        have hne : Nonempty (Held (Below wr.heap.size wr)) := ⟨⟨wr, Below.refl _ _⟩⟩
                        have c0 : ∀ y : Held (Below wr.heap.size wr), y.w.cell? ⟨bq, oq + j, none⟩ = some (.int .u64 (recW ((k9 / 2 : Nat) : Int) gen j)) := fun y => HCQ.out y.w (bl VB.out y.ok)
                        obtain ⟨rv, hrv⟩ : ∃ rv, recW ((k9 / 2 : Nat) : Int) gen j = rv := ⟨_, rfl⟩
                        rw [hrv] at c0 HWO
                        clear hrv HCQ
                        have krv : (rv != rv) = false := bne_self_eq_false _
                        refine drawn_bars (S := (Below wr.heap.size wr)) [([0, 1, 2, 3, 4, 5, 6, 7, 8], 9)] [10] (by kernel_rfl) (by kernel_rfl) (by kernel_rfl) rfl (Below.refl _ _).drew ?_
                        refine Phased.go ?_
                        simp only [pick, List.map_cons, List.map_nil, List.getElem?_cons_zero, List.getElem?_cons_succ, Option.getD_some]
                        repeat (go_big_quiet_step (fail))
                        refine wpQuiet_nil ?_
                        have q0 := (Below.refl wr.heap.size wr).drew
                        go_wp2_with fail
                        rw [half_div k9, small_wraps HK9.out]
                        refine (HWO.out _).mono ?_; rintro e w7 ⟨rfl, rfl⟩
                        --M0
                        go_wp2_with fail
                        --M1
                        refine behind_normal ⟨(Below wr.heap.size wr), fun W h => h, q0, ?_⟩
                        refine Phased.end_ ?_
                        have hne5 : Nonempty (Held (fun W => W = wr.drew)) := ⟨⟨_, rfl⟩⟩
                        --M2
                        simp only [pick, List.map_cons, List.map_nil, List.getElem?_cons_zero, List.getElem?_cons_succ, Option.getD_some]
                        repeat (go_big_quiet_step (fail))
                        refine wpQuiet_nil ?_
                        --M3
                        clear hne hne5 c0 HWO
                        --M4
                        have VB2 := Lib.hid (bl VB.out q0)
                        clear q0
                        go_wp2_with fail
                        --M5
                        go_roundw
                        case rel => exact ⟨j + 1, HJ.out, HMJ.out.1, VB2.out⟩
                        case measure => exact HMJ.out.2
                    · as_aux_lemma =>
                        obtain rfl : j = nw := by omega
                        have kd : decide ((j : Int) < (j : Int)) = false := decide_eq_false (by omega)
                        have kd2 : decide (j < j) = false := decide_eq_false (by omega)
                        clear hj hlt HII
                        have MF := Lib.hid (ME.out.bl VB.out)
                        have HSR2 := Lib.hid (HSR.out.bl VB.out)
                        clear ME HSR VB
                        have HSR := HSR2
                        clear HSR2
                        obtain ⟨wF, rfl⟩ : ∃ W : World, W = wr := ⟨_, rfl⟩
                        have hdq : ((k9 : Int)).tdiv 2 = ((k9 / 2 : Nat) : Int) := half_tdiv k9
                        have hdq2 : ((k9 : Int)) / 2 = ((k9 / 2 : Nat) : Int) := half_div k9
                        have kq0 : (0 : Int) ≤ ((k9 / 2 : Nat) : Int) := by omega
                        have kq1 : ((k9 / 2 : Nat) : Int) < 2 := by have h := HK9.out; omega
                        have ktp := ((HZT.out wF MF.out.z).top (k := k9 / 2) (by have h := HK9.out; omega)).1
                        have hwl : (j : Int) = a.W (k9 / 2) := by rw [← HWD.out.2, HNW.out]
                        rw [← hwl] at ktp
                        have kjj : ((j : Int) != (j : Int)) = false := bne_self_eq_false _
                        have kk0 : (0 : Int) ≤ (k9 : Int) := by omega
                        have kk1 : (k9 : Int) < 4 := by have h := HK9.out; omega
                        clear hwl HWD
                        go_upto_region 64 with fail
                        clear kd kd2
                        obtain ⟨kh, hkh⟩ : ∃ kh, k9 / 2 = kh := ⟨_, rfl⟩
                        rw [hkh] at hdq hdq2 kq0 kq1 ktp
                        go_upto_region 66 with fail
                        clear hdq hdq2 kq0 kq1 ktp kjj hkh
                        have HQX := Lib.hid (HDN.out.2)
                        obtain ⟨nk, hnk⟩ : ∃ nk, (q.L k9).length = nk := ⟨_, rfl⟩
                        have HNK := Lib.hid hnk
                        have y0 := teV_at MF.out.qs HK9.out
                        rw [hnk] at y0
                        clear hnk
                        have HQK := Lib.hid (PN0.out.hq k9 HK9.out)
                        by_cases hz : nk = 0
                        · have kz : decide ((nk : Int) > 0) = false := decide_eq_false (by omega)
                          have kz2 : decide (0 < (nk : Int)) = false := decide_eq_false (by omega)
                          have kz3 : decide (0 < nk) = false := decide_eq_false (by omega)
                          have HPX := Lib.hid (PN0.out.anew (q' := q) HOK.out HTR.out HCN.out (fun z hz9 => by
                            rw [HQX.out z hz9, PN0.out.hq z hz9, if_neg (fun h => by
                              have e : z = k9 := by have h1 := h.1; rw [HPK.out] at h1; omega
                              have h2 := h.2.1
                              rw [e, ← HQK.out, HNK.out] at h2
                              omega)]))
                          clear hz
                          go_upto_region 70 with fail
                          clear y0 kz kz2 kz3 kk0 kk1
                          have HSB9 := Lib.hid (show SubsC wF (.slice (some ⟨r2, 0, none⟩) 4 cl2) 4 (lM a x1.cu) from HSR.out.subsC (by decide) HCL2.out (HCN.out.ok HOK.out))
                          go_wp2_with fail
                          refine (LNew_in lam3 1 _ _ 4 4 (lM a x1.cu) (sM a) tries wF HSB9.out (HZS.out wF MF.out.z) (by decide) (HCN.out.fits HOK.out) HTR.out).mono ?_; rintro e wn ⟨on, rfl, hpn9, _, hbn9⟩
                          have MN := Lib.hid (MF.out.anew (o' := on) (r' := r2) (cu' := x1.cu) (x' := x0F 4 (lM a x1.cu) (sM a) tries) HSR.out HLR.out HR4.out hpn9 hbn9)
                          clear hpn9 hbn9 HSB9
                          have k00 : ((0 : Int) != 0) = false := rfl
                          go_wp2_with fail
                          go_roundw
                          case rel => exact ⟨i + 1, _, _, on, r2, cl2, x1.cu, _, b, WS, t1, q, _, [], [], ends, ends, HI.out, HMI.out.1, rfl, HCL2.out, rfl, rfl, rfl, rfl, rfl, MN.out, HPX.out⟩
                          case measure => exact HMI.out.2
                        have kz : decide ((nk : Int) > 0) = true := decide_eq_true (by omega)
                        have kz2 : decide (0 < (nk : Int)) = true := decide_eq_true (by omega)
                        have kz3 : decide (0 < nk) = true := decide_eq_true (by omega)
                        obtain ⟨bq, oq, hAq, hqt, hcq⟩ := (MF.out.qi k9 HK9.out).tail (by rw [HNK.out]; omega) (MF.out.qc k9 HK9.out)
                        rw [hAq] at y0
                        have HQT := Lib.hid hqt
                        have HAQ := Lib.hid hAq
                        obtain ⟨hd, hhd⟩ : ∃ hd, nth (q.L k9) 0 = hd := ⟨_, rfl⟩
                        rw [hhd] at hcq
                        have HHD := Lib.hid hhd
                        have HZ := Lib.hid (show 0 < nk from by omega)
                        have kn0 : (0 : Int) < (nk : Int) := by omega
                        clear hqt hAq hhd hz
                        by_cases hg : hd = gen
                        · as_aux_lemma =>
                            subst hg
                            have kh : (hd == hd) = true := beq_self_eq_true _
                            go_upto_region 67 with fail
                            clear hcq kz kz2 kz3 kh
                            obtain ⟨n1, hn1⟩ : ∃ n1, nk = n1 + 1 := ⟨nk - 1, by have h := HZ.out; omega⟩
                            subst hn1
                            have HCQ := Lib.hid (show n1 + 1 ≤ q.c k9 from by have h := MF.out.qc k9 HK9.out; rw [HNK.out] at h; exact h)
                            have z0 := Blk.frozen MF.out.qs k9
                            have HDL := Lib.hid (show ((q.L k9).drop 1).length = n1 from by rw [List.length_drop, HNK.out]; omega)
                            have HPX := Lib.hid (fun (A' : Option Addr) (c' : Nat) => PN0.out.anew (q' := teU q k9 A' c' ((q.L k9).drop 1)) HOK.out HTR.out HCN.out (fun z hz9 => by
                              rw [HQX.out z hz9, ← PN0.out.hq z hz9]
                              unfold teU
                              by_cases e : z = k9
                              · simp only [if_pos e]
                                rw [if_pos ⟨by rw [e, HPK.out], by rw [e, HNK.out]; omega, by rw [e, HHD.out, HGN.out]⟩, e]
                              · simp only [if_neg e]
                                rw [if_neg (fun h => e (by have h1 := h.1; rw [HPK.out] at h1; omega))]))
                            obtain ⟨ck, hck⟩ : ∃ ck, q.c k9 = ck := ⟨_, rfl⟩
                            rw [hck] at y0 HQT HCQ
                            clear hck
                            have kk9 : (1 : Int) ≤ ((n1 + 1 : Nat) : Int) := by omega
                            have kk8 : (1 : Int) ≤ (n1 : Int) + 1 := by omega
                            have kk7 : 1 ≤ n1 + 1 := by omega
                            have kk6 : n1 + 1 ≤ ck := HCQ.out
                            by_cases hc1 : ck = 1
                            · subst hc1
                              have hq8 := HQT.out
                              rw [if_pos rfl] at hq8
                              have HQ8 := Lib.hid hq8
                              clear hq8 HQT
                              go_upto_region 70 with fail
                              clear y0 z0 kk9 kk8 kk7 kk6 kk0 kk1
                              have hn0 : n1 = 0 := by have h := HCQ.out; omega
                              have bb := teV_set MF.out.qs HK9.out (some ⟨bq, oq, none⟩) 0 ((q.L k9).drop 1)
                              rw [HDL.out, hn0] at bb
                              have ee : Ex (fun z => z = pb + 1) wF (wF.setCell ⟨pb + 1, k9, none⟩ (.slice (some ⟨bq, oq, none⟩) 0 0)) := (Ex.refl (fun z => z = pb + 1) wF).setCell (q := ⟨pb + 1, k9, none⟩) (.inl rfl) _
                              have MG := Lib.hid (MF.out.setq bb ee (fun z hz => by
                                unfold teU
                                by_cases e : z = k9
                                · simp only [if_pos e]; exact HQ8.out
                                · simp only [if_neg e]; exact MF.out.qi z hz) (fun z hz => by
                                unfold teU
                                by_cases e : z = k9
                                · simp only [if_pos e]; rw [HDL.out]; have h := HCQ.out; omega
                                · simp only [if_neg e]; exact MF.out.qc z hz))
                              have HSR2 := Lib.hid (HSR.out.ex ee (by have h := HR4.out; omega))
                              clear bb ee MF HSR
                              have HSR := HSR2
                              clear HSR2
                              generalize wF.setCell ⟨pb + 1, k9, none⟩ (.slice (some ⟨bq, oq, none⟩) 0 0) = wG at *
                              have HSB9 := Lib.hid (show SubsC wG (.slice (some ⟨r2, 0, none⟩) 4 cl2) 4 (lM a x1.cu) from HSR.out.subsC (by decide) HCL2.out (HCN.out.ok HOK.out))
                              go_wp2_with fail
                              refine (LNew_in lam3 1 _ _ 4 4 (lM a x1.cu) (sM a) tries wG HSB9.out (HZS.out wG MG.out.z) (by decide) (HCN.out.fits HOK.out) HTR.out).mono ?_; rintro e wn ⟨on, rfl, hpn9, _, hbn9⟩
                              have MN := Lib.hid (MG.out.anew (o' := on) (r' := r2) (cu' := x1.cu) (x' := x0F 4 (lM a x1.cu) (sM a) tries) HSR.out HLR.out HR4.out hpn9 hbn9)
                              clear hpn9 hbn9 HSB9
                              have k00 : ((0 : Int) != 0) = false := rfl
                              go_wp2_with fail
                              go_roundw
                              case rel => exact ⟨i + 1, _, _, on, r2, cl2, x1.cu, _, b, WS, t1, _, _, [], [], ends, ends, HI.out, HMI.out.1, rfl, HCL2.out, rfl, rfl, rfl, rfl, rfl, MN.out, HPX.out _ _⟩
                              case measure => exact HMI.out.2
                            · have hq8 := HQT.out
                              rw [if_neg hc1] at hq8
                              have HQ8 := Lib.hid hq8
                              clear hq8 HQT
                              go_upto_region 70 with fail
                              clear y0 z0 kk9 kk8 kk7 kk6 kk0 kk1
                              have bb := teV_set MF.out.qs HK9.out (some ⟨bq, oq + 1, none⟩) (ck - 1) ((q.L k9).drop 1)
                              rw [HDL.out] at bb
                              have ee : Ex (fun z => z = pb + 1) wF (wF.setCell ⟨pb + 1, k9, none⟩ (.slice (some ⟨bq, oq + 1, none⟩) n1 (ck - 1))) := (Ex.refl (fun z => z = pb + 1) wF).setCell (q := ⟨pb + 1, k9, none⟩) (.inl rfl) _
                              have MG := Lib.hid (MF.out.setq bb ee (fun z hz => by
                                unfold teU
                                by_cases e : z = k9
                                · simp only [if_pos e]; exact HQ8.out
                                · simp only [if_neg e]; exact MF.out.qi z hz) (fun z hz => by
                                unfold teU
                                by_cases e : z = k9
                                · simp only [if_pos e]; rw [HDL.out]; have h := HCQ.out; omega
                                · simp only [if_neg e]; exact MF.out.qc z hz))
                              have HSR2 := Lib.hid (HSR.out.ex ee (by have h := HR4.out; omega))
                              clear bb ee MF HSR
                              have HSR := HSR2
                              clear HSR2
                              generalize wF.setCell ⟨pb + 1, k9, none⟩ (.slice (some ⟨bq, oq + 1, none⟩) n1 (ck - 1)) = wG at *
                              have HSB9 := Lib.hid (show SubsC wG (.slice (some ⟨r2, 0, none⟩) 4 cl2) 4 (lM a x1.cu) from HSR.out.subsC (by decide) HCL2.out (HCN.out.ok HOK.out))
                              go_wp2_with fail
                              refine (LNew_in lam3 1 _ _ 4 4 (lM a x1.cu) (sM a) tries wG HSB9.out (HZS.out wG MG.out.z) (by decide) (HCN.out.fits HOK.out) HTR.out).mono ?_; rintro e wn ⟨on, rfl, hpn9, _, hbn9⟩
                              have MN := Lib.hid (MG.out.anew (o' := on) (r' := r2) (cu' := x1.cu) (x' := x0F 4 (lM a x1.cu) (sM a) tries) HSR.out HLR.out HR4.out hpn9 hbn9)
                              clear hpn9 hbn9 HSB9
                              have k00 : ((0 : Int) != 0) = false := rfl
                              go_wp2_with fail
                              go_roundw
                              case rel => exact ⟨i + 1, _, _, on, r2, cl2, x1.cu, _, b, WS, t1, _, _, [], [], ends, ends, HI.out, HMI.out.1, rfl, HCL2.out, rfl, rfl, rfl, rfl, rfl, MN.out, HPX.out _ _⟩
                              case measure => exact HMI.out.2
                        · have kh : (hd == gen) = false := beq_eq_false_iff_ne.2 hg
                          have HPX := Lib.hid (PN0.out.anew (q' := q) HOK.out HTR.out HCN.out (fun z hz9 => by
                            rw [HQX.out z hz9, ← PN0.out.hq z hz9, if_neg (fun h => by
                              have e : z = k9 := by have h1 := h.1; rw [HPK.out] at h1; omega
                              have h2 := h.2.2
                              rw [e, HHD.out, HGN.out] at h2
                              exact hg h2)]))
                          go_upto_region 70 with fail
                          clear y0 hcq kz kz2 kz3 kh kk0 kk1 kn0
                          have HSB9 := Lib.hid (show SubsC wF (.slice (some ⟨r2, 0, none⟩) 4 cl2) 4 (lM a x1.cu) from HSR.out.subsC (by decide) HCL2.out (HCN.out.ok HOK.out))
                          go_wp2_with fail
                          refine (LNew_in lam3 1 _ _ 4 4 (lM a x1.cu) (sM a) tries wF HSB9.out (HZS.out wF MF.out.z) (by decide) (HCN.out.fits HOK.out) HTR.out).mono ?_; rintro e wn ⟨on, rfl, hpn9, _, hbn9⟩
                          have MN := Lib.hid (MF.out.anew (o' := on) (r' := r2) (cu' := x1.cu) (x' := x0F 4 (lM a x1.cu) (sM a) tries) HSR.out HLR.out HR4.out hpn9 hbn9)
                          clear hpn9 hbn9 HSB9
                          have k00 : ((0 : Int) != 0) = false := rfl
                          go_wp2_with fail
                          go_roundw
                          case rel => exact ⟨i + 1, _, _, on, r2, cl2, x1.cu, _, b, WS, t1, q, _, [], [], ends, ends, HI.out, HMI.out.1, rfl, HCL2.out, rfl, rfl, rfl, rfl, rfl, MN.out, HPX.out⟩
                          case measure => exact HMI.out.2
              · as_aux_lemma =>
                  have kp : decide (x1.pick ≥ 0) = false := decide_eq_false hp
                  have hw0 : nw = 0 := by rw [← HNW.out, HTD.out.non hp]; rfl
                  subst hw0
                  have HPX := Lib.hid (PN0.out.anew (q' := q) HOK.out HTR.out HCN.out (fun z hz9 => by
                    rw [HDN.out.2 z hz9, ← PN0.out.hq z hz9, if_neg (fun h => hp (by have h1 := h.1; omega))]))
                  clear hp
                  go_upto_region 70 with fail
                  clear kp
                  have HSB9 := Lib.hid (show SubsC we (.slice (some ⟨r2, 0, none⟩) 4 cl2) 4 (lM a x1.cu) from HSR.out.subsC (by decide) HCL2.out (HCN.out.ok HOK.out))
                  go_wp2_with fail
                  refine (LNew_in lam3 1 _ _ 4 4 (lM a x1.cu) (sM a) tries we HSB9.out (HZS.out we ME.out.z) (by decide) (HCN.out.fits HOK.out) HTR.out).mono ?_; rintro e wn ⟨on, rfl, hpn9, _, hbn9⟩
                  have MN := Lib.hid (ME.out.anew (o' := on) (r' := r2) (cu' := x1.cu) (x' := x0F 4 (lM a x1.cu) (sM a) tries) HSR.out HLR.out HR4.out hpn9 hbn9)
                  clear hpn9 hbn9 HSB9
                  have k00 : ((0 : Int) != 0) = false := rfl
                  go_wp2_with fail
                  go_roundw
                  case rel => exact ⟨i + 1, _, _, on, r2, cl2, x1.cu, _, b, WS, t1, q, _, [], [], ends, ends, HI.out, HMI.out.1, rfl, HCL2.out, rfl, rfl, rfl, rfl, rfl, MN.out, HPX.out⟩
                  case measure => exact HMI.out.2
      · obtain rfl : i = np := by omega
        have kd : decide ((i : Int) < (i : Int)) = false := decide_eq_false (by omega)
        have kd2 : decide (i < i) = false := decide_eq_false (by omega)
        clear hi hlt
        go_wp2_with fail
        clear kd kd2
        have LZ := Lib.hid (HZL.out wC MM0.out.z)
        refine (awake_any wC).mono ?_; rintro e wy ⟨rfl, hbz⟩
        have LY := Lib.hid (bl LZ.out hbz)
        go_wp2_with fail
        go_ret
        exact ⟨rfl, LY.out⟩
end Go.Proofs.Ythcaagkgddeabaa.Bank
