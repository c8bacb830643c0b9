/-
  Law 10: what was published, and what was the newest, as it lies in memory; each block has an owner. Conditions stand at each. By an AI agent.
-/
import Derived.Test.YtjdalllfnlpmnaaSnPc
namespace Go.Proofs.Ytjdalllfnlpmnaa.Bank
set_option linter.unusedVariables false
set_option linter.unusedSimpArgs false
open Go Go.RowKit Go.Proofs.Ytjdalllfnlpmnaa.Base
def DnAt (w : World) (db n B : Nat) (lam cnt : Nat → Nat) (dn : Nat → Nat → Int) (dv : Nat → Value) : Prop :=
  Blk w db 41 ((List.range n).map dv).toArray ∧ ∀ k, k < n → w.ownsRow B 42 1 (dv k) (cnt k + 1) ((ofF (cnt k + 1) (dn k)).map (Value.int .u64)) ∧ ∀ b, (dv k).ownBlock = some b → lam b = n + 3 + k
theorem DnAt.ex {T : Nat → Prop} {w w' : World} {db n B : Nat} {lam cnt : Nat → Nat} {dn : Nat → Nat → Int} {dv : Nat → Value} (h : DnAt w db n B lam cnt dn dv) (p : Ex T w w') (h1 : ¬ T db) (hT : ∀ b, T b → b < B ∨ lam b < n + 3) : DnAt w' db n B lam cnt dn dv :=
  ⟨h.1.ex p h1, fun k hk => ⟨ownsRow_ex (h.2 k hk).1 p (fun b hb ht => by have h3 := ((h.2 k hk).1.lt b hb).1; have h4 := (h.2 k hk).2 b hb; have := hT b ht; omega), (h.2 k hk).2⟩⟩
theorem DnAt.bl {w w' : World} {db n B : Nat} {lam cnt : Nat → Nat} {dn : Nat → Nat → Int} {dv : Nat → Value} (h : DnAt w db n B lam cnt dn dv) (p : Below w.heap.size w w') : DnAt w' db n B lam cnt dn dv := h.ex (T := fun _ => False) (Ex.of_below p) (fun h => h) (fun _ h => h.elim)
theorem DnAt.lam_ {w : World} {db n B : Nat} {lam lam' cnt : Nat → Nat} {dn : Nat → Nat → Int} {dv : Nat → Value} (h : DnAt w db n B lam cnt dn dv) (e : ∀ b, b < w.heap.size → lam' b = lam b) : DnAt w db n B lam' cnt dn dv :=
  ⟨h.1, fun k hk => ⟨(h.2 k hk).1, fun b hb => by rw [e b ((h.2 k hk).1.lt b hb).2]; exact (h.2 k hk).2 b hb⟩⟩
theorem DnAt.cell {w : World} {db n B : Nat} {lam cnt : Nat → Nat} {dn : Nat → Nat → Int} {dv : Nat → Value} (h : DnAt w db n B lam cnt dn dv) {k : Nat} (hk : k < n) : w.cell? ⟨db, k, none⟩ = some (dv k) := by
  rw [h.1.cell]
  simp [List.getElem?_map, List.getElem?_range hk]
theorem DnAt.row {w : World} {db n B : Nat} {lam cnt : Nat → Nat} {dn : Nat → Nat → Int} {dv : Nat → Value} (h : DnAt w db n B lam cnt dn dv) {k : Nat} (hk : k < n) (hc : cnt k ≤ 1000) : ∃ r c, dv k = .slice (some ⟨r, 0, none⟩) (cnt k + 1) c ∧ B ≤ r ∧ IntsIn w .u64 r c (ofF (cnt k + 1) (dn k)) := by
  have h2 := (h.2 k hk).1
  have h3 : w.ownsRow B 42 1 (dv k) (ofF (cnt k + 1) (dn k)).length ((ofF (cnt k + 1) (dn k)).map (Value.int .u64)) := by rw [ofF_len]; exact h2
  obtain ⟨r, c, e, h4, h5⟩ := intsIn_of_own h3 (by rw [ofF_len]; unfold maxLen; omega) (by intro e; have := ofF_len (cnt k + 1) (dn k); rw [e] at this; simp at this)
  rw [ofF_len] at e
  exact ⟨r, c, e, h4, h5⟩
def upV (dv : Nat → Value) (k : Nat) (v : Value) : Nat → Value := fun j => if j = k then v else dv j
theorem map_upV (n : Nat) (dv : Nat → Value) (k : Nat) (v : Value) : (((List.range n).map dv).toArray).setIfInBounds k v = ((List.range n).map (upV dv k v)).toArray := by
  apply Array.ext'
  rw [Array.toList_setIfInBounds]
  refine List.ext_getElem? fun i => ?_
  rw [List.getElem?_set]
  simp only [List.length_map, List.length_range]
  by_cases e : k = i
  · subst e
    rw [if_pos rfl]
    by_cases hk : k < n
    · rw [if_pos hk]
      simp [List.getElem?_map, List.getElem?_range hk, upV]
    · rw [if_neg hk]
      simp [List.getElem?_eq_none, hk]
  · rw [if_neg e]
    by_cases hi : i < n
    · simp [List.getElem?_map, List.getElem?_range hi, upV, show i ≠ k from fun h => e h.symm]
    · rw [List.getElem?_eq_none (by simpa using hi), List.getElem?_eq_none (by simpa using hi)]
/-- a record is put behind topic k's -/
theorem DnAt.push {w w' : World} {db n B s0 : Nat} {lam cnt : Nat → Nat} {dn : Nat → Nat → Int} {dv : Nat → Value} (h : DnAt w db n B lam cnt dn dv) (hdb : db < B) {k : Nat} (hk : k < n) {v' : Value} {x : Int} (p : Ex (fun b => (dv k).ownBlock = some b) w w')
    (hown : w'.ownsRow B 42 1 v' (cnt k + 1 + 1) ((ofF (cnt k + 1) (dn k)).map (Value.int .u64) ++ [.int .u64 x])) (hat : v'.ownBlock = (dv k).ownBlock ∨ v'.ownBlock = some s0) (hs : w.heap.size ≤ s0) :
    DnAt (w'.setCell ⟨db, k, none⟩ v') db n B (fun b => if b < w.heap.size then lam b else n + 3 + k) (upC cnt k (cnt k + 1)) (upD dn k (cnt k + 1) x) (upV dv k v') := by
  have hx := (Ex.refl (fun b => b = db) w').setCell (q := ⟨db, k, none⟩) (.inl rfl) v'
  have hnd : ∀ j, j < n → ¬ (dv j).ownBlock = some db := fun j hj hb => by have := ((h.2 j hj).1.lt db hb).1; omega
  refine ⟨?_, fun j hj => ?_⟩
  · have h1 : Blk w' db 41 ((List.range n).map dv).toArray := h.1.ex p (hnd k hk)
    have := h1.set_ k v'
    rw [map_upV] at this
    exact this
  · unfold upV upC
    by_cases e : j = k
    · subst e
      rw [if_pos rfl, if_pos rfl]
      refine ⟨ownsRow_ex ?_ hx (fun b hb ht => ?_), fun b hb => ?_⟩
      · have e2 : ofF (cnt j + 1 + 1) (upD dn j (cnt j + 1) x j) = ofF (cnt j + 1) (dn j) ++ [x] := by
          rw [ofF_succ]
          congr 1
          · unfold ofF
            refine List.map_congr_left fun i hi => ?_
            have := List.mem_range.1 hi
            unfold upD
            rw [if_neg (by omega)]
          · unfold upD
            rw [if_pos ⟨rfl, rfl⟩]
        rw [e2, List.map_append]
        exact hown
      · have := (hown.lt b hb).1
        have ht : b = db := ht
        omega
      · rcases hat with h9 | h9
        · rw [h9] at hb
          have h3 := (h.2 j hj).1.lt b hb
          exact (if_pos h3.2).trans ((h.2 j hj).2 b hb)
        · rw [h9] at hb
          injection hb with hb
          exact if_neg (by omega)
    · rw [if_neg e, if_neg e]
      obtain ⟨r1, r2⟩ := h.2 j hj
      have e2 : ofF (cnt j + 1) (upD dn k (cnt k + 1) x j) = ofF (cnt j + 1) (dn j) := by
        unfold ofF
        refine List.map_congr_left fun i _ => ?_
        unfold upD
        rw [if_neg (fun h => e h.1)]
      rw [e2]
      refine ⟨ownsRow_ex (ownsRow_ex r1 p (fun b hb ht => ?_)) hx (fun b hb ht => ?_), fun b hb => ?_⟩
      · have h3 := r2 b hb
        have h4 := (h.2 k hk).2 b ht
        omega
      · have := (r1.lt b hb).1
        have ht : b = db := ht
        omega
      · exact (if_pos (r1.lt b hb).2).trans (r2 b hb)
/-- how many were published of each topic, behind each step of the snapshot -/
def NbAt (w : World) (n B : Nat) (lam : Nat → Nat) (v : Value) (NB : List (Nat → Nat)) (vals : List Value) : Prop :=
  vals.length = NB.length ∧ w.ownsRow B 57 1 v NB.length vals ∧ (∀ b, v.ownBlock = some b → lam b = n + 1) ∧ ∀ (s : Nat) (f : Nat → Nat), NB[s]? = some f → ∃ r c, vals[s]? = some (Value.slice (some ⟨r, 0, none⟩) n c) ∧ B ≤ r ∧ lam r = n + 2 ∧ IntsIn w .i64 r c (ofF n fun j => (f j : Int))
theorem NbAt.nil (w : World) (n B : Nat) (lam : Nat → Nat) : NbAt w n B lam (.slice none 0 0) [] [] := ⟨rfl, World.ownsRow_nil _ _ _ _, (fun b hb => by cases hb), (fun s f h => by cases h)⟩
theorem NbAt.ex {T : Nat → Prop} {w w' : World} {n B : Nat} {lam : Nat → Nat} {v : Value} {NB : List (Nat → Nat)} {vals : List Value} (h : NbAt w n B lam v NB vals) (p : Ex T w w') (hT : ∀ b, T b → b < B ∨ (lam b ≠ n + 1 ∧ lam b ≠ n + 2)) : NbAt w' n B lam v NB vals :=
  ⟨h.1, ownsRow_ex h.2.1 p (fun b hb ht => by have h3 := (h.2.1.lt b hb).1; have h4 := h.2.2.1 b hb; have := hT b ht; omega), h.2.2.1, fun s f hf => by
    obtain ⟨r, c, e, h1, h2, h3⟩ := h.2.2.2 s f hf
    exact ⟨r, c, e, h1, h2, h3.ex p (fun ht => by have := hT r ht; omega)⟩⟩
theorem NbAt.bl {w w' : World} {n B : Nat} {lam : Nat → Nat} {v : Value} {NB : List (Nat → Nat)} {vals : List Value} (h : NbAt w n B lam v NB vals) (p : Below w.heap.size w w') : NbAt w' n B lam v NB vals := h.ex (T := fun _ => False) (Ex.of_below p) (fun _ h => h.elim)
theorem NbAt.lam_ {w : World} {n B : Nat} {lam lam' : Nat → Nat} {v : Value} {NB : List (Nat → Nat)} {vals : List Value} (h : NbAt w n B lam v NB vals) (e : ∀ b, b < w.heap.size → lam' b = lam b) : NbAt w n B lam' v NB vals :=
  ⟨h.1, h.2.1, fun b hb => by rw [e b (h.2.1.lt b hb).2]; exact h.2.2.1 b hb, fun s f hf => by
    obtain ⟨r, c, e1, h1, h2, h3⟩ := h.2.2.2 s f hf
    exact ⟨r, c, e1, h1, by rw [e r h3.lt]; exact h2, h3⟩⟩
/-- one more is put behind -/
theorem NbAt.push {w w' : World} {n B s0 r c : Nat} {lam : Nat → Nat} {v v' : Value} {NB : List (Nat → Nat)} {vals : List Value} {cnt : Nat → Nat} (h : NbAt w n B lam v NB vals) (p : Ex (fun b => v.ownBlock = some b) w w')
    (hown : w'.ownsRow B 57 1 v' (NB.length + 1) (vals ++ [.slice (some ⟨r, 0, none⟩) n c])) (hat : v'.ownBlock = v.ownBlock ∨ v'.ownBlock = some s0) (hs : w.heap.size ≤ s0) (hr : B ≤ r) (hl : lam r = n + 2) (hi : IntsIn w .i64 r c (ofF n fun j => (cnt j : Int))) :
    NbAt w' n B (fun b => if b < w.heap.size then lam b else n + 1) v' (NB ++ [cnt]) (vals ++ [.slice (some ⟨r, 0, none⟩) n c]) := by
  refine ⟨by rw [List.length_append, List.length_append, h.1]; rfl, by rw [List.length_append]; exact hown, fun b hb => ?_, fun s f hf => ?_⟩
  · rcases hat with h9 | h9
    · rw [h9] at hb
      exact (if_pos (h.2.1.lt b hb).2).trans (h.2.2.1 b hb)
    · rw [h9] at hb
      injection hb with hb
      exact if_neg (by omega)
  · by_cases e : s < NB.length
    · rw [List.getElem?_append_left e] at hf
      obtain ⟨r1, c1, e1, h1, h2, h3⟩ := h.2.2.2 s f hf
      exact ⟨r1, c1, by rw [List.getElem?_append_left (by rw [h.1]; exact e)]; exact e1, h1, (if_pos h3.lt).trans h2, h3.ex p (fun ht => by have := h.2.2.1 r1 ht; omega)⟩
    · rw [List.getElem?_append_right (by omega)] at hf
      have e2 : s = NB.length := by
        have := (List.getElem?_eq_some_iff.1 hf).1
        simp at this
        omega
      subst e2
      rw [Nat.sub_self] at hf
      injection hf with hf
      subst hf
      exact ⟨r, c, by rw [List.getElem?_append_right (by rw [h.1]; exact Nat.le_refl _), h.1, Nat.sub_self]; rfl, hr, (if_pos hi.lt).trans hl, hi.ex p (fun ht => by have := h.2.2.1 r ht; omega)⟩
/-- one of them -/
theorem NbAt.at_ {w : World} {n B : Nat} {lam : Nat → Nat} {v : Value} {NB : List (Nat → Nat)} {vals : List Value} (h : NbAt w n B lam v NB vals) {s : Nat} {f : Nat → Nat} (hf : NB[s]? = some f) : ∃ g c, v = .slice (some ⟨g, 0, none⟩) NB.length c ∧ g < w.heap.size ∧ ∃ r c2, w.cell? ⟨g, s, none⟩ = some (.slice (some ⟨r, 0, none⟩) n c2) ∧ IntsIn w .i64 r c2 (ofF n fun j => (f j : Int)) := by
  obtain ⟨r, c2, e1, _, _, h3⟩ := h.2.2.2 s f hf
  rcases h.2.1.2 with ⟨_, h0⟩ | ⟨g, cap, cur, e, _, hh, _⟩
  · have := (List.getElem?_eq_some_iff.1 hf).1
    omega
  · subst e
    refine ⟨g, cap, rfl, (h.2.1.lt g rfl).2, r, c2, ?_, h3⟩
    have := h.2.1.cells (g := g) rfl s _ e1
    have e2 : (⟨g, 0, none⟩ : Addr).add s = ⟨g, s, none⟩ := by unfold Addr.add; split <;> simp_all
    rwa [e2] at this
end Go.Proofs.Ytjdalllfnlpmnaa.Bank
