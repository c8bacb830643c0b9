/-
  Law 10: a snapshot under way, or none, in memory; rows that are made. Conditions stand at each. By an AI agent.
-/
import Derived.Test.YtjdalllfnlpmnaaSnPe
namespace Go.Proofs.Ytjdalllfnlpmnaa.Bank
set_option linter.unusedVariables false
set_option linter.unusedSimpArgs false
open Go Go.RowKit Go.Proofs.Ytjdalllfnlpmnaa.Base
theorem OpsAt.ex2 {T : Nat → Prop} {w w' : World} {ob n B : Nat} {l : Nat → Tp} {cnt : Nat → Nat} {st : Nat → Option W1} {lam : Nat → Nat} (h : OpsAt w ob n B l cnt st lam) (p : Ex T w w') (h1 : ¬ T ob) (h2 : ∀ b, T b → b < B ∨ n ≤ lam b) : OpsAt w' ob n B l cnt st lam :=
  ⟨h.row.ex p h1, fun k hk s hs => by
    obtain ⟨a, b, c, d, e, f⟩ := h.ops k hk s hs
    exact ⟨a.ex p (fun ht => by have := h2 _ ht; omega) (fun ht => by have := h2 _ ht; omega), b, c, d, e, f⟩⟩
def SnL (w : World) (n m B : Nat) (l : Nat → Tp) (lam : Nat → Nat) (o rs cs rg rw : Nat) (x : SX) : Prop := SnX w o rs cs rg rw n m (laidS l) x ∧ (B ≤ o ∧ B ≤ rs ∧ B ≤ rg ∧ B ≤ rw) ∧ (lam o = n ∧ lam rs = n ∧ lam rg = n ∧ lam rw = n)
theorem SnL.ex {T : Nat → Prop} {w w' : World} {n m B : Nat} {l : Nat → Tp} {lam : Nat → Nat} {o rs cs rg rw : Nat} {x : SX} (h : SnL w n m B l lam o rs cs rg rw x) (p : Ex T w w') (hT : ∀ b, T b → b < B ∨ lam b ≠ n) : SnL w' n m B l lam o rs cs rg rw x :=
  ⟨h.1.ex p (fun ht => by have h1 := h.2; have := hT _ ht; omega) (fun ht => by have h1 := h.2; have := hT _ ht; omega) (fun ht => by have h1 := h.2; have := hT _ ht; omega) (fun ht => by have h1 := h.2; have := hT _ ht; omega), h.2⟩
theorem SnL.lam_ {w : World} {n m B : Nat} {l : Nat → Tp} {lam lam' : Nat → Nat} {o rs cs rg rw : Nat} {x : SX} (h : SnL w n m B l lam o rs cs rg rw x) (e : ∀ b, b < w.heap.size → lam' b = lam b) : SnL w n m B l lam' o rs cs rg rw x := by
  have := h.1.lt
  exact ⟨h.1, h.2.1, by rw [e o this.1, e rs this.2.1, e rg this.2.2.1, e rw this.2.2.2]; exact h.2.2⟩
theorem Snp.mono_ {n m : Nat} {l : Nat → Tp} {T : Int} {x : SX} {c d : Nat} (h : SOk n m (laidS l) T x c) (hc : c ≤ d) : SOk n m (laidS l) T x d := ⟨h.inv, h.len, h.tr, ⟨h.st.1, by have := h.st; omega⟩, h.n1, h.m1⟩
def SnOpt (w : World) (n m B : Nat) (l : Nat → Tp) (lam cnt : Nat → Nat) (dn : Nat → Nat → Int) (T : Int) (i : Nat) (sp sn sf : Value) : Prop :=
  sp = .pointer none ∨ ∃ o rs cs rg rw x base frm NB vals, sp = .pointer (some ⟨o, 0, none⟩) ∧ SnL w n m B l lam o rs cs rg rw x ∧ Snp n m l T x cnt base frm NB dn ∧ SOk n m (laidS l) T x i ∧ NbAt w n B lam sn NB vals ∧ sf = .int .i64 (frm : Int) ∧ NB.length ≤ i
theorem SnOpt.ex {T0 : Nat → Prop} {w w' : World} {n m B : Nat} {l : Nat → Tp} {lam cnt : Nat → Nat} {dn : Nat → Nat → Int} {T : Int} {i : Nat} {sp sn sf : Value} (h : SnOpt w n m B l lam cnt dn T i sp sn sf) (p : Ex T0 w w') (hT : ∀ b, T0 b → b < B ∨ (lam b ≠ n ∧ lam b ≠ n + 1 ∧ lam b ≠ n + 2)) : SnOpt w' n m B l lam cnt dn T i sp sn sf := by
  rcases h with h | ⟨o, rs, cs, rg, rw, x, base, frm, NB, vals, e, h1, h2, h3, h4, h5, h6⟩
  · exact .inl h
  · exact .inr ⟨o, rs, cs, rg, rw, x, base, frm, NB, vals, e, h1.ex p (fun b hb => (hT b hb).imp id (fun h => h.1)), h2, h3, h4.ex p (fun b hb => (hT b hb).imp id (fun h => h.2)), h5, h6⟩
theorem SnOpt.lam_ {w : World} {n m B : Nat} {l : Nat → Tp} {lam lam' cnt : Nat → Nat} {dn : Nat → Nat → Int} {T : Int} {i : Nat} {sp sn sf : Value} (h : SnOpt w n m B l lam cnt dn T i sp sn sf) (e : ∀ b, b < w.heap.size → lam' b = lam b) : SnOpt w n m B l lam' cnt dn T i sp sn sf := by
  rcases h with h | ⟨o, rs, cs, rg, rw, x, base, frm, NB, vals, e1, h1, h2, h3, h4, h5, h6⟩
  · exact .inl h
  · exact .inr ⟨o, rs, cs, rg, rw, x, base, frm, NB, vals, e1, h1.lam_ e, h2, h3, h4.lam_ e, h5, h6⟩
theorem SnOpt.pub {w : World} {n m B : Nat} {l : Nat → Tp} {lam cnt : Nat → Nat} {dn : Nat → Nat → Int} {T : Int} {i : Nat} {sp sn sf : Value} (hok : TOk n l) (hm : widthF (laidS l) n = (m : Int)) (h : SnOpt w n m B l lam cnt dn T i sp sn sf) (k : Nat) (y : Int) : SnOpt w n m B l lam (upC cnt k (cnt k + 1)) (upD dn k (cnt k + 1) y) T i sp sn sf := by
  rcases h with h | ⟨o, rs, cs, rg, rw, x, base, frm, NB, vals, e1, h1, h2, h3, h4, h5, h6⟩
  · exact .inl h
  · exact .inr ⟨o, rs, cs, rg, rw, x, base, frm, NB, vals, e1, h1, h2.pub hok hm k y, h3, h4, h5, h6⟩
theorem SnOpt.later {w : World} {n m B : Nat} {l : Nat → Tp} {lam cnt : Nat → Nat} {dn : Nat → Nat → Int} {T : Int} {i : Nat} {sp sn sf : Value} (h : SnOpt w n m B l lam cnt dn T i sp sn sf) : SnOpt w n m B l lam cnt dn T (i + 1) sp sn sf := by
  rcases h with h | ⟨o, rs, cs, rg, rw, x, base, frm, NB, vals, e1, h1, h2, h3, h4, h5, h6⟩
  · exact .inl h
  · exact .inr ⟨o, rs, cs, rg, rw, x, base, frm, NB, vals, e1, h1, h2, Snp.mono_ h3 (by omega), h4, h5, by omega⟩
theorem rows_info : (Try.prog.info? 41).map (fun i => (i.zero, i.size, i.bytes)) = some (some (.slice none 0 0), 1, 24) := by kernel_rfl
theorem irow_info : (Try.prog.info? 57).map (fun i => (i.zero, i.size, i.bytes)) = some (some (.slice none 0 0), 1, 24) := by kernel_rfl
theorem int_info : (Try.prog.info? 3).map (fun i => (i.zero, i.size, i.bytes)) = some (some (.int .i64 0), 1, 8) := by kernel_rfl
set_option maxRecDepth 100000 in
theorem make_rows (n : Nat) (hn : n ≤ 1048576) (w : World) :
    (Instr.makeSlice 72 (.int .i64 (n : Int)) (.int .i64 (n : Int))).run Try.prog w = .ok (.slice (some ⟨w.heap.size, 0, none⟩) n n) (w.alloc (.cells ((List.range n).map (fun _ => Value.slice none 0 0)).toArray 41)) := by
  obtain ⟨i0, hi, hz0, hz1, hz2⟩ := info_parts rows_info
  have hr := run_make (P := Try.prog) w 72 41 i0 _ Try.underlying72 hi hz0 .i64 .i64 n n (by omega) (by omega) (by rw [hz2]; omega) (by omega)
  rw [hr, hz1]
  simp only [Int.toNat_natCast, Nat.mul_one]
  congr 3
  apply Array.toList_inj.1
  rw [show (Value.slice none 0 0).cells = #[.slice none 0 0] from rfl, toList_madeCells_one]
  refine List.ext_getElem? fun i => ?_
  by_cases hi : i < n
  · simp [List.getElem?_map, List.getElem?_range hi, List.getElem?_replicate, hi]
  · rw [List.getElem?_eq_none (by simpa using hi), List.getElem?_eq_none (by simpa using hi)]
/-- the rows that hold what was published, as they are laid at first -/
def DnPart (w : World) (db n B : Nat) (lam : Nat → Nat) (dv : Nat → Value) (k : Nat) : Prop :=
  Blk w db 41 ((List.range n).map dv).toArray ∧ ∀ j, j < k → w.ownsRow B 42 1 (dv j) 1 [.int .u64 0] ∧ ∀ b, (dv j).ownBlock = some b → lam b = n + 3 + j
theorem DnPart.next {w : World} {db n B : Nat} {lam : Nat → Nat} {dv : Nat → Value} {k : Nat} (h : DnPart w db n B lam dv k) (hdb : db < B) (hB : B ≤ w.heap.size) (hk : k < n) :
    DnPart ((w.alloc (.cells #[.int .u64 0] 42)).setCell ⟨db, k, none⟩ (.slice (some ⟨w.heap.size, 0, none⟩) 1 1)) db n B (fun b => if b = w.heap.size then n + 3 + k else lam b) (upV dv k (.slice (some ⟨w.heap.size, 0, none⟩) 1 1)) (k + 1) := by
  have hx : Ex (fun b => b = db) w ((w.alloc (.cells #[.int .u64 0] 42)).setCell ⟨db, k, none⟩ (.slice (some ⟨w.heap.size, 0, none⟩) 1 1)) := ((Ex.refl (fun b => b = db) w).alloc _).setCell (q := ⟨db, k, none⟩) (.inl rfl) _
  have hx2 := (Ex.refl (fun b => b = db) (w.alloc (.cells #[.int .u64 0] 42))).setCell (q := ⟨db, k, none⟩) (.inl rfl) (.slice (some ⟨w.heap.size, 0, none⟩) 1 1)
  have hnew := (Blk.new w 42 #[.int .u64 0]).ex hx2 (by omega)
  refine ⟨?_, fun j hj => ?_⟩
  · have h1 : Blk (w.alloc (.cells #[.int .u64 0] 42)) db 41 ((List.range n).map dv).toArray := h.1.alloc _
    have := h1.set_ k (.slice (some ⟨w.heap.size, 0, none⟩) 1 1)
    rw [map_upV] at this
    exact this
  · unfold upV
    by_cases e : j = k
    · subst e
      rw [if_pos rfl]
      refine ⟨⟨rfl, .inr ⟨w.heap.size, 1, #[.int .u64 0], rfl, hB, hnew, Nat.le_refl _, by unfold maxLen; omega, rfl, rfl⟩⟩, fun b hb => ?_⟩
      injection hb with hb
      exact if_pos hb.symm
    · rw [if_neg e]
      obtain ⟨r1, r2⟩ := h.2 j (by omega)
      refine ⟨ownsRow_ex r1 hx (fun b hb ht => by have := (r1.lt b hb).1; have ht : b = db := ht; omega), fun b hb => ?_⟩
      have := (r1.lt b hb).2
      exact (if_neg (by omega)).trans (r2 b hb)
theorem DnPart.all {w : World} {db n B : Nat} {lam : Nat → Nat} {dv : Nat → Value} (h : DnPart w db n B lam dv n) : DnAt w db n B lam (fun _ => 0) (fun _ _ => 0) dv :=
  ⟨h.1, fun k hk => h.2 k hk⟩
theorem DnPart.ex {T : Nat → Prop} {w w' : World} {db n B k : Nat} {lam : Nat → Nat} {dv : Nat → Value} (h : DnPart w db n B lam dv k) (p : Ex T w w') (hT : ∀ b, T b → b < db) (hdb : db < B) : DnPart w' db n B lam dv k :=
  ⟨h.1.ex p (fun ht => by have := hT _ ht; omega), fun j hj => ⟨ownsRow_ex (h.2 j hj).1 p (fun b hb ht => by have := ((h.2 j hj).1.lt b hb).1; have := hT b ht; omega), (h.2 j hj).2⟩⟩
end Go.Proofs.Ytjdalllfnlpmnaa.Bank
