/-
  BankMost, the plain law: what four tasks do to one word. No program in sight, no condition. By an AI agent.
-/
import Derived.Test.YtabhkplcigdafaaBase
namespace Go.Proofs.Ytabhkplcigdafaa.Most
set_option linter.unusedVariables false

def upd {α : Type} (f : Nat → α) (k : Nat) (v : α) : Nat → α := fun j => if j = k then v else f j
theorem upd_same {α : Type} (f : Nat → α) (k : Nat) (v : α) : upd f k v k = v := by simp [upd]
theorem upd_other {α : Type} (f : Nat → α) {k j : Nat} (v : α) (h : j ≠ k) : upd f k v j = f j := by simp [upd, h]
/-- how many turns of its own a task needs at most -/
def need (W s : Int) (l : Bool) : Nat := match l with
  | false => 2
  | true => if s = W then 1 else 3
theorem need_le (W s : Int) (l : Bool) : need W s l ≤ 3 := by
  cases l with
  | false => simp [need]
  | true => simp only [need]; split <;> omega
theorem need_pos (W s : Int) (l : Bool) : 1 ≤ need W s l := by
  cases l with
  | false => simp [need]
  | true => simp only [need]; split <;> omega
structure MInv (n i : Nat) (x : Nat → Int) (M W : Int) (saw : Nat → Int) (ld : Nat → Bool) : Prop where
  low : ∀ j, j < 4 → saw j ≤ W
  pos : 0 ≤ W
  top : W ≤ M
  done : n ≤ i → ∀ j, j < 4 → j < (i - n) / 10 → x j ≤ W
  cur : n ≤ i → ∀ j, j < 4 → j = (i - n) / 10 → x j ≤ W ∨ need W (saw j) (ld j) + (i - n) % 10 ≤ 3

/-- a turn of task k, whatever it is, if the word does not fall, and k is nearer to its end -/
theorem MInv.turn {n i k : Nat} {x : Nat → Int} {M W W' : Int} {saw saw' : Nat → Int} {ld ld' : Nat → Bool} (h : MInv n i x M W saw ld) (hk : k < 4) (hki : n ≤ i → k = (i - n) / 10)
    (hW : W ≤ W') (hM : W' ≤ M) (hlow : ∀ j, j < 4 → saw' j ≤ W') (hk' : x k ≤ W' ∨ need W' (saw' k) (ld' k) + 1 ≤ need W (saw k) (ld k)) : MInv n (i + 1) x M W' saw' ld' := by
  refine ⟨hlow, by have := h.pos; omega, hM, ?_, ?_⟩
  · intro hn j hj hjq
    by_cases hi : n ≤ i
    · by_cases hjk : j < (i - n) / 10
      · have := h.done hi j hj hjk; omega
      · have hjk' : j = k := by rw [hki hi]; omega
        have hr : (i - n) % 10 = 9 := by omega
        subst hjk'
        rcases h.cur hi j hj (hki hi) with h1 | h1
        · omega
        · have := need_pos W (saw j) (ld j); omega
    · omega
  · intro hn j hj hjq
    by_cases hi : n ≤ i
    · by_cases hjk : j = (i - n) / 10
      · have hjk' : j = k := by rw [hki hi]; exact hjk
        subst hjk'
        rcases h.cur hi j hj hjk with h1 | h1
        · left; omega
        · rcases hk' with h2 | h2
          · left; exact h2
          · right; omega
      · right
        have := need_le W' (saw' j) (ld' j)
        omega
    · right
      have := need_le W' (saw' j) (ld' j)
      omega
theorem MInv.load {n i k : Nat} {x : Nat → Int} {M W : Int} {saw : Nat → Int} {ld : Nat → Bool} (h : MInv n i x M W saw ld) (hk : k < 4) (hki : n ≤ i → k = (i - n) / 10) (hl : ld k = false) : MInv n (i + 1) x M W (upd saw k W) (upd ld k true) :=
  h.turn hk hki (Int.le_refl _) h.top (fun j hj => by
    by_cases e : j = k
    · subst e; rw [upd_same]; exact Int.le_refl _
    · rw [upd_other _ _ e]; exact h.low j hj) (.inr (by rw [upd_same, upd_same, hl]; simp [need]))
theorem MInv.idle {n i k : Nat} {x : Nat → Int} {M W : Int} {saw : Nat → Int} {ld : Nat → Bool} (h : MInv n i x M W saw ld) (hk : k < 4) (hki : n ≤ i → k = (i - n) / 10) (hx : x k ≤ saw k) : MInv n (i + 1) x M W saw ld :=
  h.turn hk hki (Int.le_refl _) h.top h.low (.inl (by have := h.low k hk; omega))
theorem MInv.hit {n i k : Nat} {x : Nat → Int} {M W : Int} {saw : Nat → Int} {ld : Nat → Bool} (h : MInv n i x M W saw ld) (hk : k < 4) (hki : n ≤ i → k = (i - n) / 10) (hx : saw k < x k) (hs : saw k = W) (hM : x k ≤ M) : MInv n (i + 1) x M (x k) saw (upd ld k false) :=
  h.turn hk hki (by omega) hM (fun j hj => by have := h.low j hj; omega) (.inl (Int.le_refl _))
theorem MInv.miss {n i k : Nat} {x : Nat → Int} {M W : Int} {saw : Nat → Int} {ld : Nat → Bool} (h : MInv n i x M W saw ld) (hk : k < 4) (hki : n ≤ i → k = (i - n) / 10) (hl : ld k = true) (hs : saw k ≠ W) : MInv n (i + 1) x M W saw (upd ld k false) :=
  h.turn hk hki (Int.le_refl _) h.top h.low (.inr (by rw [upd_same, hl]; simp [need, hs]))
theorem MInv.start (n : Nat) (x : Nat → Int) (M : Int) (hM : 0 ≤ M) : MInv n 0 x M 0 (fun _ => 0) (fun _ => false) :=
  ⟨fun _ _ => Int.le_refl _, Int.le_refl _, hM, fun h j hj hq => by omega, fun h j hj hq => .inr (by simp [need])⟩
theorem MInv.all {n : Nat} {x : Nat → Int} {M W : Int} {saw : Nat → Int} {ld : Nat → Bool} (h : MInv n (n + 40) x M W saw ld) : ∀ j, j < 4 → x j ≤ W := fun j hj => h.done (by omega) j hj (by omega)

/-- the greatest of the first k numbers, 0 among them -/
def peak (x : Nat → Int) : Nat → Int
  | 0 => 0
  | k + 1 => if x k > peak x k then x k else peak x k
theorem peak_ge (x : Nat → Int) (k : Nat) : 0 ≤ peak x k ∧ ∀ j, j < k → x j ≤ peak x k := by
  induction k with
  | zero => exact ⟨Int.le_refl _, fun j hj => by omega⟩
  | succ k ih =>
    simp only [peak]
    split
    · refine ⟨by omega, fun j hj => ?_⟩
      by_cases e : j = k
      · subst e; exact Int.le_refl _
      · have := ih.2 j (by omega); omega
    · refine ⟨ih.1, fun j hj => ?_⟩
      by_cases e : j = k
      · subst e; omega
      · exact ih.2 j (by omega)
theorem peak_le {x : Nat → Int} {k : Nat} {W : Int} (h0 : 0 ≤ W) (h : ∀ j, j < k → x j ≤ W) : peak x k ≤ W := by
  induction k with
  | zero => exact h0
  | succ k ih =>
    simp only [peak]
    split
    · exact h k (by omega)
    · exact ih fun j hj => h j (by omega)
theorem MInv.final {n : Nat} {x : Nat → Int} {W : Int} {saw : Nat → Int} {ld : Nat → Bool} (h : MInv n (n + 40) x (peak x 4) W saw ld) : W = peak x 4 := by
  have h1 := h.top
  have h2 := peak_le h.pos h.all
  omega
end Go.Proofs.Ytabhkplcigdafaa.Most
