/-
  A drawn region by phases: operations that only read are taken first, under a condition that every world of the region meets; a call, or any other operation, is walked when it is the only one that may come up; at the end operations that turn nothing. No condition. By an AI agent.
-/
import Derived.Test.YthcaagkgddeabaaHeadM
import Derived.OrdersHeld
import Derived.Wp
namespace Go.Proofs.Ythcaagkgddeabaa.Base
set_option linter.unusedVariables false
set_option linter.unusedSimpArgs false
open Go

section
variable {P : Program} {ops : Array Oper} {md : Region.Mode} {C S : World → Prop}

/-- Operations that give a value and turn nothing. -/
def readsB (o : Oper) : Bool :=
  match o.op with
  | .move _ | .assign _ | .load .. | .binOp .. | .unOp .. | .fieldAddr .. | .field .. | .indexAddr .. | .index .. | .extract .. | .convert .. | .slice .. | .nilCheck .. | .build .. | .pick .. => true
  | .call { callee := .builtin .len, .. } | .call { callee := .builtin .cap, .. } => true
  | _ => false

theorem bind_wp {P : Program} {α : Type} {f : α → Sem Next} (hf : ∀ a w, (f a).wp P (fun n _ => ∃ v, n = Next.value v) (fun _ _ => True) w) (s : Sem α) : ∀ w, (Sem.bind s f).wp P (fun n _ => ∃ v, n = Next.value v) (fun _ _ => True) w := by
  induction s with
  | pure a => intro w; exact hf a w
  | load m a k ih =>
    intro w
    simp only [Sem.bind, Sem.wp]
    split
    · exact ih _ w
    · split
      · exact ih _ w
      · trivial
  | store m a v k ih =>
    intro w
    simp only [Sem.bind, Sem.wp]
    split
    · split
      · split
        · trivial
        · exact ih _
      · split
        · exact ih _
        · trivial
    · trivial
  | new o k ih => intro w; exact ih _ _
  | shape r k ih => intro w; exact ih _ _
  | freeze a n k ih => intro w; exact ih _
  | frozen a k ih => intro w; exact ih _ _
  | getObj r k ih =>
    intro w
    simp only [Sem.bind, Sem.wp]
    split
    · trivial
    · exact ih _ w
    · trivial
  | setObj r o k ih =>
    intro w
    simp only [Sem.bind, Sem.wp]
    split
    · trivial
    · exact ih _
    · trivial
  | choose q k ih =>
    intro w
    simp only [Sem.bind, Sem.wp]
    split
    · exact ih _ w
    · exact ih _ _
  | sys c k ih => intro w; exact ih _ _
  | program k ih => intro w; exact ih _ w
  | mark m k ih => intro w; exact ih w
  | halt h => intro w; trivial
theorem run_value {P : Program} {s : Sem Next} {w w' : World} {n : Next} (hs : s.wp P (fun n _ => ∃ v, n = Next.value v) (fun _ _ => True) w) (h : s.run P w = .ok n w') : ∃ v, n = .value v := by
  have h1 := (Sem.wp_iff_run P s (fun n _ => ∃ v, n = Next.value v) (fun _ _ => True) w).1 hs
  rw [h] at h1
  exact h1
theorem pure_wp {P : Program} (a : Value) (w : World) : (Sem.pure (Next.value a)).wp P (fun n _ => ∃ v, n = Next.value v) (fun _ _ => True) w := by
  simp [Sem.wp]
theorem only_value {P : Program} {s : Sem Value} {w w' : World} {n : Next} (h : (do pure (Next.value (← s)) : Sem Next).run P w = .ok n w') : ∃ v, n = .value v :=
  run_value (s := Sem.bind s fun v => Sem.pure (Next.value v)) (bind_wp (fun a w => pure_wp a w) s w) h
theorem nil_wp {P : Program} {ρ : Operand → Value} {o : Oper} {x : Operand} (hop : o.op = .nilCheck x) (w : World) : (execOp ρ o).wp P (fun n _ => ∃ v, n = Next.value v) (fun _ _ => True) w := by
  unfold execOp
  simp only [hop]
  have panics : ∀ w, (runtimePanic .nilDeref : Sem Next).wp P (fun n _ => ∃ v, n = Next.value v) (fun _ _ => True) w := fun w => trivial
  split
  · exact panics w
  · exact panics w
  · exact panics w
  · split
    · exact panics w
    · refine bind_wp (fun a w => bind_wp (fun a w => ?_) _ w) _ w
      rcases a with _ | (_ | _)
      · trivial
      · exact pure_wp _ w
      · trivial
    · exact pure_wp _ w
  · exact pure_wp _ w

theorem reads_value {P : Program} {o : Oper} (ho : readsB o = true) {ρ : Operand → Value} {w w' : World} {n : Next} (h : (execOp ρ o).run P w = .ok n w') : ∃ v, n = .value v := by
  unfold readsB at ho
  split at ho
  case h_13 x hop => exact run_value (nil_wp hop w) h
  all_goals first
    | (rename_i hop; unfold execOp at h; simp only [hop] at h; exact only_value h)
    | (rename_i hop; unfold execOp at h; simp only [hop] at h; exact run_value (pure_wp _ w) h)
    | (rename_i hop; unfold execOp at h; simp only [hop] at h; exact run_value (bind_wp (fun b w => pure_wp _ w) _ w) h)
    | cases ho

theorem yieldsIf_of_in {o : Oper} {v : Value} {a : Act} (ho : readsB o = true) (h : YieldsIn P ops C o v a) : YieldsIf P ops C o v a := by
  rcases h with ⟨hw, h⟩ | h
  · refine .inl ⟨hw, fun w hC => ?_⟩
    have h1 := h w hC
    unfold Oper.quietAt at h1
    generalize hr : (execOp a.eval o).run P w = r at h1
    cases r with
    | ok n w' =>
      obtain ⟨u, rfl⟩ := reads_value ho hr
      simp only [Oper.quietUpon] at h1
      obtain ⟨rfl, rfl⟩ := h1
      rfl
    | halt x w' => simp only [Oper.quietUpon] at h1
  · exact .inr h

def pick (l : List Oper) (s : List Nat) : List Oper := s.map fun i => (l[i]?).getD default

/-- So listed. -/
def lay (s : List Nat) (listed : Array Bool) : Array Bool := s.foldl (fun b i => b.setIfInBounds i true) listed

/-- These may be taken first, one by one; then T of what is listed. -/
def schedB (md : Region.Mode) (ops : Array Oper) (T : Array Bool → Bool) (rd : Bool) : List Nat → Array Bool → Bool
  | [], listed => T listed
  | i :: s, listed => decide (i < ops.size) && (Region.ready md ops listed).contains i && Region.free md ops listed i && (!rd || readsB (ops[i]?.getD default)) && schedB md ops T rd s (listed.setIfInBounds i true)

theorem held_hoist {Q : Exit → Act → World → Prop} {l : List Oper} {f : Nat} {w : World} (hsel : Region.noSelect l.toArray = true) (hS : S w) {T : Array Bool → Bool} :
    ∀ (s : List Nat) (listed : Array Bool) (a : Act), schedB md l.toArray T true s listed = true →
    wpQuiet P l.toArray (fun w' => ∃ x : Held S, w' = x.w) (fun a1 => ∀ listed', listed' = lay s listed → T listed' = true → wpAnyH P md l.toArray (plainEnd Q) S f listed' a1 w) (pick l s) a →
    wpAnyH P md l.toArray (plainEnd Q) S (f + s.length) listed a w
  | [], listed, a, hB, h => h _ rfl (by simpa [schedB] using hB)
  | i :: s, listed, a, hB, h => by
    simp only [schedB, Bool.and_eq_true, decide_eq_true_eq, Bool.not_true, Bool.false_or] at hB
    obtain ⟨⟨⟨⟨hi, hr⟩, hf⟩, hrd⟩, hB'⟩ := hB
    have h0 : l.toArray[i]? = some ((l[i]?).getD default) := by
      have : i < l.length := by simpa using hi
      simp [this]
    rw [h0, Option.getD_some] at hrd
    have hst : qOp P l.toArray (fun w' => ∃ x : Held S, w' = x.w) i (wpQuiet P l.toArray (fun w' => ∃ x : Held S, w' = x.w) (fun a1 => ∀ listed', listed' = lay (i :: s) listed → T listed' = true → wpAnyH P md l.toArray (plainEnd Q) S f listed' a1 w) (pick l s)) a := by
      unfold qOp
      simp only [h0]
      exact h
    obtain ⟨v, hy, hK⟩ := yieldsIn_of_qOp h0 hst
    have hy' := yieldsIf_of_in hrd hy
    have hy2 : YieldsIf P l.toArray S ((l[i]?).getD default) v a := hy'.imp (fun ⟨h1, h2⟩ => ⟨h1, fun w hw => h2 w ⟨⟨w, hw⟩, rfl⟩⟩) id
    exact wpAnyH_take h0 hsel hf hr (fun _ _ _ h => h) hy2 hS (held_hoist hsel hS s _ _ hB' hK)

theorem held_bar {Q : Exit → Act → World → Prop} {l : List Oper} {f : Nat} {w : World} {listed : Array Bool} {a : Act} (n : Nat) (o : Oper) (hr : Region.ready md l.toArray listed = [n]) (ho : l[n]? = some o)
    (h : wpList P l.toArray (behind (fun a' w' => S w' ∧ wpAnyH P md l.toArray (plainEnd Q) S f (listed.setIfInBounds n true) a' w') (plainEnd Q)) [o] a w) :
    wpAnyH P md l.toArray (plainEnd Q) S (f + 1) listed a w := by
  refine wpAnyH_all hr (by simp) fun i hi => ?_
  have : i = n := by simpa using hi
  subst this
  exact wpOp_of_behind (by simpa using ho) h

theorem wpAnyH_mono {S' : World → Prop} {Q : Exit → Act → World → Prop} (hS : ∀ w, S' w → S w) : ∀ (f : Nat) (listed : Array Bool) (a : Act) (w : World), wpAnyH P md ops Q S' f listed a w → wpAnyH P md ops Q S f listed a w
  | 0, _, _, _, h => h
  | f + 1, _, _, _, h => ⟨h.1, fun i hi => wpOp_mono (fun a' w' h' => ⟨hS _ h'.1, wpAnyH_mono hS f _ a' w' h'.2⟩) (h.2 i hi)⟩

theorem wpAnyH_of_quiet {Q : Act → Prop} {Q' : Exit → Act → World → Prop} (hCS : ∀ w, C w → S w) (hQ : ∀ a w, C w → Q a → Q' .normal a w) : ∀ (fuel : Nat) (listed : Array Bool) (a : Act) (w : World), C w →
    wpAnyQ P md ops C Q fuel listed a → wpAnyH P md ops Q' S fuel listed a w
  | 0, _, _, _, hw, h => ⟨h.1, hQ _ _ hw h.2⟩
  | fuel + 1, _, _, _, hw, h => ⟨fun h0 => hQ _ _ hw (h.1 h0), fun i hi => wpOp_of_qOp hw (fun a' w' hw' h' => ⟨hCS _ hw', wpAnyH_of_quiet hCS hQ fuel _ a' w' hw' h'⟩) (h.2 i hi)⟩

theorem wpAnyQ_sched {Q : Act → Prop} {l : List Oper} (hs : Region.noSelect l.toArray = true) : ∀ (s : List Nat) (listed : Array Bool) (a : Act),
    schedB md l.toArray (fun b => decide (Region.ready md l.toArray b = [])) false s listed = true → wpQuiet P l.toArray C Q (pick l s) a → wpAnyQ P md l.toArray C Q s.length listed a
  | [], _, _, hB, h => ⟨by simpa [schedB] using hB, h⟩
  | i :: s, listed, a, hB, h => by
    simp only [schedB, Bool.and_eq_true, decide_eq_true_eq] at hB
    obtain ⟨⟨⟨⟨hi, hr⟩, hf⟩, _⟩, hB'⟩ := hB
    have h0 : l.toArray[i]? = some ((l[i]?).getD default) := by
      have : i < l.length := by simpa using hi
      simp [this]
    have hst : qOp P l.toArray C i (wpQuiet P l.toArray C Q (pick l s)) a := by
      unfold qOp
      simp only [h0]
      exact h
    obtain ⟨v, hy, hK⟩ := yieldsIn_of_qOp h0 hst
    exact wpAnyQ_first h0 (Region.noSelect_spec hs) s.length listed a (Region.free_spec h0 hf) (by simpa using hr) hy (wpAnyQ_sched hs s _ _ hB' hK)

/-- The end: what is left turns nothing. -/
theorem held_end {S' : World → Prop} {Q : Exit → Act → World → Prop} {l : List Oper} {w : World} {listed : Array Bool} {a : Act} (s : List Nat) (hsel : Region.noSelect l.toArray = true)
    (hB : schedB md l.toArray (fun b => decide (Region.ready md l.toArray b = [])) false s listed = true) (hSS : ∀ w, S' w → S w) (hS : S' w)
    (h : wpQuiet P l.toArray (fun w' => ∃ x : Held S', w' = x.w) (fun a' => ∀ w', (∃ x : Held S', w' = x.w) → Q .normal a' w') (pick l s) a) :
    wpAnyH P md l.toArray (plainEnd Q) S s.length listed a w :=
  wpAnyH_of_quiet (C := fun w' => ∃ x : Held S', w' = x.w) (fun w ⟨x, hx⟩ => by rw [hx]; exact hSS _ x.ok) (fun a w hC h => plainEnd_normal (h w hC)) _ _ _ _ ⟨⟨w, hS⟩, rfl⟩ (wpAnyQ_sched hsel s _ _ hB h)

theorem wpQuiet_mono {K K' : Act → Prop} (hK : ∀ a, K a → K' a) : ∀ (l' : List Oper) (a : Act), wpQuiet P ops C K l' a → wpQuiet P ops C K' l' a
  | [], a, h => hK a h
  | o :: l', a, h => by
    unfold wpQuiet at *
    split
    · rename_i hw; simp only [hw, if_true] at h; exact Oper.quiet_mono (wpQuiet_mono hK l') h
    · rename_i hw; simp only [hw] at h; exact wpQuiet_mono hK l' _ h

theorem letsOut_behind' {K K' : Act → World → Prop} {Q : Exit → Act → World → Prop} (h : LetsOut (behind K Q)) : LetsOut (behind K' Q) := by
  obtain ⟨a, w, h⟩ := h
  exact ⟨a, w, h⟩

theorem wpList_one_mono {K K' : Act → World → Prop} {Q : Exit → Act → World → Prop} {o : Oper} {a : Act} {w : World} (hK : ∀ a w, K a w → K' a w)
    (h : wpList P ops (behind K Q) [o] a w) : wpList P ops (behind K' Q) [o] a w := by
  simp only [wpList] at *
  split
  · rename_i hw
    simp only [hw, if_true] at h
    rcases h with h | ⟨h1, h2⟩
    · left
      unfold Oper.wp at *
      generalize (execOp a.eval o).run P w = r at *
      cases r with
      | ok n w' =>
        cases n <;> simp only [Oper.upon] at h ⊢ <;>
          first
            | exact hK _ _ h
            | exact Calls.mono h (fun e w'' he => by cases e <;> first | exact hK _ _ he | exact he | exact letsOut_behind' he)
            | exact Rows.mono h (fun _ _ he => hK _ _ he)
      | halt x w' => cases x <;> simp only [Oper.upon] at h ⊢ <;> exact h
    · exact .inr ⟨h1, letsOut_behind' h2⟩
  · rename_i hw
    simp only [hw] at h
    exact hK _ _ h

theorem region_phases {id : Nat} {Q : Exit → Act → World → Prop} {a : Act} {w : World} (hm : P.follows .mixedOrders = true)
    (h : wpAnyH P .any ops (plainEnd Q) S ops.size (Array.replicate ops.size false) a w.drew) : (Code.region id ops true).wp P Q a w :=
  wp_region_any hm (wpAny_of_plain _ _ _ _ (wpAny_of_held _ _ _ _ h))

/-- The common case: reads (s1), one operation that may then come alone (n), and what turns nothing behind it (s2). -/
theorem drawn_one {S1 : World → Prop} {id : Nat} {Q : Exit → Act → World → Prop} {a : Act} {w : World} {l : List Oper} (s1 : List Nat) (n : Nat) (s2 : List Nat) (o : Oper) (hm : P.follows .mixedOrders = true)
    (hsel : Region.noSelect l.toArray = true)
    (hB : schedB .any l.toArray (fun b => decide (Region.ready .any l.toArray b = [n]) && schedB .any l.toArray (fun b => decide (Region.ready .any l.toArray b = [])) false s2 (b.setIfInBounds n true)) true s1 (Array.replicate l.length false) = true)
    (hlen : l.length = s2.length + 1 + s1.length) (ho : l[n]? = some o) (hS : S w.drew) (hSS : ∀ w, S1 w → S w)
    (h : wpQuiet P l.toArray (fun w' => ∃ x : Held S, w' = x.w) (fun a1 => wpList P l.toArray (behind (fun a2 w2 => S1 w2 ∧
      wpQuiet P l.toArray (fun w' => ∃ x : Held S1, w' = x.w) (fun a3 => ∀ w', (∃ x : Held S1, w' = x.w) → Q .normal a3 w') (pick l s2) a2) (plainEnd Q)) [o] a1 w.drew) (pick l s1) a) :
    (Code.region id l.toArray true).wp P Q a w := by
  refine region_phases (S := S) hm ?_
  rw [show l.toArray.size = s2.length + 1 + s1.length by simpa using hlen]
  rw [show Array.replicate (s2.length + 1 + s1.length) false = Array.replicate l.length false by rw [hlen]]
  refine held_hoist hsel hS (T := fun b => decide (Region.ready .any l.toArray b = [n]) && schedB .any l.toArray (fun b => decide (Region.ready .any l.toArray b = [])) false s2 (b.setIfInBounds n true)) s1 _ a hB ?_
  refine wpQuiet_mono (fun a1 h1 => ?_) _ _ h
  intro listed' _ hT
  simp only [Bool.and_eq_true, decide_eq_true_eq] at hT
  refine held_bar n o hT.1 ho ?_
  refine wpList_one_mono (fun a2 w2 hh => ?_) h1
  obtain ⟨hS1, h2⟩ := hh
  exact ⟨hSS _ hS1, held_end s2 hsel hT.2 hSS hS1 h2⟩

/-- Reads (s1), an operation that then comes alone (n1), reads (s2), one more that then comes alone (n2), and what turns nothing (s3). -/
theorem drawn_two {id : Nat} {Q : Exit → Act → World → Prop} {a : Act} {w : World} {l : List Oper} (s1 : List Nat) (n1 : Nat) (s2 : List Nat) (n2 : Nat) (s3 : List Nat) (o1 o2 : Oper) (hm : P.follows .mixedOrders = true)
    (hsel : Region.noSelect l.toArray = true)
    (hB : schedB .any l.toArray (fun b => decide (Region.ready .any l.toArray b = [n1]) && schedB .any l.toArray (fun b => decide (Region.ready .any l.toArray b = [n2]) && schedB .any l.toArray (fun b => decide (Region.ready .any l.toArray b = [])) false s3 (b.setIfInBounds n2 true)) true s2 (b.setIfInBounds n1 true)) true s1 (Array.replicate l.length false) = true)
    (hlen : l.length = s3.length + 1 + s2.length + 1 + s1.length) (ho1 : l[n1]? = some o1) (ho2 : l[n2]? = some o2) (hS : S w.drew)
    (h : wpQuiet P l.toArray (fun w' => ∃ x : Held S, w' = x.w) (fun a1 => wpList P l.toArray (behind (fun a2 w2 => S w2 ∧
      wpQuiet P l.toArray (fun w' => ∃ x : Held S, w' = x.w) (fun a3 => wpList P l.toArray (behind (fun a4 w4 => S w4 ∧
        wpQuiet P l.toArray (fun w' => ∃ x : Held (fun W => W = w4), w' = x.w) (fun a5 => Q .normal a5 w4) (pick l s3) a4) (plainEnd Q)) [o2] a3 w2) (pick l s2) a2) (plainEnd Q)) [o1] a1 w.drew) (pick l s1) a) :
    (Code.region id l.toArray true).wp P Q a w := by
  refine region_phases (S := S) hm ?_
  rw [show l.toArray.size = s3.length + 1 + s2.length + 1 + s1.length by simpa using hlen]
  rw [show Array.replicate (s3.length + 1 + s2.length + 1 + s1.length) false = Array.replicate l.length false by rw [hlen]]
  refine held_hoist hsel hS (T := fun b => decide (Region.ready .any l.toArray b = [n1]) && schedB .any l.toArray (fun b => decide (Region.ready .any l.toArray b = [n2]) && schedB .any l.toArray (fun b => decide (Region.ready .any l.toArray b = [])) false s3 (b.setIfInBounds n2 true)) true s2 (b.setIfInBounds n1 true)) s1 _ a hB ?_
  refine wpQuiet_mono (fun a1 h1 => ?_) _ _ h
  intro listed' _ hT
  simp only [Bool.and_eq_true, decide_eq_true_eq] at hT
  refine held_bar n1 o1 hT.1 ho1 ?_
  refine wpList_one_mono (fun a2 w2 hh => ?_) h1
  obtain ⟨hS1, h2⟩ := hh
  refine ⟨hS1, ?_⟩
  refine held_hoist hsel hS1 (T := fun b => decide (Region.ready .any l.toArray b = [n2]) && schedB .any l.toArray (fun b => decide (Region.ready .any l.toArray b = [])) false s3 (b.setIfInBounds n2 true)) s2 _ a2 hT.2 ?_
  refine wpQuiet_mono (fun a3 h3 => ?_) _ _ h2
  intro listed'' _ hT2
  simp only [Bool.and_eq_true, decide_eq_true_eq] at hT2
  refine held_bar n2 o2 hT2.1 ho2 ?_
  refine wpList_one_mono (fun a4 w4 hh => ?_) h3
  obtain ⟨hS4, h4⟩ := hh
  refine ⟨hS4, held_end (S' := fun W => W = w4) s3 hsel hT2.2 (fun W hW => by rw [hW]; exact hS4) rfl ?_⟩
  refine wpQuiet_mono (fun a5 h5 => ?_) _ _ h4
  rintro w' ⟨⟨x, hx⟩, h⟩
  have e : w' = w4 := h.trans hx
  rw [e]; exact h5
end
end Go.Proofs.Ythcaagkgddeabaa.Base
