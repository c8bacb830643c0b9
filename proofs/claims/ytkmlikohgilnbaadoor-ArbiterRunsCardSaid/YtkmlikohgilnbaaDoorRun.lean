/-
  A straight road through a function, reckoned: where no region draws its order and no operation asks memory of an unknown world, the call's end is what the reckoning says. No condition. By an AI agent.
-/
import Derived.Calls
import Derived.KernelRfl
namespace Go.Proofs.YtkmlikohgilnbaaDoor.Base
open Go

def runOps (P : Program) (ops : Array Oper) : List Nat → Act → World → Option (Act × World)
  | [], a, w => some (a, w)
  | i :: rest, a, w =>
    match ops[i]? with
    | none => runOps P ops rest a w
    | some o =>
      match Region.wanted o (yielded ops a.tmps) with
      | true =>
        match (execOp a.eval o).run P w with
        | .ok (.value v) w' => runOps P ops rest (a.put o.dst v) w'
        | .ok .skip w' => runOps P ops rest (a.put o.dst undef) w'
        | _ => none
      | false => runOps P ops rest (a.put o.dst undef) w

theorem runOps_sound {P : Program} {ops : Array Oper} {Q : Exit → Act → World → Prop} (l : List Nat) : ∀ {a a' : Act} {w w' : World}, runOps P ops l a w = some (a', w') → Q .normal a' w' → wpOps P ops Q l a w := by
  induction l with
  | nil =>
    intro a a' w w' h hq
    simp only [runOps, Option.some.injEq, Prod.mk.injEq] at h
    obtain ⟨rfl, rfl⟩ := h
    exact hq
  | cons i rest ih =>
    intro a a' w w' h hq
    simp only [runOps] at h
    simp only [wpOps]
    cases ho : ops[i]? with
    | none =>
      simp only [ho] at h
      exact ih h hq
    | some o =>
      simp only [ho] at h ⊢
      cases hw : Region.wanted o (yielded ops a.tmps) with
      | false =>
        simp only [hw] at h
        simp only [Bool.false_eq_true, if_false]
        exact ih h hq
      | true =>
        simp only [hw] at h
        simp only [if_true]
        left
        unfold Oper.wp
        split at h
        · rename_i v w1 hr
          rw [hr]
          exact ih h hq
        · rename_i w1 hr
          rw [hr]
          exact ih h hq
        · cases h

def runCode (P : Program) : Code → Act → World → Option (Exit × Act × World)
  | .skip, a, w => some (.normal, a, w)
  | .region _ ops false, a, w => match runOps P ops (List.range ops.size) a w with
    | some (a', w') => some (.normal, a', w')
    | none => none
  | .seq x y, a, w => match runCode P x a w with
    | some (.normal, a', w') => runCode P y a' w'
    | some (.ret, a', w') => some (.ret, a', w')
    | some (.exit id, a', w') => some (.exit id, a', w')
    | _ => none
  | .block id c, a, w => match runCode P c a w with
    | some (.normal, a', w') => some (.normal, a', w')
    | some (.ret, a', w') => some (.ret, a', w')
    | some (.exit id', a', w') => match Nat.decEq id' id with
      | isTrue _ => some (.normal, a', w')
      | isFalse _ => some (.exit id', a', w')
    | _ => none
  | .exit id, a, w => some (.exit id, a, w)
  | .cond c x y, a, w => match a.eval c with
    | .bool true => runCode P x a w
    | .bool false => runCode P y a w
    | _ => none
  | .ret, a, w => some (.ret, a, w)
  | _, _, _ => none

theorem runCode_sound {P : Program} (c : Code) : ∀ {Q : Exit → Act → World → Prop} {a a' : Act} {w w' : World} {e : Exit}, runCode P c a w = some (e, a', w') → Q e a' w' → c.wp P Q a w := by
  induction c with
  | skip =>
    intro Q a a' w w' e h hq
    simp only [runCode, Option.some.injEq, Prod.mk.injEq] at h
    obtain ⟨rfl, rfl, rfl⟩ := h
    exact wp_skip hq
  | ret =>
    intro Q a a' w w' e h hq
    simp only [runCode, Option.some.injEq, Prod.mk.injEq] at h
    obtain ⟨rfl, rfl, rfl⟩ := h
    exact wp_ret hq
  | region id ops draw =>
    intro Q a a' w w' e h hq
    cases draw with
    | true => simp [runCode] at h
    | false =>
      simp only [runCode] at h
      split at h
      · rename_i a1 w1 hr
        simp only [Option.some.injEq, Prod.mk.injEq] at h
        obtain ⟨rfl, rfl, rfl⟩ := h
        exact wp_region (runOps_sound _ hr hq)
      · cases h
  | seq x y ihx ihy =>
    intro Q a a' w w' e h hq
    simp only [runCode] at h
    split at h
    · rename_i a1 w1 hr
      exact wp_seq (ihx hr (ihy h hq))
    · rename_i a1 w1 hr
      simp only [Option.some.injEq, Prod.mk.injEq] at h
      obtain ⟨rfl, rfl, rfl⟩ := h
      exact wp_seq (ihx hr hq)
    · rename_i id a1 w1 hr
      simp only [Option.some.injEq, Prod.mk.injEq] at h
      obtain ⟨rfl, rfl, rfl⟩ := h
      exact wp_seq (ihx hr hq)
    · cases h
  | cond c x y ihx ihy =>
    intro Q a a' w w' e h hq
    simp only [runCode] at h
    split at h
    · rename_i hc
      exact wp_cond_true hc (ihx h hq)
    · rename_i hc
      exact wp_cond_false hc (ihy h hq)
    · cases h
  | block id c ih =>
    intro Q a a' w w' e h hq
    simp only [runCode] at h
    split at h
    · rename_i a1 w1 hr
      simp only [Option.some.injEq, Prod.mk.injEq] at h
      obtain ⟨rfl, rfl, rfl⟩ := h
      exact wp_block (ih hr hq)
    · rename_i a1 w1 hr
      simp only [Option.some.injEq, Prod.mk.injEq] at h
      obtain ⟨rfl, rfl, rfl⟩ := h
      exact wp_block (ih hr hq)
    · rename_i id' a1 w1 hr
      split at h
      · rename_i hid _
        simp only [Option.some.injEq, Prod.mk.injEq] at h
        obtain ⟨rfl, rfl, rfl⟩ := h
        exact wp_block (ih hr (by simp only [Exit.inBlock, hid, if_true]; exact hq))
      · rename_i hid _
        simp only [Option.some.injEq, Prod.mk.injEq] at h
        obtain ⟨rfl, rfl, rfl⟩ := h
        exact wp_block (ih hr (by simp only [Exit.inBlock, hid, if_false]; exact hq))
    · cases h
  | loop c ih => intro Q a a' w w' e h hq; simp [runCode] at h
  | rangeFunc f ps x y ih1 ih2 => intro Q a a' w w' e h hq; simp [runCode] at h
  | exit id =>
    intro Q a a' w w' e h hq
    simp only [runCode, Option.some.injEq, Prod.mk.injEq] at h
    obtain ⟨rfl, rfl, rfl⟩ := h
    exact wp_exit hq
  | scope c ih => intro Q a a' w w' e h hq; simp [runCode] at h
  | label l => intro Q a a' w w' e h hq; simp [runCode] at h
  | goto l => intro Q a a' w w' e h hq; simp [runCode] at h
  | refuse s => intro Q a a' w w' e h hq; simp [runCode] at h

def runFn (P : Program) (fn : Func) (args : Array Value) (w : World) : Option (Value × World × World) :=
  match fn.body with
  | none => none
  | some c => match runCode P c { tmps := args ++ Array.replicate (fn.ntmps - args.size) undef, defers := [] } w with
    | some (.ret, { tmps := t, defers := [] }, w') => match (results fn t).run P w' with
      | .ok v w'' => some (v, w', w'')
      | _ => none
    | some (.normal, { tmps := t, defers := [] }, w') => match (results fn t).run P w' with
      | .ok v w'' => some (v, w', w'')
      | _ => none
    | _ => none

theorem calls_of_runFn {P : Program} {f : FuncId} {fn : Func} {args : Array Value} {w w' : World} {v : Value} (hf : P.funcs[f]? = some fn) (h : runFn P fn args w = some (v, w', w')) :
    Calls P f args w fun e w'' => e = .returned v ∧ w'' = w' := by
  unfold runFn at h
  split at h
  · cases h
  · rename_i c hb
    split at h
    · rename_i t w1 hr
      split at h
      · rename_i v1 w2 hres
        simp only [Option.some.injEq, Prod.mk.injEq] at h
        obtain ⟨rfl, rfl, rfl⟩ := h
        exact calls_of_wp hf hb (runCode_sound c hr ⟨rfl, _, hres, rfl, rfl⟩)
      · cases h
    · rename_i t w1 hr
      split at h
      · rename_i v1 w2 hres
        simp only [Option.some.injEq, Prod.mk.injEq] at h
        obtain ⟨rfl, rfl, rfl⟩ := h
        exact calls_of_wp hf hb (runCode_sound c hr ⟨rfl, _, hres, rfl, rfl⟩)
      · cases h
    · cases h
end Go.Proofs.YtkmlikohgilnbaaDoor.Base
