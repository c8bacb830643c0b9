/-
  Modes: the row's list gives the table of ways, cell by cell. No condition. By an AI agent.
-/
import Derived.Test.YtkmlikohgilnbaaDoorRows
import Derived.Test.YtkmlikohgilnbaaDoorModes
import Derived.Lib.LaidTab
import Derived.OpenShut
namespace Go.Proofs.YtkmlikohgilnbaaDoor.Modes
set_option linter.unusedVariables false
open Go Go.RowKit Go.Proofs.YtkmlikohgilnbaaDoor.Base

theorem gWays : Tryd.prog.globalNamed "aileron/modes.ways" = some 0 := by kernel_rfl
theorem gWaysType : (Tryd.prog.globals[0]?).map (·.type) = some 133 := by kernel_rfl
theorem cells88 : Tryd.prog.cellsOf 133 = 64 := by kernel_rfl
theorem cells8 : Tryd.prog.cellsOf 132 = 8 := by kernel_rfl
theorem cells1 : Tryd.prog.cellsOf 3 = 1 := by kernel_rfl
def tabRow (i : Nat) : List Int := (tab.drop (i * 8)).take 8
theorem laid_eq {H : Type} : (Rows.laid_aileron_modes_ways : DataW H) = .agg ((List.range 8).map fun i => Lib.tabData .i64 (tabRow i)) := rfl

theorem tab_of_laid {laid : List (String × DataW Unit)} {W : World} (hlaid : laid = [("aileron/modes.ways", Rows.laid_aileron_modes_ways)]) (h : laidMetH Tryd.prog laid W) : Tab W := by
  subst hlaid
  have h' : laidMet Tryd.prog [("aileron/modes.ways", Rows.laid_aileron_modes_ways)] W := h
  obtain ⟨ps, ⟨g', t', cs, fuel, p, q, hg', ht', hvar, hd, _, _⟩, _⟩ := h'
  obtain rfl := Option.some.inj (gWays.symm.trans hg')
  obtain rfl := Option.some.inj (gWaysType.symm.trans ht')
  rw [laid_eq] at hd
  obtain ⟨xs, m, rfl, hx, hl, hlen, hrow⟩ := DataW.trod_array Tryd.underlying133 hd
  rw [cells88] at hl
  intro i hi
  have e := World.var?_cell gWays hvar i
  rw [e]
  have hi8 : i / 8 < 8 := by omega
  have hr := hrow (i / 8) hi8
  rw [cells8, List.getElem?_eq_getElem (by omega)] at hr
  have hxi : (xs[i / 8]'(by omega)).1 = Lib.tabData .i64 (tabRow (i / 8)) := by
    have h1 := congrArg Prod.fst hx
    simp only [DataW.agg.injEq] at h1
    have h2 := congrArg (·[i / 8]?) h1
    simpa [List.getElem?_eq_getElem, hi8, hlen] using h2.symm
  have hr' := hr.trans (congrArg some (show (xs[i / 8]'(by omega)) = (Lib.tabData .i64 (tabRow (i / 8)), (xs[i / 8]'(by omega)).2) from Prod.ext hxi rfl))
  have hc := Lib.cells_of_tab Tryd.underlying132 Tryd.underlying3 cells1 cells8 hr'
  have h3 := congrArg (·[i % 8]?) hc
  simp only [List.getElem?_take, List.getElem?_drop, List.getElem?_map] at h3
  rw [if_pos (by omega), show i / 8 * 8 + i % 8 = i by omega] at h3
  rw [← Array.getElem?_toList, h3]
  have h4 : ∀ j : Fin 64, Option.map (fun z => Value.int IntKind.i64 z) (tabRow (j.val / 8))[j.val % 8]? = some (Value.int IntKind.i64 (tab.getD j.val 0)) := by
    intro j
    have : (tabRow (j.val / 8))[j.val % 8]? = some (tab.getD j.val 0) := by
      have := (by decide : ∀ j : Fin 64, (tabRow (j.val / 8))[j.val % 8]? = some (tab.getD j.val 0)) j
      exact this
    rw [this]; rfl
  exact h4 ⟨i, hi⟩
end Go.Proofs.YtkmlikohgilnbaaDoor.Modes
