/-
  Law 15: the plain operation, and whether there may be one. Printed by wip/tools/mkarr.py. By an AI agent.
-/
import Derived.Test.YtkmlikohgilnbaaDoorArbL
namespace Go.Proofs.YtkmlikohgilnbaaDoor.Arb
set_option linter.unusedVariables false
set_option linter.unusedSimpArgs false
open Go Go.RowKit Go.Proofs.YtkmlikohgilnbaaDoor.Base Go.Proofs.YtkmlikohgilnbaaDoor.Reg
open Go.Proofs.YtkmlikohgilnbaaDoor.Bank (BankAt inW wordF setF tickF errF casB errF_in errF_out wordF_in wordF_out tickF_in tickF_out setF_in setF_out casB_out casB_in wordF_range Load_any CAS_any Load_nil New_in Store_any Peek_any Touches_any zeros)
open Go.Proofs.YtkmlikohgilnbaaDoor.Modes (Tab)

/-- the document's operation -/
structure RX where
  next : Int
  swaps : Int
  w : Int
  how : Int
  st : St
  err : Int
  steps : Int
  at_ : Int
def Pl.rk (p : Pl) : Int := if p.kind = 0 ∨ p.kind = 1 then p.kind else 2
def RX.zero : RX := ⟨0, 0, 0, 0, St.zero, 0, 0, 0⟩
def RX.cells (p : Pl) (tries : Int) (x : RX) : Array Value :=
  #[.int .i64 p.rk, .int .i64 p.source, .int .i64 p.mode, .bool p.free, .int .i64 p.flags, .int .i64 tries, .int .i64 x.next, .int .i64 x.swaps, .int .u64 x.w, .int .i64 x.how, .int .i64 x.st.mode, .int .i64 x.st.source, .bool x.st.hold, .int .i64 x.st.flags, .int .u64 x.st.epoch, .int .i64 x.err, .int .i64 x.steps, .int .i64 x.at_]

def shapeOf (P : Program) (t : TypeId) : Option (Array Value × List (Nat × Nat)) :=
  match P.info? t, P.underlying t with
  | some it, some (.struct fields) =>
    match it.zero, fields.toList.mapM (fun f => (P.info? f.type).map fun i => (f.offset, i.size)) with
    | some z, some places => some (z.cells, places)
    | _, _ => none
  | _, _ => none
theorem built_shape {P : Program} {t : TypeId} {zc : Array Value} {places : List (Nat × Nat)} (h : shapeOf P t = some (zc, places)) (parts : List (Nat × Value)) : P.built t parts = Instr.fill (places.toArray[·]?) zc parts := by
  unfold shapeOf at h
  unfold Program.built
  cases h1 : P.info? t with
  | none => simp [h1] at h
  | some it =>
    cases h2 : P.underlying t with
    | none => simp [h1, h2] at h
    | some d =>
      cases d <;> try (simp [h1, h2] at h; done)
      case struct fields =>
        cases h3 : it.zero with
        | none => simp [h1, h2, h3] at h
        | some z =>
          cases h4 : fields.toList.mapM (fun f => (P.info? f.type).map fun i => (f.offset, i.size)) with
          | none => simp [h1, h2, h3, h4] at h
          | some pl =>
            simp only [h1, h2, h3, h4] at h
            cases h
            simp only [h3, h4]
theorem fill_cons {place : Nat → Option (Nat × Nat)} {cells c2 r : Array Value} {i off n : Nat} {v : Value} {rest : List (Nat × Value)} (hp : place i = some (off, n)) (hs : ¬ (v.cells.size ≠ n ∨ off + v.cells.size > cells.size))
    (hc : v.cells.zipIdx.foldl (fun cs (x : Value × Nat) => cs.setIfInBounds (off + x.2) x.1) cells = c2) (h : Instr.fill place c2 rest = some r) : Instr.fill place cells ((i, v) :: rest) = some r := by
  unfold Instr.fill
  simp only [hp]
  rw [if_neg (by simpa using hs)]
  rw [← h, ← hc]
theorem wpList_build_of {P : Program} {ops : Array Oper} {rest : List Oper} {o : Oper} {a : Act} {w : World} {Q : Exit → Act → World → Prop} (hg : o.guard = none) (t : TypeId) (parts : Array (Nat × Operand)) (ho : o.op = .build t parts) (cells : Array Value) (ps : List (Nat × Value)) (hp : (parts.map fun (i, x) => (i, a.eval x)).toList = ps)
    (hc0 : P.built t ps = some cells) (h : wpList P ops Q rest (a.put o.dst (.agg cells)) w) : wpList P ops Q (o :: rest) a w := by
  have hc : P.built t (parts.map fun (i, x) => (i, a.eval x)).toList = some cells := by rw [hp]; exact hc0
  exact wpList_build hg t parts ho (by rw [hc]; rfl) (by rw [hc]; exact h)
theorem shape_op : shapeOf Tryd.prog 46 = some (#[.int .i64 0, .int .i64 0, .int .i64 0, .bool false, .int .i64 0, .int .i64 0, .int .i64 0, .int .i64 0, .int .u64 0, .int .i64 0, .int .i64 0, .int .i64 0, .bool false, .int .i64 0, .int .u64 0, .int .i64 0, .int .i64 0, .int .i64 0], [(0, 1), (1, 3), (4, 1), (5, 1), (6, 1), (7, 1), (8, 1), (9, 1), (10, 5), (15, 1), (16, 1), (17, 1)]) := by kernel_rfl
theorem built_op (k so mo fl n : Int) (fr : Bool) : Tryd.prog.built 46 [(0, .int .i64 k), (1, .agg #[.int .i64 so, .int .i64 mo, .bool fr]), (2, .int .i64 fl), (3, .int .i64 n)] = some #[.int .i64 k, .int .i64 so, .int .i64 mo, .bool fr, .int .i64 fl, .int .i64 n, .int .i64 0, .int .i64 0, .int .u64 0, .int .i64 0, .int .i64 0, .int .i64 0, .bool false, .int .i64 0, .int .u64 0, .int .i64 0, .int .i64 0, .int .i64 0] := by
  rw [built_shape shape_op]
  refine fill_cons rfl (by simp [Value.cells]) rfl ?_
  refine fill_cons rfl (by simp [Value.cells]) rfl ?_
  refine fill_cons rfl (by simp [Value.cells]) rfl ?_
  refine fill_cons rfl (by simp [Value.cells]) rfl ?_
  rfl
set_option maxRecDepth 100000 in
set_option maxHeartbeats 600000 in
theorem plain_any (p : Pl) (n : Int) (w : World) : Calls Tryd.prog 18 #[p.val, .int .i64 n] w fun e w' => e = .returned (.agg (RX.cells p n RX.zero)) ∧ Below w.heap.size w w' := by
  obtain ⟨kd, so, mo, fr, fl⟩ := p
  unfold Pl.val RX.cells Pl.rk
  simp only [RX.zero, St.zero]
  by_cases h0 : kd = 0
  · rw [if_pos (.inl h0)]
    subst h0
    have hb0 : Blk ((w.alloc (.cells #[.int .i64 0, .int .i64 so, .int .i64 mo, .bool fr, .int .i64 fl] 41)).alloc (.cells #[.int .i64 0, .int .i64 0, .int .i64 0, .bool false, .int .i64 0, .int .i64 0, .int .i64 0, .int .i64 0, .int .u64 0, .int .i64 0, .int .i64 0, .int .i64 0, .bool false, .int .i64 0, .int .u64 0, .int .i64 0, .int .i64 0, .int .i64 0] 46)) (w.heap.size + 1) 46 #[.int .i64 0, .int .i64 0, .int .i64 0, .bool false, .int .i64 0, .int .i64 0, .int .i64 0, .int .i64 0, .int .u64 0, .int .i64 0, .int .i64 0, .int .i64 0, .bool false, .int .i64 0, .int .u64 0, .int .i64 0, .int .i64 0, .int .i64 0] := by have := Blk.new (w.alloc (.cells #[.int .i64 0, .int .i64 so, .int .i64 mo, .bool fr, .int .i64 fl] 41)) 46 #[.int .i64 0, .int .i64 0, .int .i64 0, .bool false, .int .i64 0, .int .i64 0, .int .i64 0, .int .i64 0, .int .u64 0, .int .i64 0, .int .i64 0, .int .i64 0, .bool false, .int .i64 0, .int .u64 0, .int .i64 0, .int .i64 0, .int .i64 0]; simpa using this
    have hx0 : Blk ((w.alloc (.cells #[.int .i64 0, .int .i64 so, .int .i64 mo, .bool fr, .int .i64 fl] 41)).alloc (.cells #[.int .i64 0, .int .i64 0, .int .i64 0, .bool false, .int .i64 0, .int .i64 0, .int .i64 0, .int .i64 0, .int .u64 0, .int .i64 0, .int .i64 0, .int .i64 0, .bool false, .int .i64 0, .int .u64 0, .int .i64 0, .int .i64 0, .int .i64 0] 46)) w.heap.size 41 #[.int .i64 0, .int .i64 so, .int .i64 mo, .bool fr, .int .i64 fl] := (Blk.new w 41 #[.int .i64 0, .int .i64 so, .int .i64 mo, .bool fr, .int .i64 fl]).alloc _
    have L0 := Lib.hid (((Below.refl w.heap.size w).alloc (Nat.le_refl _) (.cells #[.int .i64 0, .int .i64 so, .int .i64 mo, .bool fr, .int .i64 fl] 41)).alloc (by simp) (.cells #[.int .i64 0, .int .i64 0, .int .i64 0, .bool false, .int .i64 0, .int .i64 0, .int .i64 0, .int .i64 0, .int .u64 0, .int .i64 0, .int .i64 0, .int .i64 0, .bool false, .int .i64 0, .int .u64 0, .int .i64 0, .int .i64 0, .int .i64 0] 46))
    have HB := Lib.hid hb0
    have HX := Lib.hid hx0
    clear hb0 hx0
    go_enter Tryd.func18, Tryd.ntmps18
    go_upto_region 4 with fail
    generalize ((w.alloc (.cells #[.int .i64 0, .int .i64 so, .int .i64 mo, .bool fr, .int .i64 fl] 41)).alloc (.cells #[.int .i64 0, .int .i64 0, .int .i64 0, .bool false, .int .i64 0, .int .i64 0, .int .i64 0, .int .i64 0, .int .u64 0, .int .i64 0, .int .i64 0, .int .i64 0, .bool false, .int .i64 0, .int .u64 0, .int .i64 0, .int .i64 0, .int .i64 0] 46)) = w2 at *
    obtain ⟨pb, hpb⟩ : ∃ pb, w.heap.size + 1 = pb := ⟨_, rfl⟩
    simp only [hpb] at HB ⊢
    have xq0 := HX.out.cell 0
    have xq1 := HX.out.cell 1
    have xq2 := HX.out.cell 2
    have xq3 := HX.out.cell 3
    have xq4 := HX.out.cell 4
    have pq0 := HB.out.cell 0
    have pf0 := HB.out.frozen 0
    have pq1 := HB.out.cell 1
    have pf1 := HB.out.frozen 1
    have pq2 := HB.out.cell 2
    have pf2 := HB.out.frozen 2
    have pq3 := HB.out.cell 3
    have pf3 := HB.out.frozen 3
    have pq4 := HB.out.cell 4
    have pf4 := HB.out.frozen 4
    have pq5 := HB.out.cell 5
    have pf5 := HB.out.frozen 5
    have pq6 := HB.out.cell 6
    have pf6 := HB.out.frozen 6
    have pq7 := HB.out.cell 7
    have pf7 := HB.out.frozen 7
    have pq8 := HB.out.cell 8
    have pf8 := HB.out.frozen 8
    have pq9 := HB.out.cell 9
    have pf9 := HB.out.frozen 9
    have pq10 := HB.out.cell 10
    have pf10 := HB.out.frozen 10
    have pq11 := HB.out.cell 11
    have pf11 := HB.out.frozen 11
    have pq12 := HB.out.cell 12
    have pf12 := HB.out.frozen 12
    have pq13 := HB.out.cell 13
    have pf13 := HB.out.frozen 13
    have pq14 := HB.out.cell 14
    have pf14 := HB.out.frozen 14
    have pq15 := HB.out.cell 15
    have pf15 := HB.out.frozen 15
    have pq16 := HB.out.cell 16
    have pf16 := HB.out.frozen 16
    have pq17 := HB.out.cell 17
    have pf17 := HB.out.frozen 17
    simp only [List.getElem?_toArray, List.getElem?_cons_succ, List.getElem?_cons_zero] at xq0 xq1 xq2 xq3 xq4 pq0 pq1 pq2 pq3 pq4 pq5 pq6 pq7 pq8 pq9 pq10 pq11 pq12 pq13 pq14 pq15 pq16 pq17
    go_wp2_with (first | refine wpList_build_of rfl 46 _ rfl #[.int .i64 0, .int .i64 so, .int .i64 mo, .bool fr, .int .i64 fl, .int .i64 n, .int .i64 0, .int .i64 0, .int .u64 0, .int .i64 0, .int .i64 0, .int .i64 0, .bool false, .int .i64 0, .int .u64 0, .int .i64 0, .int .i64 0, .int .i64 0] [(0, .int .i64 0), (1, .agg #[.int .i64 so, .int .i64 mo, .bool fr]), (2, .int .i64 fl), (3, .int .i64 n)] (by kernel_rfl) (built_op 0 so mo fl n fr) ?_ | refine wpList_store_row rfl 46 _ _ rfl pb #[.int .i64 0, .int .i64 so, .int .i64 mo, .bool fr, .int .i64 fl, .int .i64 n, .int .i64 0, .int .i64 0, .int .u64 0, .int .i64 0, .int .i64 0, .int .i64 0, .bool false, .int .i64 0, .int .u64 0, .int .i64 0, .int .i64 0, .int .i64 0] rfl rfl 46 _ HB.out (by kernel_rfl) (by kernel_rfl) (by kernel_rfl) ?_)
    clear xq0 xq1 xq2 xq3 xq4 pq0 pf0 pq1 pf1 pq2 pf2 pq3 pf3 pq4 pf4 pq5 pf5 pq6 pf6 pq7 pf7 pq8 pf8 pq9 pf9 pq10 pf10 pq11 pf11 pq12 pf12 pq13 pf13 pq14 pf14 pq15 pf15 pq16 pf16 pq17 pf17
    have hb := setRow_heap w2 pb _ #[.int .i64 0, .int .i64 so, .int .i64 mo, .bool fr, .int .i64 fl, .int .i64 n, .int .i64 0, .int .i64 0, .int .u64 0, .int .i64 0, .int .i64 0, .int .i64 0, .bool false, .int .i64 0, .int .u64 0, .int .i64 0, .int .i64 0, .int .i64 0] _ _ HB.out
    have LL := below_setRow L0.out (show w.heap.size ≤ pb by omega) #[.int .i64 0, .int .i64 so, .int .i64 mo, .bool fr, .int .i64 fl, .int .i64 n, .int .i64 0, .int .i64 0, .int .u64 0, .int .i64 0, .int .i64 0, .int .i64 0, .bool false, .int .i64 0, .int .u64 0, .int .i64 0, .int .i64 0, .int .i64 0]
    exact bodyPost_ret (results_cell_row (fn := Tryd.f18) rfl _ _ pb _ _ _ _ rfl hb Tryd.underlying46 rfl (by kernel_rfl)) rfl ⟨rfl, LL⟩
  · by_cases h1 : kd = 1
    · rw [if_pos (.inr h1)]
      subst h1
      have hb0 : Blk ((w.alloc (.cells #[.int .i64 1, .int .i64 so, .int .i64 mo, .bool fr, .int .i64 fl] 41)).alloc (.cells #[.int .i64 0, .int .i64 0, .int .i64 0, .bool false, .int .i64 0, .int .i64 0, .int .i64 0, .int .i64 0, .int .u64 0, .int .i64 0, .int .i64 0, .int .i64 0, .bool false, .int .i64 0, .int .u64 0, .int .i64 0, .int .i64 0, .int .i64 0] 46)) (w.heap.size + 1) 46 #[.int .i64 0, .int .i64 0, .int .i64 0, .bool false, .int .i64 0, .int .i64 0, .int .i64 0, .int .i64 0, .int .u64 0, .int .i64 0, .int .i64 0, .int .i64 0, .bool false, .int .i64 0, .int .u64 0, .int .i64 0, .int .i64 0, .int .i64 0] := by have := Blk.new (w.alloc (.cells #[.int .i64 1, .int .i64 so, .int .i64 mo, .bool fr, .int .i64 fl] 41)) 46 #[.int .i64 0, .int .i64 0, .int .i64 0, .bool false, .int .i64 0, .int .i64 0, .int .i64 0, .int .i64 0, .int .u64 0, .int .i64 0, .int .i64 0, .int .i64 0, .bool false, .int .i64 0, .int .u64 0, .int .i64 0, .int .i64 0, .int .i64 0]; simpa using this
      have hx0 : Blk ((w.alloc (.cells #[.int .i64 1, .int .i64 so, .int .i64 mo, .bool fr, .int .i64 fl] 41)).alloc (.cells #[.int .i64 0, .int .i64 0, .int .i64 0, .bool false, .int .i64 0, .int .i64 0, .int .i64 0, .int .i64 0, .int .u64 0, .int .i64 0, .int .i64 0, .int .i64 0, .bool false, .int .i64 0, .int .u64 0, .int .i64 0, .int .i64 0, .int .i64 0] 46)) w.heap.size 41 #[.int .i64 1, .int .i64 so, .int .i64 mo, .bool fr, .int .i64 fl] := (Blk.new w 41 #[.int .i64 1, .int .i64 so, .int .i64 mo, .bool fr, .int .i64 fl]).alloc _
      have L0 := Lib.hid (((Below.refl w.heap.size w).alloc (Nat.le_refl _) (.cells #[.int .i64 1, .int .i64 so, .int .i64 mo, .bool fr, .int .i64 fl] 41)).alloc (by simp) (.cells #[.int .i64 0, .int .i64 0, .int .i64 0, .bool false, .int .i64 0, .int .i64 0, .int .i64 0, .int .i64 0, .int .u64 0, .int .i64 0, .int .i64 0, .int .i64 0, .bool false, .int .i64 0, .int .u64 0, .int .i64 0, .int .i64 0, .int .i64 0] 46))
      have HB := Lib.hid hb0
      have HX := Lib.hid hx0
      clear hb0 hx0
      go_enter Tryd.func18, Tryd.ntmps18
      go_upto_region 4 with fail
      generalize ((w.alloc (.cells #[.int .i64 1, .int .i64 so, .int .i64 mo, .bool fr, .int .i64 fl] 41)).alloc (.cells #[.int .i64 0, .int .i64 0, .int .i64 0, .bool false, .int .i64 0, .int .i64 0, .int .i64 0, .int .i64 0, .int .u64 0, .int .i64 0, .int .i64 0, .int .i64 0, .bool false, .int .i64 0, .int .u64 0, .int .i64 0, .int .i64 0, .int .i64 0] 46)) = w2 at *
      obtain ⟨pb, hpb⟩ : ∃ pb, w.heap.size + 1 = pb := ⟨_, rfl⟩
      simp only [hpb] at HB ⊢
      have xq0 := HX.out.cell 0
      have xq1 := HX.out.cell 1
      have xq2 := HX.out.cell 2
      have xq3 := HX.out.cell 3
      have xq4 := HX.out.cell 4
      have pq0 := HB.out.cell 0
      have pf0 := HB.out.frozen 0
      have pq1 := HB.out.cell 1
      have pf1 := HB.out.frozen 1
      have pq2 := HB.out.cell 2
      have pf2 := HB.out.frozen 2
      have pq3 := HB.out.cell 3
      have pf3 := HB.out.frozen 3
      have pq4 := HB.out.cell 4
      have pf4 := HB.out.frozen 4
      have pq5 := HB.out.cell 5
      have pf5 := HB.out.frozen 5
      have pq6 := HB.out.cell 6
      have pf6 := HB.out.frozen 6
      have pq7 := HB.out.cell 7
      have pf7 := HB.out.frozen 7
      have pq8 := HB.out.cell 8
      have pf8 := HB.out.frozen 8
      have pq9 := HB.out.cell 9
      have pf9 := HB.out.frozen 9
      have pq10 := HB.out.cell 10
      have pf10 := HB.out.frozen 10
      have pq11 := HB.out.cell 11
      have pf11 := HB.out.frozen 11
      have pq12 := HB.out.cell 12
      have pf12 := HB.out.frozen 12
      have pq13 := HB.out.cell 13
      have pf13 := HB.out.frozen 13
      have pq14 := HB.out.cell 14
      have pf14 := HB.out.frozen 14
      have pq15 := HB.out.cell 15
      have pf15 := HB.out.frozen 15
      have pq16 := HB.out.cell 16
      have pf16 := HB.out.frozen 16
      have pq17 := HB.out.cell 17
      have pf17 := HB.out.frozen 17
      simp only [List.getElem?_toArray, List.getElem?_cons_succ, List.getElem?_cons_zero] at xq0 xq1 xq2 xq3 xq4 pq0 pq1 pq2 pq3 pq4 pq5 pq6 pq7 pq8 pq9 pq10 pq11 pq12 pq13 pq14 pq15 pq16 pq17
      go_wp2_with (first | refine wpList_build_of rfl 46 _ rfl #[.int .i64 1, .int .i64 so, .int .i64 mo, .bool fr, .int .i64 fl, .int .i64 n, .int .i64 0, .int .i64 0, .int .u64 0, .int .i64 0, .int .i64 0, .int .i64 0, .bool false, .int .i64 0, .int .u64 0, .int .i64 0, .int .i64 0, .int .i64 0] [(0, .int .i64 1), (1, .agg #[.int .i64 so, .int .i64 mo, .bool fr]), (2, .int .i64 fl), (3, .int .i64 n)] (by kernel_rfl) (built_op 1 so mo fl n fr) ?_ | refine wpList_store_row rfl 46 _ _ rfl pb #[.int .i64 1, .int .i64 so, .int .i64 mo, .bool fr, .int .i64 fl, .int .i64 n, .int .i64 0, .int .i64 0, .int .u64 0, .int .i64 0, .int .i64 0, .int .i64 0, .bool false, .int .i64 0, .int .u64 0, .int .i64 0, .int .i64 0, .int .i64 0] rfl rfl 46 _ HB.out (by kernel_rfl) (by kernel_rfl) (by kernel_rfl) ?_)
      clear xq0 xq1 xq2 xq3 xq4 pq0 pf0 pq1 pf1 pq2 pf2 pq3 pf3 pq4 pf4 pq5 pf5 pq6 pf6 pq7 pf7 pq8 pf8 pq9 pf9 pq10 pf10 pq11 pf11 pq12 pf12 pq13 pf13 pq14 pf14 pq15 pf15 pq16 pf16 pq17 pf17
      have hb := setRow_heap w2 pb _ #[.int .i64 1, .int .i64 so, .int .i64 mo, .bool fr, .int .i64 fl, .int .i64 n, .int .i64 0, .int .i64 0, .int .u64 0, .int .i64 0, .int .i64 0, .int .i64 0, .bool false, .int .i64 0, .int .u64 0, .int .i64 0, .int .i64 0, .int .i64 0] _ _ HB.out
      have LL := below_setRow L0.out (show w.heap.size ≤ pb by omega) #[.int .i64 1, .int .i64 so, .int .i64 mo, .bool fr, .int .i64 fl, .int .i64 n, .int .i64 0, .int .i64 0, .int .u64 0, .int .i64 0, .int .i64 0, .int .i64 0, .bool false, .int .i64 0, .int .u64 0, .int .i64 0, .int .i64 0, .int .i64 0]
      exact bodyPost_ret (results_cell_row (fn := Tryd.f18) rfl _ _ pb _ _ _ _ rfl hb Tryd.underlying46 rfl (by kernel_rfl)) rfl ⟨rfl, LL⟩
    · rw [if_neg (fun h => h.elim h0 h1)]
      have k0 : (kd != 0) = true := by simpa using h0
      have k1 : (kd != 1) = true := by simpa using h1
      clear h0 h1
      have hb0 : Blk ((w.alloc (.cells #[.int .i64 kd, .int .i64 so, .int .i64 mo, .bool fr, .int .i64 fl] 41)).alloc (.cells #[.int .i64 0, .int .i64 0, .int .i64 0, .bool false, .int .i64 0, .int .i64 0, .int .i64 0, .int .i64 0, .int .u64 0, .int .i64 0, .int .i64 0, .int .i64 0, .bool false, .int .i64 0, .int .u64 0, .int .i64 0, .int .i64 0, .int .i64 0] 46)) (w.heap.size + 1) 46 #[.int .i64 0, .int .i64 0, .int .i64 0, .bool false, .int .i64 0, .int .i64 0, .int .i64 0, .int .i64 0, .int .u64 0, .int .i64 0, .int .i64 0, .int .i64 0, .bool false, .int .i64 0, .int .u64 0, .int .i64 0, .int .i64 0, .int .i64 0] := by have := Blk.new (w.alloc (.cells #[.int .i64 kd, .int .i64 so, .int .i64 mo, .bool fr, .int .i64 fl] 41)) 46 #[.int .i64 0, .int .i64 0, .int .i64 0, .bool false, .int .i64 0, .int .i64 0, .int .i64 0, .int .i64 0, .int .u64 0, .int .i64 0, .int .i64 0, .int .i64 0, .bool false, .int .i64 0, .int .u64 0, .int .i64 0, .int .i64 0, .int .i64 0]; simpa using this
      have hx0 : Blk ((w.alloc (.cells #[.int .i64 kd, .int .i64 so, .int .i64 mo, .bool fr, .int .i64 fl] 41)).alloc (.cells #[.int .i64 0, .int .i64 0, .int .i64 0, .bool false, .int .i64 0, .int .i64 0, .int .i64 0, .int .i64 0, .int .u64 0, .int .i64 0, .int .i64 0, .int .i64 0, .bool false, .int .i64 0, .int .u64 0, .int .i64 0, .int .i64 0, .int .i64 0] 46)) w.heap.size 41 #[.int .i64 kd, .int .i64 so, .int .i64 mo, .bool fr, .int .i64 fl] := (Blk.new w 41 #[.int .i64 kd, .int .i64 so, .int .i64 mo, .bool fr, .int .i64 fl]).alloc _
      have L0 := Lib.hid (((Below.refl w.heap.size w).alloc (Nat.le_refl _) (.cells #[.int .i64 kd, .int .i64 so, .int .i64 mo, .bool fr, .int .i64 fl] 41)).alloc (by simp) (.cells #[.int .i64 0, .int .i64 0, .int .i64 0, .bool false, .int .i64 0, .int .i64 0, .int .i64 0, .int .i64 0, .int .u64 0, .int .i64 0, .int .i64 0, .int .i64 0, .bool false, .int .i64 0, .int .u64 0, .int .i64 0, .int .i64 0, .int .i64 0] 46))
      have HB := Lib.hid hb0
      have HX := Lib.hid hx0
      clear hb0 hx0
      go_enter Tryd.func18, Tryd.ntmps18
      go_upto_region 4 with fail
      generalize ((w.alloc (.cells #[.int .i64 kd, .int .i64 so, .int .i64 mo, .bool fr, .int .i64 fl] 41)).alloc (.cells #[.int .i64 0, .int .i64 0, .int .i64 0, .bool false, .int .i64 0, .int .i64 0, .int .i64 0, .int .i64 0, .int .u64 0, .int .i64 0, .int .i64 0, .int .i64 0, .bool false, .int .i64 0, .int .u64 0, .int .i64 0, .int .i64 0, .int .i64 0] 46)) = w2 at *
      obtain ⟨pb, hpb⟩ : ∃ pb, w.heap.size + 1 = pb := ⟨_, rfl⟩
      simp only [hpb] at HB ⊢
      have xq0 := HX.out.cell 0
      have xq1 := HX.out.cell 1
      have xq2 := HX.out.cell 2
      have xq3 := HX.out.cell 3
      have xq4 := HX.out.cell 4
      have pq0 := HB.out.cell 0
      have pf0 := HB.out.frozen 0
      have pq1 := HB.out.cell 1
      have pf1 := HB.out.frozen 1
      have pq2 := HB.out.cell 2
      have pf2 := HB.out.frozen 2
      have pq3 := HB.out.cell 3
      have pf3 := HB.out.frozen 3
      have pq4 := HB.out.cell 4
      have pf4 := HB.out.frozen 4
      have pq5 := HB.out.cell 5
      have pf5 := HB.out.frozen 5
      have pq6 := HB.out.cell 6
      have pf6 := HB.out.frozen 6
      have pq7 := HB.out.cell 7
      have pf7 := HB.out.frozen 7
      have pq8 := HB.out.cell 8
      have pf8 := HB.out.frozen 8
      have pq9 := HB.out.cell 9
      have pf9 := HB.out.frozen 9
      have pq10 := HB.out.cell 10
      have pf10 := HB.out.frozen 10
      have pq11 := HB.out.cell 11
      have pf11 := HB.out.frozen 11
      have pq12 := HB.out.cell 12
      have pf12 := HB.out.frozen 12
      have pq13 := HB.out.cell 13
      have pf13 := HB.out.frozen 13
      have pq14 := HB.out.cell 14
      have pf14 := HB.out.frozen 14
      have pq15 := HB.out.cell 15
      have pf15 := HB.out.frozen 15
      have pq16 := HB.out.cell 16
      have pf16 := HB.out.frozen 16
      have pq17 := HB.out.cell 17
      have pf17 := HB.out.frozen 17
      simp only [List.getElem?_toArray, List.getElem?_cons_succ, List.getElem?_cons_zero] at xq0 xq1 xq2 xq3 xq4 pq0 pq1 pq2 pq3 pq4 pq5 pq6 pq7 pq8 pq9 pq10 pq11 pq12 pq13 pq14 pq15 pq16 pq17
      go_wp2_with (first | refine wpList_build_of rfl 46 _ rfl #[.int .i64 2, .int .i64 so, .int .i64 mo, .bool fr, .int .i64 fl, .int .i64 n, .int .i64 0, .int .i64 0, .int .u64 0, .int .i64 0, .int .i64 0, .int .i64 0, .bool false, .int .i64 0, .int .u64 0, .int .i64 0, .int .i64 0, .int .i64 0] [(0, .int .i64 2), (1, .agg #[.int .i64 so, .int .i64 mo, .bool fr]), (2, .int .i64 fl), (3, .int .i64 n)] (by kernel_rfl) (built_op 2 so mo fl n fr) ?_ | refine wpList_store_row rfl 46 _ _ rfl pb #[.int .i64 2, .int .i64 so, .int .i64 mo, .bool fr, .int .i64 fl, .int .i64 n, .int .i64 0, .int .i64 0, .int .u64 0, .int .i64 0, .int .i64 0, .int .i64 0, .bool false, .int .i64 0, .int .u64 0, .int .i64 0, .int .i64 0, .int .i64 0] rfl rfl 46 _ HB.out (by kernel_rfl) (by kernel_rfl) (by kernel_rfl) ?_)
      clear xq0 xq1 xq2 xq3 xq4 pq0 pf0 pq1 pf1 pq2 pf2 pq3 pf3 pq4 pf4 pq5 pf5 pq6 pf6 pq7 pf7 pq8 pf8 pq9 pf9 pq10 pf10 pq11 pf11 pq12 pf12 pq13 pf13 pq14 pf14 pq15 pf15 pq16 pf16 pq17 pf17
      have hb := setRow_heap w2 pb _ #[.int .i64 2, .int .i64 so, .int .i64 mo, .bool fr, .int .i64 fl, .int .i64 n, .int .i64 0, .int .i64 0, .int .u64 0, .int .i64 0, .int .i64 0, .int .i64 0, .bool false, .int .i64 0, .int .u64 0, .int .i64 0, .int .i64 0, .int .i64 0] _ _ HB.out
      have LL := below_setRow L0.out (show w.heap.size ≤ pb by omega) #[.int .i64 2, .int .i64 so, .int .i64 mo, .bool fr, .int .i64 fl, .int .i64 n, .int .i64 0, .int .i64 0, .int .u64 0, .int .i64 0, .int .i64 0, .int .i64 0, .bool false, .int .i64 0, .int .u64 0, .int .i64 0, .int .i64 0, .int .i64 0]
      exact bodyPost_ret (results_cell_row (fn := Tryd.f18) rfl _ _ pb _ _ _ _ rfl hb Tryd.underlying46 rfl (by kernel_rfl)) rfl ⟨rfl, LL⟩
set_option maxRecDepth 100000 in
set_option maxHeartbeats 600000 in
theorem May_any (p : Pl) (n : Int) (w : World) : Calls Tryd.prog 19 #[.agg (RX.cells p n RX.zero)] w fun e w' => e = .returned (.bool (decide (p.May n))) ∧ Below w.heap.size w w' := by
  obtain ⟨bb, hbb⟩ : ∃ bb : Bool, decide (p.May n) = bb := ⟨_, rfl⟩
  have hb : p.May n ↔ bb = true := by rw [← hbb]; simp
  rw [hbb]
  clear hbb
  obtain ⟨kd, so, mo, fr, fl⟩ := p
  unfold Pl.May Reg.Ask.In at hb
  unfold RX.cells Pl.rk
  simp only [RX.zero, St.zero] at hb ⊢
  by_cases h0 : kd = 0
  · subst h0
    rw [if_pos rfl] at hb
    rw [if_pos (show (0 : Int) = 0 ∨ (0 : Int) = 1 from .inl rfl)]
    by_cases c0 : 1 ≤ n
    · have d0 : decide (n < 1) = false := decide_eq_false (by omega)
      by_cases c1 : n ≤ 16
      · have d1 : decide (n > 16) = false := decide_eq_false (by omega)
        by_cases c2 : 0 ≤ so
        · have d2 : decide (so ≥ 0) = true := decide_eq_true (by omega)
          by_cases c3 : so < 4
          · have d3 : decide (so ≤ 3) = true := decide_eq_true (by omega)
            by_cases c4 : 0 ≤ mo
            · have d4 : decide (mo ≥ 0) = true := decide_eq_true (by omega)
              by_cases c5 : mo < 8
              · have d5 : decide (mo ≤ 7) = true := decide_eq_true (by omega)
                obtain rfl : bb = true := hb.1 (by omega)
                clear hb c0 c1 c2 c3 c4 c5
                skip
                have L0 := Lib.hid ((Below.refl w.heap.size w).alloc (Nat.le_refl _) (.cells #[.int .i64 0, .int .i64 so, .int .i64 mo, .bool fr, .int .i64 fl, .int .i64 n, .int .i64 0, .int .i64 0, .int .u64 0, .int .i64 0, .int .i64 0, .int .i64 0, .bool false, .int .i64 0, .int .u64 0, .int .i64 0, .int .i64 0, .int .i64 0] 46))
                go_enter Tryd.func19, Tryd.ntmps19
                go_wp2_with fail
                go_ret
                exact ⟨rfl, L0.out⟩
              · have d5 : decide (mo ≤ 7) = false := decide_eq_false (by omega)
                obtain rfl : bb = false := by
                  cases bb with
                  | false => rfl
                  | true => exact absurd (hb.2 rfl) (by omega)
                clear hb c0 c1 c2 c3 c4 c5
                skip
                have L0 := Lib.hid ((Below.refl w.heap.size w).alloc (Nat.le_refl _) (.cells #[.int .i64 0, .int .i64 so, .int .i64 mo, .bool fr, .int .i64 fl, .int .i64 n, .int .i64 0, .int .i64 0, .int .u64 0, .int .i64 0, .int .i64 0, .int .i64 0, .bool false, .int .i64 0, .int .u64 0, .int .i64 0, .int .i64 0, .int .i64 0] 46))
                go_enter Tryd.func19, Tryd.ntmps19
                go_wp2_with fail
                go_ret
                exact ⟨rfl, L0.out⟩
            · have d4 : decide (mo ≥ 0) = false := decide_eq_false (by omega)
              obtain rfl : bb = false := by
                cases bb with
                | false => rfl
                | true => exact absurd (hb.2 rfl) (by omega)
              clear hb c0 c1 c2 c3 c4
              skip
              have L0 := Lib.hid ((Below.refl w.heap.size w).alloc (Nat.le_refl _) (.cells #[.int .i64 0, .int .i64 so, .int .i64 mo, .bool fr, .int .i64 fl, .int .i64 n, .int .i64 0, .int .i64 0, .int .u64 0, .int .i64 0, .int .i64 0, .int .i64 0, .bool false, .int .i64 0, .int .u64 0, .int .i64 0, .int .i64 0, .int .i64 0] 46))
              go_enter Tryd.func19, Tryd.ntmps19
              go_wp2_with fail
              go_ret
              exact ⟨rfl, L0.out⟩
          · have d3 : decide (so ≤ 3) = false := decide_eq_false (by omega)
            obtain rfl : bb = false := by
              cases bb with
              | false => rfl
              | true => exact absurd (hb.2 rfl) (by omega)
            clear hb c0 c1 c2 c3
            skip
            have L0 := Lib.hid ((Below.refl w.heap.size w).alloc (Nat.le_refl _) (.cells #[.int .i64 0, .int .i64 so, .int .i64 mo, .bool fr, .int .i64 fl, .int .i64 n, .int .i64 0, .int .i64 0, .int .u64 0, .int .i64 0, .int .i64 0, .int .i64 0, .bool false, .int .i64 0, .int .u64 0, .int .i64 0, .int .i64 0, .int .i64 0] 46))
            go_enter Tryd.func19, Tryd.ntmps19
            go_wp2_with fail
            go_ret
            exact ⟨rfl, L0.out⟩
        · have d2 : decide (so ≥ 0) = false := decide_eq_false (by omega)
          obtain rfl : bb = false := by
            cases bb with
            | false => rfl
            | true => exact absurd (hb.2 rfl) (by omega)
          clear hb c0 c1 c2
          skip
          have L0 := Lib.hid ((Below.refl w.heap.size w).alloc (Nat.le_refl _) (.cells #[.int .i64 0, .int .i64 so, .int .i64 mo, .bool fr, .int .i64 fl, .int .i64 n, .int .i64 0, .int .i64 0, .int .u64 0, .int .i64 0, .int .i64 0, .int .i64 0, .bool false, .int .i64 0, .int .u64 0, .int .i64 0, .int .i64 0, .int .i64 0] 46))
          go_enter Tryd.func19, Tryd.ntmps19
          go_wp2_with fail
          go_ret
          exact ⟨rfl, L0.out⟩
      · have d1 : decide (n > 16) = true := decide_eq_true (by omega)
        obtain rfl : bb = false := by
          cases bb with
          | false => rfl
          | true => exact absurd (hb.2 rfl) (by omega)
        clear hb c0 c1
        skip
        have L0 := Lib.hid ((Below.refl w.heap.size w).alloc (Nat.le_refl _) (.cells #[.int .i64 0, .int .i64 so, .int .i64 mo, .bool fr, .int .i64 fl, .int .i64 n, .int .i64 0, .int .i64 0, .int .u64 0, .int .i64 0, .int .i64 0, .int .i64 0, .bool false, .int .i64 0, .int .u64 0, .int .i64 0, .int .i64 0, .int .i64 0] 46))
        go_enter Tryd.func19, Tryd.ntmps19
        go_wp2_with fail
        go_ret
        exact ⟨rfl, L0.out⟩
    · have d0 : decide (n < 1) = true := decide_eq_true (by omega)
      obtain rfl : bb = false := by
        cases bb with
        | false => rfl
        | true => exact absurd (hb.2 rfl) (by omega)
      clear hb c0
      skip
      have L0 := Lib.hid ((Below.refl w.heap.size w).alloc (Nat.le_refl _) (.cells #[.int .i64 0, .int .i64 so, .int .i64 mo, .bool fr, .int .i64 fl, .int .i64 n, .int .i64 0, .int .i64 0, .int .u64 0, .int .i64 0, .int .i64 0, .int .i64 0, .bool false, .int .i64 0, .int .u64 0, .int .i64 0, .int .i64 0, .int .i64 0] 46))
      go_enter Tryd.func19, Tryd.ntmps19
      go_wp2_with fail
      go_ret
      exact ⟨rfl, L0.out⟩
  · by_cases h1 : kd = 1
    · subst h1
      rw [if_neg h0, if_pos rfl] at hb
      rw [if_pos (show (1 : Int) = 0 ∨ (1 : Int) = 1 from .inr rfl)]
      clear h0
      by_cases c0 : 1 ≤ n
      · have d0 : decide (n < 1) = false := decide_eq_false (by omega)
        by_cases c1 : n ≤ 16
        · have d1 : decide (n > 16) = false := decide_eq_false (by omega)
          by_cases c2 : 0 ≤ fl
          · have d2 : decide (fl ≥ 0) = true := decide_eq_true (by omega)
            by_cases c3 : fl ≤ 63
            · have d3 : decide (fl ≤ 63) = true := decide_eq_true (by omega)
              obtain rfl : bb = true := hb.1 (by omega)
              clear hb c0 c1 c2 c3
              skip
              have L0 := Lib.hid ((Below.refl w.heap.size w).alloc (Nat.le_refl _) (.cells #[.int .i64 1, .int .i64 so, .int .i64 mo, .bool fr, .int .i64 fl, .int .i64 n, .int .i64 0, .int .i64 0, .int .u64 0, .int .i64 0, .int .i64 0, .int .i64 0, .bool false, .int .i64 0, .int .u64 0, .int .i64 0, .int .i64 0, .int .i64 0] 46))
              go_enter Tryd.func19, Tryd.ntmps19
              go_wp2_with fail
              go_ret
              exact ⟨rfl, L0.out⟩
            · have d3 : decide (fl ≤ 63) = false := decide_eq_false (by omega)
              obtain rfl : bb = false := by
                cases bb with
                | false => rfl
                | true => exact absurd (hb.2 rfl) (by omega)
              clear hb c0 c1 c2 c3
              skip
              have L0 := Lib.hid ((Below.refl w.heap.size w).alloc (Nat.le_refl _) (.cells #[.int .i64 1, .int .i64 so, .int .i64 mo, .bool fr, .int .i64 fl, .int .i64 n, .int .i64 0, .int .i64 0, .int .u64 0, .int .i64 0, .int .i64 0, .int .i64 0, .bool false, .int .i64 0, .int .u64 0, .int .i64 0, .int .i64 0, .int .i64 0] 46))
              go_enter Tryd.func19, Tryd.ntmps19
              go_wp2_with fail
              go_ret
              exact ⟨rfl, L0.out⟩
          · have d2 : decide (fl ≥ 0) = false := decide_eq_false (by omega)
            obtain rfl : bb = false := by
              cases bb with
              | false => rfl
              | true => exact absurd (hb.2 rfl) (by omega)
            clear hb c0 c1 c2
            skip
            have L0 := Lib.hid ((Below.refl w.heap.size w).alloc (Nat.le_refl _) (.cells #[.int .i64 1, .int .i64 so, .int .i64 mo, .bool fr, .int .i64 fl, .int .i64 n, .int .i64 0, .int .i64 0, .int .u64 0, .int .i64 0, .int .i64 0, .int .i64 0, .bool false, .int .i64 0, .int .u64 0, .int .i64 0, .int .i64 0, .int .i64 0] 46))
            go_enter Tryd.func19, Tryd.ntmps19
            go_wp2_with fail
            go_ret
            exact ⟨rfl, L0.out⟩
        · have d1 : decide (n > 16) = true := decide_eq_true (by omega)
          obtain rfl : bb = false := by
            cases bb with
            | false => rfl
            | true => exact absurd (hb.2 rfl) (by omega)
          clear hb c0 c1
          skip
          have L0 := Lib.hid ((Below.refl w.heap.size w).alloc (Nat.le_refl _) (.cells #[.int .i64 1, .int .i64 so, .int .i64 mo, .bool fr, .int .i64 fl, .int .i64 n, .int .i64 0, .int .i64 0, .int .u64 0, .int .i64 0, .int .i64 0, .int .i64 0, .bool false, .int .i64 0, .int .u64 0, .int .i64 0, .int .i64 0, .int .i64 0] 46))
          go_enter Tryd.func19, Tryd.ntmps19
          go_wp2_with fail
          go_ret
          exact ⟨rfl, L0.out⟩
      · have d0 : decide (n < 1) = true := decide_eq_true (by omega)
        obtain rfl : bb = false := by
          cases bb with
          | false => rfl
          | true => exact absurd (hb.2 rfl) (by omega)
        clear hb c0
        skip
        have L0 := Lib.hid ((Below.refl w.heap.size w).alloc (Nat.le_refl _) (.cells #[.int .i64 1, .int .i64 so, .int .i64 mo, .bool fr, .int .i64 fl, .int .i64 n, .int .i64 0, .int .i64 0, .int .u64 0, .int .i64 0, .int .i64 0, .int .i64 0, .bool false, .int .i64 0, .int .u64 0, .int .i64 0, .int .i64 0, .int .i64 0] 46))
        go_enter Tryd.func19, Tryd.ntmps19
        go_wp2_with fail
        go_ret
        exact ⟨rfl, L0.out⟩
    · rw [if_neg h0, if_neg h1] at hb
      obtain rfl : bb = true := hb.1 trivial
      rw [if_neg (show ¬ (kd = 0 ∨ kd = 1) from fun h => h.elim h0 h1)]
      clear h0 h1 hb
      skip
      have L0 := Lib.hid ((Below.refl w.heap.size w).alloc (Nat.le_refl _) (.cells #[.int .i64 2, .int .i64 so, .int .i64 mo, .bool fr, .int .i64 fl, .int .i64 n, .int .i64 0, .int .i64 0, .int .u64 0, .int .i64 0, .int .i64 0, .int .i64 0, .bool false, .int .i64 0, .int .u64 0, .int .i64 0, .int .i64 0, .int .i64 0] 46))
      go_enter Tryd.func19, Tryd.ntmps19
      go_wp2_with fail
      go_ret
      exact ⟨rfl, L0.out⟩
end Go.Proofs.YtkmlikohgilnbaaDoor.Arb
