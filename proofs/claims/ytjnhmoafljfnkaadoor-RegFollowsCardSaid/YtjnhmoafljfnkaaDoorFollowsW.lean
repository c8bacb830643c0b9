/-
  Reg: RegFollows: the law's walk. Condition: the table of ways lies in block 0. By an AI agent.
-/
import Derived.Test.YtjnhmoafljfnkaaDoorForW
namespace Go.Proofs.YtjnhmoafljfnkaaDoor.Reg
set_option linter.unusedVariables false
set_option linter.unusedSimpArgs false
open Go Go.RowKit Go.Proofs.YtjnhmoafljfnkaaDoor.Base Go.Proofs.YtjnhmoafljfnkaaDoor.Modes Go.Deep

open Classical in
theorem folRes_of {s t : St} {e : Ending} (h : FolRes s t e) : e = .returned (.bool (decide (Fol s t))) := by
  obtain ⟨b, rfl, hb⟩ := h
  congr 2
  by_cases hw : Fol s t
  · rw [decide_eq_true hw]; exact hb.2 hw
  · rw [decide_eq_false hw]
    cases b with
    | false => rfl
    | true => exact absurd (hb.1 rfl) hw
open Classical in
set_option maxRecDepth 100000 in
set_option maxHeartbeats 16000000 in
theorem RegFollows_walk (s : St) (hs : s.Ok) (t : St) (hst : t.Ok) (w : World) (ht : Tab w) : Calls Tryd.prog 7 #[s.val, t.val] w fun e w' => e = .returned (.bool true) ∧ Below w.heap.size w w' := by
  have HA := Lib.hid (show ∀ W, Tab W → Calls Tryd.prog 19 #[s.val, t.val] W fun e w' => e = .returned (.bool (decide (Fol s t))) ∧ Below W.heap.size W w' from fun W hW => (Follows_any s hs t hst W hW).mono fun _ _ ⟨he, hb⟩ => ⟨folRes_of he, hb⟩)
  have HB := Lib.hid (show ∀ W, Calls Tryd.prog 20 #[s.val, t.val] W fun e w' => e = .returned (.bool (decide (Fol s t))) ∧ Below W.heap.size W w' from fun W => (refFollows_any s hs t W).mono fun _ _ ⟨he, hb⟩ => ⟨folRes_of he, hb⟩)
  generalize decide (Fol s t) = F at *
  have BS := Lib.hid (show Blk ((w.alloc (.cells #[.int .i64 s.mode, .int .i64 s.source, .bool s.hold, .int .i64 s.flags, .int .u64 s.epoch] 24)).alloc (.cells #[.int .i64 t.mode, .int .i64 t.source, .bool t.hold, .int .i64 t.flags, .int .u64 t.epoch] 24)) w.heap.size 24 #[.int .i64 s.mode, .int .i64 s.source, .bool s.hold, .int .i64 s.flags, .int .u64 s.epoch] from (Blk.new w 24 _).alloc _)
  have BT := Lib.hid (show Blk ((w.alloc (.cells #[.int .i64 s.mode, .int .i64 s.source, .bool s.hold, .int .i64 s.flags, .int .u64 s.epoch] 24)).alloc (.cells #[.int .i64 t.mode, .int .i64 t.source, .bool t.hold, .int .i64 t.flags, .int .u64 t.epoch] 24)) (w.heap.size + 1) 24 #[.int .i64 t.mode, .int .i64 t.source, .bool t.hold, .int .i64 t.flags, .int .u64 t.epoch] from blk_new' (w.alloc (.cells #[.int .i64 s.mode, .int .i64 s.source, .bool s.hold, .int .i64 s.flags, .int .u64 s.epoch] 24)) (g := w.heap.size + 1) (by simp) 24 _)
  have BB := Lib.hid (show Below w.heap.size w ((w.alloc (.cells #[.int .i64 s.mode, .int .i64 s.source, .bool s.hold, .int .i64 s.flags, .int .u64 s.epoch] 24)).alloc (.cells #[.int .i64 t.mode, .int .i64 t.source, .bool t.hold, .int .i64 t.flags, .int .u64 t.epoch] 24)) from ((Below.refl _ _).alloc (Nat.le_refl _) _).alloc (by simp) _)
  have BTb := Lib.hid (ht.below BB.out)
  clear ht hs hst
  unfold St.val at *
  go_enter Tryd.func7, Tryd.ntmps7
  go_upto_region 1 with fail
  generalize (w.alloc (.cells #[.int .i64 s.mode, .int .i64 s.source, .bool s.hold, .int .i64 s.flags, .int .u64 s.epoch] 24)).alloc (.cells #[.int .i64 t.mode, .int .i64 t.source, .bool t.hold, .int .i64 t.flags, .int .u64 t.epoch] 24) = wz at *
  have hnonempty : Nonempty (Held (Below wz.heap.size wz)) := ⟨⟨wz, Below.refl _ _⟩⟩
  have s0 : ∀ x : Held (Below wz.heap.size wz), x.w.cell? ⟨w.heap.size, 0, none⟩ = some (.int .i64 s.mode) := fun x => (BS.out.bl x.ok).cell 0
  have s1 : ∀ x : Held (Below wz.heap.size wz), x.w.cell? ⟨w.heap.size, 1, none⟩ = some (.int .i64 s.source) := fun x => (BS.out.bl x.ok).cell 1
  have s2 : ∀ x : Held (Below wz.heap.size wz), x.w.cell? ⟨w.heap.size, 2, none⟩ = some (.bool s.hold) := fun x => (BS.out.bl x.ok).cell 2
  have s3 : ∀ x : Held (Below wz.heap.size wz), x.w.cell? ⟨w.heap.size, 3, none⟩ = some (.int .i64 s.flags) := fun x => (BS.out.bl x.ok).cell 3
  have s4 : ∀ x : Held (Below wz.heap.size wz), x.w.cell? ⟨w.heap.size, 4, none⟩ = some (.int .u64 s.epoch) := fun x => (BS.out.bl x.ok).cell 4
  have t0 : ∀ x : Held (Below wz.heap.size wz), x.w.cell? ⟨w.heap.size + 1, 0, none⟩ = some (.int .i64 t.mode) := fun x => (BT.out.bl x.ok).cell 0
  have t1 : ∀ x : Held (Below wz.heap.size wz), x.w.cell? ⟨w.heap.size + 1, 1, none⟩ = some (.int .i64 t.source) := fun x => (BT.out.bl x.ok).cell 1
  have t2 : ∀ x : Held (Below wz.heap.size wz), x.w.cell? ⟨w.heap.size + 1, 2, none⟩ = some (.bool t.hold) := fun x => (BT.out.bl x.ok).cell 2
  have t3 : ∀ x : Held (Below wz.heap.size wz), x.w.cell? ⟨w.heap.size + 1, 3, none⟩ = some (.int .i64 t.flags) := fun x => (BT.out.bl x.ok).cell 3
  have t4 : ∀ x : Held (Below wz.heap.size wz), x.w.cell? ⟨w.heap.size + 1, 4, none⟩ = some (.int .u64 t.epoch) := fun x => (BT.out.bl x.ok).cell 4
  have C1 := Lib.hid (show ∀ W, Below wz.heap.size wz W → Calls Tryd.prog 19 #[.agg #[.int .i64 s.mode, .int .i64 s.source, .bool s.hold, .int .i64 s.flags, .int .u64 s.epoch], .agg #[.int .i64 t.mode, .int .i64 t.source, .bool t.hold, .int .i64 t.flags, .int .u64 t.epoch]] W fun e w' => e = .returned (.bool F) ∧ Below wz.heap.size wz w' from fun W hW => (HA.out W (BTb.out.below hW)).mono fun _ _ ⟨he, hb⟩ => ⟨he, bl hW hb⟩)
  have C2 := Lib.hid (show ∀ W, Below wz.heap.size wz W → Calls Tryd.prog 20 #[.agg #[.int .i64 s.mode, .int .i64 s.source, .bool s.hold, .int .i64 s.flags, .int .u64 s.epoch], .agg #[.int .i64 t.mode, .int .i64 t.source, .bool t.hold, .int .i64 t.flags, .int .u64 t.epoch]] W fun e w' => e = .returned (.bool F) ∧ Below wz.heap.size wz w' from fun W hW => (HB.out W).mono fun _ _ ⟨he, hb⟩ => ⟨he, bl hW hb⟩)
  have C3 := Lib.hid (show ∀ W, Below wz.heap.size wz W → Calls Tryd.prog 14 #[] W fun e w' => e = .returned (.bool true) ∧ Below wz.heap.size wz w' from fun W hW => (awake_any W (BTb.out.below hW)).mono fun _ _ ⟨he, hb⟩ => ⟨he, bl hW hb⟩)
  have hFF : (F == F) = true := by simp
  refine drawn_held (S := Below wz.heap.size wz) (by kernel_rfl) (by kernel_rfl) (Below.refl _ _).drew ?_
  repeat (go_big_quiet_step ((first | (go_at_call 19; exact held_call C1.out) | (go_at_call 20; exact held_call C2.out) | (go_at_call 14; exact held_call C3.out))))
  refine wpQuiet_nil ?_
  intro w7 hw'; obtain ⟨⟨w7', hb7⟩, hw''⟩ := hw'; dsimp only at hw''; subst hw''
  have HZ := Lib.hid (bl BB.out hb7)
  go_wp2_with fail
  go_ret
  exact ⟨rfl, HZ.out⟩
theorem RegFollows_law (v : Value) (s : St) (u : Value) (t : St) (w : World) (hs : s.Ok ∧ v = s.val) (hst : t.Ok ∧ u = t.val) (ht : Modes.Tab w) : Calls Tryd.prog 7 #[v, u] w fun e w' => e = .returned (.bool true) ∧ Below w.heap.size w w' := by
  obtain ⟨hs, rfl⟩ := hs
  obtain ⟨hst, rfl⟩ := hst
  exact RegFollows_walk s hs t hst w ht
end Go.Proofs.YtjnhmoafljfnkaaDoor.Reg
