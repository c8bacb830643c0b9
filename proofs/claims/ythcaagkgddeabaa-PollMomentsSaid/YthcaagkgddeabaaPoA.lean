/-
  Law 12: subscriptions and topics of a poll in memory; the closures by which a topic is looked for, and slices.IndexFunc and ContainsFunc with them. Printed by wip/tools/mkpoa.py. Conditions stand at each. By an AI agent.
-/
import Derived.Test.YthcaagkgddeabaaPoM
import Derived.Test.YthcaagkgddeabaaPick
import Derived.Test.YthcaagkgddeabaaSch
import Derived.Lib.SmallJoins
import Derived.Shelf.Abstract
namespace Go.Proofs.Ythcaagkgddeabaa.Bank
set_option linter.unusedVariables false
set_option linter.unusedSimpArgs false
open Go Go.RowKit Go.Proofs.Ythcaagkgddeabaa.Base Go.Deep Go.ChangeShapes Go.WideShapes Go.Proofs.Ythcaagkgddeabaa.Queue
theorem turn_no (i n : Nat) (h : i < n) (hn : n ≤ maxLen) : Value.int .i64 (wrap64 ((i : Int) + 1)) = Value.int .i64 ((i + 1 : Nat) : Int) ∧ n - (intOf (Value.int .i64 (wrap64 ((i : Int) + 1)))).toNat < n - (intOf (Value.int .i64 (i : Int))).toNat := by
  have e : wrap64 ((i : Int) + 1) = ((i + 1 : Nat) : Int) := by unfold maxLen at hn; unfold wrap64; omega
  rw [e]
  refine ⟨rfl, ?_⟩
  show n - ((i + 1 : Nat) : Int).toNat < n - (i : Int).toNat
  rw [Int.toNat_natCast, Int.toNat_natCast]
  omega
/-- a subscription's cells -/
def subC (s : Queue.Sub) : Nat → Value
  | 0 => .int .i64 s.topic | 1 => .int .i64 s.rank | 2 => .int .u64 s.cur.next | 3 => .int .i64 s.cur.cap | 4 => .int .u64 s.cur.got | _ => .int .u64 s.cur.lost
structure SubsIn (w : World) (r n : Nat) (l : Nat → Queue.Sub) : Prop where
  lt : r < w.heap.size
  cells : ∀ i : Nat, i < n → ∀ j, j < 6 → w.cell? ⟨r, i * 6 + j, none⟩ = some (subC (l i) j)
  fro : ∀ i, w.frozen? ⟨r, i, none⟩ = false
theorem SubsIn.ex {T : Nat → Prop} {w w' : World} {r n : Nat} {l : Nat → Queue.Sub} (h : SubsIn w r n l) (p : Ex T w w') (hg : ¬ T r) : SubsIn w' r n l :=
  ⟨Nat.lt_of_lt_of_le h.lt p.size, fun i hi j hj => p.cell (h.cells i hi j hj) hg, fun i => p.frozen (h.fro i) h.lt hg⟩
theorem SubsIn.bl {w w' : World} {r n : Nat} {l : Nat → Queue.Sub} (h : SubsIn w r n l) (hb : Below w.heap.size w w') : SubsIn w' r n l := h.ex (T := fun _ => False) (Ex.of_below hb) (fun h => h)
theorem SubsIn.six {w : World} {r n : Nat} {l : Nat → Queue.Sub} (h : SubsIn w r n l) {i : Nat} (hi : i < n) :
    w.cell? ⟨r, i * 6, none⟩ = some (.int .i64 (l i).topic) ∧ w.cell? ⟨r, i * 6 + 1, none⟩ = some (.int .i64 (l i).rank) ∧ w.cell? ⟨r, i * 6 + 2, none⟩ = some (.int .u64 (l i).cur.next) ∧ w.cell? ⟨r, i * 6 + 3, none⟩ = some (.int .i64 (l i).cur.cap) ∧ w.cell? ⟨r, i * 6 + 4, none⟩ = some (.int .u64 (l i).cur.got) ∧ w.cell? ⟨r, i * 6 + 5, none⟩ = some (.int .u64 (l i).cur.lost) :=
  ⟨h.cells i hi 0 (by decide), h.cells i hi 1 (by decide), h.cells i hi 2 (by decide), h.cells i hi 3 (by decide), h.cells i hi 4 (by decide), h.cells i hi 5 (by decide)⟩
theorem SubsIn.subs {w : World} {r n c : Nat} {l : Nat → Queue.Sub} (h : SubsIn w r n l) (hn : n ≤ maxLen) (ho : ∀ i : Nat, i < n → (l i).Ok) : Queue.Subs w (.slice (some ⟨r, 0, none⟩) n c) n l :=
  ⟨⟨_, c, rfl, hn, fun _ => ⟨r, 0, rfl, h.lt, fun i hi => by rw [Nat.zero_add]; exact h.six hi⟩⟩, ho⟩
/-- a topic that is looked at: its number, and its spot -/
structure Tp where
  n : Int
  spot : Spot
def Tp.val (t : Tp) (g : Int) : Value := .agg #[.int .i64 t.n, .int .i64 t.spot.owners, .int .i64 t.spot.seq, .int .i64 t.spot.first, .int .i64 t.spot.words, .int .i64 t.spot.depth, .int .u64 g]
def topC (t : Tp) (g : Int) : Nat → Value
  | 0 => .int .i64 t.n | 1 => .int .i64 t.spot.owners | 2 => .int .i64 t.spot.seq | 3 => .int .i64 t.spot.first | 4 => .int .i64 t.spot.words | 5 => .int .i64 t.spot.depth | _ => .int .u64 g
structure TopsIn (w : World) (r n : Nat) (l : Nat → Tp) (gl : List Int) : Prop where
  lt : r < w.heap.size
  cells : ∀ i : Nat, i < n → ∀ j, j < 7 → w.cell? ⟨r, i * 7 + j, none⟩ = some (topC (l i) (nth gl i) j)
  fro : ∀ i, w.frozen? ⟨r, i, none⟩ = false
theorem TopsIn.ex {T : Nat → Prop} {w w' : World} {r n : Nat} {l : Nat → Tp} {gl : List Int} (h : TopsIn w r n l gl) (p : Ex T w w') (hg : ¬ T r) : TopsIn w' r n l gl :=
  ⟨Nat.lt_of_lt_of_le h.lt p.size, fun i hi j hj => p.cell (h.cells i hi j hj) hg, fun i => p.frozen (h.fro i) h.lt hg⟩
theorem TopsIn.bl {w w' : World} {r n : Nat} {l : Nat → Tp} {gl : List Int} (h : TopsIn w r n l gl) (hb : Below w.heap.size w w') : TopsIn w' r n l gl := h.ex (T := fun _ => False) (Ex.of_below hb) (fun h => h)
theorem TopsIn.seven {w : World} {r n : Nat} {l : Nat → Tp} {gl : List Int} (h : TopsIn w r n l gl) {i : Nat} (hi : i < n) :
    w.cell? ⟨r, i * 7, none⟩ = some (.int .i64 (l i).n) ∧ w.cell? ⟨r, i * 7 + 1, none⟩ = some (.int .i64 (l i).spot.owners) ∧ w.cell? ⟨r, i * 7 + 2, none⟩ = some (.int .i64 (l i).spot.seq) ∧ w.cell? ⟨r, i * 7 + 3, none⟩ = some (.int .i64 (l i).spot.first) ∧ w.cell? ⟨r, i * 7 + 4, none⟩ = some (.int .i64 (l i).spot.words) ∧ w.cell? ⟨r, i * 7 + 5, none⟩ = some (.int .i64 (l i).spot.depth) ∧ w.cell? ⟨r, i * 7 + 6, none⟩ = some (.int .u64 (nth gl i)) :=
  ⟨h.cells i hi 0 (by decide), h.cells i hi 1 (by decide), h.cells i hi 2 (by decide), h.cells i hi 3 (by decide), h.cells i hi 4 (by decide), h.cells i hi 5 (by decide), h.cells i hi 6 (by decide)⟩
/-- a slice of topics, be it none -/
structure Tps (w : World) (v : Value) (n : Nat) (l : Nat → Tp) (gl : List Int) : Prop where
  form : ∃ A c, v = .slice A n c ∧ n ≤ maxLen ∧ (0 < n → ∃ b, A = some ⟨b, 0, none⟩ ∧ TopsIn w b n l gl)
theorem Tps.bl {w w' : World} {v : Value} {n : Nat} {l : Nat → Tp} {gl : List Int} (h : Tps w v n l gl) (hb : Below w.heap.size w w') : Tps w' v n l gl := by
  obtain ⟨A, c, rfl, hn, h⟩ := h.form
  exact ⟨⟨A, c, rfl, hn, fun h0 => by obtain ⟨b, rfl, hi⟩ := h h0; exact ⟨b, rfl, hi.bl hb⟩⟩⟩
theorem TopsIn.tps {w : World} {r n c : Nat} {l : Nat → Tp} {gl : List Int} (h : TopsIn w r n l gl) (hn : n ≤ maxLen) : Tps w (.slice (some ⟨r, 0, none⟩) n c) n l gl := ⟨⟨_, c, rfl, hn, fun _ => ⟨r, rfl, h⟩⟩⟩
/-- where the first topic of a number is -/
def FIx (l : Nat → Tp) (T : Nat) (x z : Int) : Prop := (∃ i : Nat, i < T ∧ (l i).n = x ∧ (∀ j, j < i → (l j).n ≠ x) ∧ z = i) ∨ ((∀ j, j < T → (l j).n ≠ x) ∧ z = -1)
theorem FIx.at_ {l : Nat → Tp} {T : Nat} {x z : Int} (h : FIx l T x z) {i : Nat} (hi : i < T) (hx : (l i).n = x) (hu : ∀ a b, a < T → b < T → (l a).n = (l b).n → a = b) : z = i := by
  rcases h with ⟨k, hk, hkx, _, rfl⟩ | ⟨hn, _⟩
  · rw [hu k i hk hi (hkx.trans hx.symm)]
  · exact absurd hx (hn i hi)
theorem new1_any (t : Tp) (g x : Int) (b : Nat) (w : World) (hx : w.cell? ⟨b, 0, none⟩ = some (.int .i64 x)) :
    Calls Try.prog 46 #[t.val g, .pointer (some ⟨b, 0, none⟩)] w fun e w' => e = .returned (.bool (t.n == x)) ∧ Below w.heap.size w w' := by
  obtain ⟨tn, ow, sq, fi, wo, de⟩ := t
  unfold Tp.val
  have hx2 : (w.alloc (.cells #[.int .i64 tn, .int .i64 ow, .int .i64 sq, .int .i64 fi, .int .i64 wo, .int .i64 de, .int .u64 g] 106)).cell? ⟨b, 0, none⟩ = some (.int .i64 x) := Lib.cell?_alloc_some _ hx
  have L0 := Lib.hid ((Below.refl w.heap.size w).alloc (Nat.le_refl _) (.cells #[.int .i64 tn, .int .i64 ow, .int .i64 sq, .int .i64 fi, .int .i64 wo, .int .i64 de, .int .u64 g] 106))
  clear hx
  simp only
  go_enter Try.func46, Try.ntmps46
  go_wp2_with fail
  go_ret
  exact ⟨rfl, L0.out⟩
theorem gen1_any (t : Tp) (g x : Int) (b : Nat) (w : World) (hx : w.cell? ⟨b, 0, none⟩ = some (.int .i64 x)) :
    Calls Try.prog 68 #[t.val g, .pointer (some ⟨b, 0, none⟩)] w fun e w' => e = .returned (.bool (t.n == x)) ∧ Below w.heap.size w w' := by
  obtain ⟨tn, ow, sq, fi, wo, de⟩ := t
  unfold Tp.val
  have hx2 : (w.alloc (.cells #[.int .i64 tn, .int .i64 ow, .int .i64 sq, .int .i64 fi, .int .i64 wo, .int .i64 de, .int .u64 g] 106)).cell? ⟨b, 0, none⟩ = some (.int .i64 x) := Lib.cell?_alloc_some _ hx
  have L0 := Lib.hid ((Below.refl w.heap.size w).alloc (Nat.le_refl _) (.cells #[.int .i64 tn, .int .i64 ow, .int .i64 sq, .int .i64 fi, .int .i64 wo, .int .i64 de, .int .u64 g] 106))
  clear hx
  simp only
  go_enter Try.func68, Try.ntmps68
  go_wp2_with fail
  go_ret
  exact ⟨rfl, L0.out⟩
set_option maxRecDepth 100000 in
set_option maxHeartbeats 4000000 in
theorem cho1_any (t : Tp) (g : Int) (b1 b2 o rs n cs k : Nat) (l : Nat → Queue.Sub) (w : World) (h1 : w.cell? ⟨b1, 0, none⟩ = some (.pointer (some ⟨o, 0, none⟩))) (h2 : w.cell? ⟨b2, 0, none⟩ = some (.int .i64 (k : Int))) (h3 : w.cell? ⟨o, 0, none⟩ = some (.slice (some ⟨rs, 0, none⟩) n cs)) (h4 : SubsIn w rs n l) (hk : k < n) :
    Calls Try.prog 66 #[t.val g, .pointer (some ⟨b1, 0, none⟩), .pointer (some ⟨b2, 0, none⟩)] w fun e w' => e = .returned (.bool (t.n == (l k).topic)) ∧ Below w.heap.size w w' := by
  obtain ⟨tn, ow, sq, fi, wo, de⟩ := t
  unfold Tp.val
  simp only
  have i0 : (0 : Int) ≤ (k : Int) := by omega
  have i1 : (k : Int) < (n : Int) := by omega
  have hn := Blk.new w 106 #[.int .i64 tn, .int .i64 ow, .int .i64 sq, .int .i64 fi, .int .i64 wo, .int .i64 de, .int .u64 g]
  have hb := (Below.refl w.heap.size w).alloc (Nat.le_refl _) (.cells #[.int .i64 tn, .int .i64 ow, .int .i64 sq, .int .i64 fi, .int .i64 wo, .int .i64 de, .int .u64 g] 106)
  have e1 := (hb.cell (p := ⟨b1, 0, none⟩) (lt_of_cell h1)).trans h1
  have e2 := (hb.cell (p := ⟨b2, 0, none⟩) (lt_of_cell h2)).trans h2
  have e3 := (hb.cell (p := ⟨o, 0, none⟩) (lt_of_cell h3)).trans h3
  have e4 := (h4.bl hb).cells k hk 0 (by decide)
  have E1 := Lib.hid e1
  have E2 := Lib.hid e2
  have E3 := Lib.hid e3
  have E4 := Lib.hid (show _ = some (Value.int .i64 (l k).topic) from e4)
  have HN := Lib.hid hn
  have L0 := Lib.hid hb
  clear h1 h2 h3 h4 hk hn hb e1 e2 e3 e4
  go_enter Try.func66, Try.ntmps66
  go_upto_region 1 with fail
  obtain ⟨tb, htb⟩ : ∃ tb, w.heap.size = tb := ⟨_, rfl⟩
  have HT := Lib.hid htb
  simp only [htb] at HN ⊢
  clear htb
  generalize w.alloc (.cells #[.int .i64 tn, .int .i64 ow, .int .i64 sq, .int .i64 fi, .int .i64 wo, .int .i64 de, .int .u64 g] 106) = w1 at *
  have hne : Nonempty (Held (fun W => W = w1.drew)) := ⟨⟨_, rfl⟩⟩
  have p0 : ∀ y : Held (fun W => W = w1.drew), y.w.cell? ⟨tb, 0, none⟩ = some (.int .i64 tn) := fun y => by rw [y.ok]; exact HN.out.cell 0
  have p1 : ∀ y : Held (fun W => W = w1.drew), y.w.cell? ⟨b1, 0, none⟩ = some (.pointer (some ⟨o, 0, none⟩)) := fun y => by rw [y.ok]; exact E1.out
  have p2 : ∀ y : Held (fun W => W = w1.drew), y.w.cell? ⟨b2, 0, none⟩ = some (.int .i64 (k : Int)) := fun y => by rw [y.ok]; exact E2.out
  have p3 : ∀ y : Held (fun W => W = w1.drew), y.w.cell? ⟨o, 0, none⟩ = some (.slice (some ⟨rs, 0, none⟩) n cs) := fun y => by rw [y.ok]; exact E3.out
  have p4 : ∀ y : Held (fun W => W = w1.drew), y.w.cell? ⟨rs, k * 6, none⟩ = some (.int .i64 (l k).topic) := fun y => by rw [y.ok]; exact E4.out
  refine drawn_bars (S := fun _ => True) [] [0, 1, 2, 3, 4, 5, 6, 7, 8, 9, 10, 11] (by kernel_rfl) (by kernel_rfl) (by kernel_rfl) rfl trivial ?_
  refine Phased.end_ ?_
  simp only [pick, List.map_cons, List.map_nil, List.getElem?_cons_zero, List.getElem?_cons_succ, Option.getD_some]
  repeat (go_big_quiet_step (fail))
  refine wpQuiet_nil ?_
  go_wp2_with fail
  go_ret
  exact ⟨rfl, L0.out.drew⟩
set_option maxRecDepth 100000 in
set_option maxHeartbeats 4000000 in
theorem new1_index (v : Value) (T : Nat) (l : Nat → Tp) (gl : List Int) (x : Int) (b : Nat) (w : World) (h : Tps w v T l gl)
    (HK : ∀ i, i < T → ∀ W, Below w.heap.size w W → Calls Try.prog 46 #[(l i).val (nth gl i), .pointer (some ⟨b, 0, none⟩)] W fun e w' => e = .returned (.bool ((l i).n == x)) ∧ Below W.heap.size W w') :
    Calls Try.prog 65 #[v, .func (.func 46) #[] #[.pointer (some ⟨b, 0, none⟩)]] w fun e w' => ∃ z : Int, e = .returned (.int .i64 z) ∧ FIx l T x z ∧ Below w.heap.size w w' := by
  obtain ⟨A, c, rfl, hn, hg⟩ := h.form
  have HG := Lib.hid hg
  have HN := Lib.hid hn
  have HKK := Lib.hid HK
  clear h hn hg HK
  go_enter Try.func65, Try.ntmps65
  go_wp2_with fail
  go_loopw [5, 8] (fun s5 s8 wr => ∃ i : Nat, i ≤ T ∧ s8 = .int .i64 i ∧ (∀ j, j < i → (l j).n ≠ x) ∧ Below w.heap.size w wr) (fun s5 s8 _ => T - (intOf s8).toNat)
  case atStart => exact ⟨0, by omega, rfl, fun j hj => absurd hj (by omega), Below.refl _ _⟩
  case round =>
    obtain ⟨i, hi, rfl, hs, hl⟩ := hrel
    have HS := Lib.hid hs
    have L0 := Lib.hid hl
    clear hs hl
    by_cases hlt : i < T
    · have kd : decide ((i : Int) < (T : Int)) = true := decide_eq_true (by omega)
      have ki0 : (0 : Int) ≤ (i : Int) := by omega
      have ki1 : (i : Int) < (T : Int) := by omega
      have HI := Lib.hid hlt
      clear hi hlt
      obtain ⟨b, rfl, hin⟩ := HG.out (by have := HI.out; omega)
      have HIN := Lib.hid (hin.bl L0.out)
      clear hin
      have HR := Lib.hid (HKK.out i HI.out wr L0.out)
      unfold Tp.val at HR
      obtain ⟨c0, c1, c2, c3, c4, c5, c6⟩ := HIN.out.seven HI.out
      have HM := Lib.hid (turn_no i T HI.out HN.out)
      by_cases hm : (l i).n = x
      · have km : ((l i).n == x) = true := by simpa using hm
        rw [km] at HR
        have HM2 := Lib.hid hm
        clear hm km
        go_wp2_with fail
        refine HR.out.mono ?_; rintro e w1 ⟨rfl, hb1⟩
        have L1 := Lib.hid (bl L0.out hb1)
        clear c0 c1 c2 c3 c4 c5 c6 hb1 HR
        go_wp2_with fail
        go_ret
        exact ⟨_, rfl, .inl ⟨i, HI.out, HM2.out, HS.out, rfl⟩, L1.out⟩
      · have km : ((l i).n == x) = false := by simpa using hm
        rw [km] at HR
        have HM2 := Lib.hid hm
        clear hm km
        go_wp2_with fail
        refine HR.out.mono ?_; rintro e w1 ⟨rfl, hb1⟩
        have L1 := Lib.hid (bl L0.out hb1)
        clear c0 c1 c2 c3 c4 c5 c6 hb1 HR
        go_wp2_with fail
        go_roundw
        case rel => exact ⟨i + 1, HI.out, HM.out.1, fun j hj => by
          by_cases e : j = i
          · rw [e]; exact HM2.out
          · exact HS.out j (by omega), L1.out⟩
        case measure => exact HM.out.2
    · obtain rfl : i = T := by omega
      have kd : decide ((i : Int) < (i : Int)) = false := decide_eq_false (by omega)
      go_wp2_with fail
      go_ret
      exact ⟨_, rfl, .inr ⟨HS.out, rfl⟩, L0.out⟩
theorem new1_contains (v : Value) (T : Nat) (l : Nat → Tp) (gl : List Int) (x : Int) (b : Nat) (w : World) (h : Tps w v T l gl)
    (HK : ∀ i, i < T → ∀ W, Below w.heap.size w W → Calls Try.prog 46 #[(l i).val (nth gl i), .pointer (some ⟨b, 0, none⟩)] W fun e w' => e = .returned (.bool ((l i).n == x)) ∧ Below W.heap.size W w') :
    Calls Try.prog 45 #[v, .func (.func 46) #[] #[.pointer (some ⟨b, 0, none⟩)]] w fun e w' => ∃ q : Bool, e = .returned (.bool q) ∧ (q = true ↔ ∃ i, i < T ∧ (l i).n = x) ∧ Below w.heap.size w w' := by
  have H := Lib.hid (new1_index v T l gl x b w h HK)
  clear h HK
  go_enter Try.func45, Try.ntmps45
  go_wp2_with fail
  refine H.out.mono ?_; rintro e w1 ⟨z, rfl, hz, hb1⟩
  have L1 := Lib.hid hb1
  have HZ := Lib.hid hz
  clear hb1 hz
  go_wp2_with fail
  go_ret
  refine ⟨_, rfl, ?_, L1.out⟩
  rcases HZ.out with ⟨i, hi, hx, _, rfl⟩ | ⟨hn, rfl⟩
  · exact ⟨fun _ => ⟨i, hi, hx⟩, fun _ => decide_eq_true (by omega)⟩
  · exact ⟨fun h => absurd (of_decide_eq_true h) (by omega), fun ⟨i, hi, hx⟩ => absurd hx (hn i hi)⟩
set_option maxRecDepth 100000 in
set_option maxHeartbeats 4000000 in
theorem gen1_index (v : Value) (T : Nat) (l : Nat → Tp) (gl : List Int) (x : Int) (b : Nat) (w : World) (h : Tps w v T l gl)
    (HK : ∀ i, i < T → ∀ W, Below w.heap.size w W → Calls Try.prog 68 #[(l i).val (nth gl i), .pointer (some ⟨b, 0, none⟩)] W fun e w' => e = .returned (.bool ((l i).n == x)) ∧ Below W.heap.size W w') :
    Calls Try.prog 65 #[v, .func (.func 68) #[] #[.pointer (some ⟨b, 0, none⟩)]] w fun e w' => ∃ z : Int, e = .returned (.int .i64 z) ∧ FIx l T x z ∧ Below w.heap.size w w' := by
  obtain ⟨A, c, rfl, hn, hg⟩ := h.form
  have HG := Lib.hid hg
  have HN := Lib.hid hn
  have HKK := Lib.hid HK
  clear h hn hg HK
  go_enter Try.func65, Try.ntmps65
  go_wp2_with fail
  go_loopw [5, 8] (fun s5 s8 wr => ∃ i : Nat, i ≤ T ∧ s8 = .int .i64 i ∧ (∀ j, j < i → (l j).n ≠ x) ∧ Below w.heap.size w wr) (fun s5 s8 _ => T - (intOf s8).toNat)
  case atStart => exact ⟨0, by omega, rfl, fun j hj => absurd hj (by omega), Below.refl _ _⟩
  case round =>
    obtain ⟨i, hi, rfl, hs, hl⟩ := hrel
    have HS := Lib.hid hs
    have L0 := Lib.hid hl
    clear hs hl
    by_cases hlt : i < T
    · have kd : decide ((i : Int) < (T : Int)) = true := decide_eq_true (by omega)
      have ki0 : (0 : Int) ≤ (i : Int) := by omega
      have ki1 : (i : Int) < (T : Int) := by omega
      have HI := Lib.hid hlt
      clear hi hlt
      obtain ⟨b, rfl, hin⟩ := HG.out (by have := HI.out; omega)
      have HIN := Lib.hid (hin.bl L0.out)
      clear hin
      have HR := Lib.hid (HKK.out i HI.out wr L0.out)
      unfold Tp.val at HR
      obtain ⟨c0, c1, c2, c3, c4, c5, c6⟩ := HIN.out.seven HI.out
      have HM := Lib.hid (turn_no i T HI.out HN.out)
      by_cases hm : (l i).n = x
      · have km : ((l i).n == x) = true := by simpa using hm
        rw [km] at HR
        have HM2 := Lib.hid hm
        clear hm km
        go_wp2_with fail
        refine HR.out.mono ?_; rintro e w1 ⟨rfl, hb1⟩
        have L1 := Lib.hid (bl L0.out hb1)
        clear c0 c1 c2 c3 c4 c5 c6 hb1 HR
        go_wp2_with fail
        go_ret
        exact ⟨_, rfl, .inl ⟨i, HI.out, HM2.out, HS.out, rfl⟩, L1.out⟩
      · have km : ((l i).n == x) = false := by simpa using hm
        rw [km] at HR
        have HM2 := Lib.hid hm
        clear hm km
        go_wp2_with fail
        refine HR.out.mono ?_; rintro e w1 ⟨rfl, hb1⟩
        have L1 := Lib.hid (bl L0.out hb1)
        clear c0 c1 c2 c3 c4 c5 c6 hb1 HR
        go_wp2_with fail
        go_roundw
        case rel => exact ⟨i + 1, HI.out, HM.out.1, fun j hj => by
          by_cases e : j = i
          · rw [e]; exact HM2.out
          · exact HS.out j (by omega), L1.out⟩
        case measure => exact HM.out.2
    · obtain rfl : i = T := by omega
      have kd : decide ((i : Int) < (i : Int)) = false := decide_eq_false (by omega)
      go_wp2_with fail
      go_ret
      exact ⟨_, rfl, .inr ⟨HS.out, rfl⟩, L0.out⟩
set_option maxRecDepth 100000 in
set_option maxHeartbeats 4000000 in
theorem cho1_index (v : Value) (T : Nat) (l : Nat → Tp) (gl : List Int) (x : Int) (b1 b2 : Nat) (w : World) (h : Tps w v T l gl)
    (HK : ∀ i, i < T → ∀ W, Below w.heap.size w W → Calls Try.prog 66 #[(l i).val (nth gl i), .pointer (some ⟨b1, 0, none⟩), .pointer (some ⟨b2, 0, none⟩)] W fun e w' => e = .returned (.bool ((l i).n == x)) ∧ Below W.heap.size W w') :
    Calls Try.prog 65 #[v, .func (.func 66) #[] #[.pointer (some ⟨b1, 0, none⟩), .pointer (some ⟨b2, 0, none⟩)]] w fun e w' => ∃ z : Int, e = .returned (.int .i64 z) ∧ FIx l T x z ∧ Below w.heap.size w w' := by
  obtain ⟨A, c, rfl, hn, hg⟩ := h.form
  have HG := Lib.hid hg
  have HN := Lib.hid hn
  have HKK := Lib.hid HK
  clear h hn hg HK
  go_enter Try.func65, Try.ntmps65
  go_wp2_with fail
  go_loopw [5, 8] (fun s5 s8 wr => ∃ i : Nat, i ≤ T ∧ s8 = .int .i64 i ∧ (∀ j, j < i → (l j).n ≠ x) ∧ Below w.heap.size w wr) (fun s5 s8 _ => T - (intOf s8).toNat)
  case atStart => exact ⟨0, by omega, rfl, fun j hj => absurd hj (by omega), Below.refl _ _⟩
  case round =>
    obtain ⟨i, hi, rfl, hs, hl⟩ := hrel
    have HS := Lib.hid hs
    have L0 := Lib.hid hl
    clear hs hl
    by_cases hlt : i < T
    · have kd : decide ((i : Int) < (T : Int)) = true := decide_eq_true (by omega)
      have ki0 : (0 : Int) ≤ (i : Int) := by omega
      have ki1 : (i : Int) < (T : Int) := by omega
      have HI := Lib.hid hlt
      clear hi hlt
      obtain ⟨b, rfl, hin⟩ := HG.out (by have := HI.out; omega)
      have HIN := Lib.hid (hin.bl L0.out)
      clear hin
      have HR := Lib.hid (HKK.out i HI.out wr L0.out)
      unfold Tp.val at HR
      obtain ⟨c0, c1, c2, c3, c4, c5, c6⟩ := HIN.out.seven HI.out
      have HM := Lib.hid (turn_no i T HI.out HN.out)
      by_cases hm : (l i).n = x
      · have km : ((l i).n == x) = true := by simpa using hm
        rw [km] at HR
        have HM2 := Lib.hid hm
        clear hm km
        go_wp2_with fail
        refine HR.out.mono ?_; rintro e w1 ⟨rfl, hb1⟩
        have L1 := Lib.hid (bl L0.out hb1)
        clear c0 c1 c2 c3 c4 c5 c6 hb1 HR
        go_wp2_with fail
        go_ret
        exact ⟨_, rfl, .inl ⟨i, HI.out, HM2.out, HS.out, rfl⟩, L1.out⟩
      · have km : ((l i).n == x) = false := by simpa using hm
        rw [km] at HR
        have HM2 := Lib.hid hm
        clear hm km
        go_wp2_with fail
        refine HR.out.mono ?_; rintro e w1 ⟨rfl, hb1⟩
        have L1 := Lib.hid (bl L0.out hb1)
        clear c0 c1 c2 c3 c4 c5 c6 hb1 HR
        go_wp2_with fail
        go_roundw
        case rel => exact ⟨i + 1, HI.out, HM.out.1, fun j hj => by
          by_cases e : j = i
          · rw [e]; exact HM2.out
          · exact HS.out j (by omega), L1.out⟩
        case measure => exact HM.out.2
    · obtain rfl : i = T := by omega
      have kd : decide ((i : Int) < (i : Int)) = false := decide_eq_false (by omega)
      go_wp2_with fail
      go_ret
      exact ⟨_, rfl, .inr ⟨HS.out, rfl⟩, L0.out⟩
end Go.Proofs.Ythcaagkgddeabaa.Bank
