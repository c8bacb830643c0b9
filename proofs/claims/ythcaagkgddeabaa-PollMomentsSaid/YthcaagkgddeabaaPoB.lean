/-
  Law 12: a poll in memory; what its first round found, for each subscription. Printed by wip/tools/mkpob.py. Conditions stand at each. By an AI agent.
-/
import Derived.Test.YthcaagkgddeabaaPoA
import Derived.Test.YthcaagkgddeabaaPoS
import Derived.OwnWalk
namespace Go.Proofs.Ythcaagkgddeabaa.Bank
set_option linter.unusedVariables false
set_option linter.unusedSimpArgs false
open Go Go.RowKit Go.Proofs.Ythcaagkgddeabaa.Base Go.Deep Go.ChangeShapes Go.WideShapes Go.Proofs.Ythcaagkgddeabaa.Queue
/-- what stays of a poll: how many subscriptions, and topics, there are; their numbers, ranks, spots; which topic is whose -/
structure PC where
  n : Nat
  T : Nat
  tn : Nat → Int
  rk : Nat → Int
  tp : Nat → Tp
  ix : Nat → Nat
/-- how a poll stands -/
structure PX where
  left : Int
  round : Int
  next : Int
  pick : Int
  gen : Int
  place : Int
  size : Int
  how : Int
  steps : Int
  begun : Int
  words : List Int
  gl : List Int
  cu : Nat → Cur
def PC.sub (c : PC) (cu : Nat → Cur) : Nat → Queue.Sub := fun i => ⟨c.tn i, c.rk i, cu i⟩
structure PC.Ok (c : PC) : Prop where
  n1 : 1 ≤ c.n
  n64 : c.n ≤ 64
  t1 : 1 ≤ c.T
  tn : c.T ≤ c.n
  up : ∀ a b, a < b → b < c.T → (c.tp a).n < (c.tp b).n
  ix : ∀ i, i < c.n → c.ix i < c.T ∧ (c.tp (c.ix i)).n = c.tn i
  atOk : ∀ a, a < c.T → (c.tp a).spot.AtOk
  rk : ∀ i, i < c.n → -9223372036854775808 ≤ c.rk i ∧ c.rk i ≤ 9223372036854775807
theorem PC.Ok.inj {c : PC} (h : c.Ok) : ∀ a b, a < c.T → b < c.T → (c.tp a).n = (c.tp b).n → a = b := by
  intro a b ha hb e
  rcases Nat.lt_trichotomy a b with h1 | h1 | h1
  · have := h.up a b h1 hb; omega
  · exact h1
  · have := h.up b a h1 ha; omega
def OwnR (w : World) (v : Value) (W : List Int) : Prop := w.ownsRow 0 32 1 v W.length (W.map (Value.int .u64))
theorem ownsRow_ex {T : Nat → Prop} {w w' : World} {base e size n : Nat} {v : Value} {xs : List Value} (h : w.ownsRow base e size v n xs) (p : Ex T w w') (hT : ∀ k, v.ownBlock = some k → ¬ T k) : w'.ownsRow base e size v n xs := by
  have hlt := h.lt
  obtain ⟨h1, h2⟩ := h
  refine ⟨h1, ?_⟩
  rcases h2 with h2 | ⟨g, cap, cur, hv, hg, hh, r⟩
  · exact .inl h2
  · exact .inr ⟨g, cap, cur, hv, hg, (p.block g (hlt g (by rw [hv]; rfl)).2 (hT g (by rw [hv]; rfl))).trans hh, r⟩
theorem OwnR.ex {T : Nat → Prop} {w w' : World} {v : Value} {W : List Int} (h : OwnR w v W) (p : Ex T w w') (hT : ∀ k, v.ownBlock = some k → ¬ T k) : OwnR w' v W := ownsRow_ex h p hT
theorem OwnR.bl {w w' : World} {v : Value} {W : List Int} (h : OwnR w v W) (hb : Below w.heap.size w w') : OwnR w' v W := h.ex (T := fun _ => False) (Ex.of_below hb) (fun _ _ h => h)
theorem OwnR.nil (w : World) : OwnR w (.slice none 0 0) [] := ⟨rfl, .inl ⟨rfl, rfl⟩⟩
theorem OwnR.form {w : World} {v : Value} {W : List Int} (h : OwnR w v W) : ∃ a c, v = .slice a W.length c := by
  rcases h.2 with ⟨rfl, h0⟩ | ⟨g, cap, cur, rfl, _⟩
  · exact ⟨none, 0, by rw [h0]⟩
  · exact ⟨_, _, rfl⟩
/-- a row of words that lies in a block of its own -/
def URow (w : World) (r : Nat) (xs : List Int) : Prop := Blk w r 32 (xs.map (Value.int .u64)).toArray
theorem URow.word {w : World} {r : Nat} {xs : List Int} (b : URow w r xs) {i : Nat} (hi : i < xs.length) : w.cell? ⟨r, i, none⟩ = some (.int .u64 (nth xs i)) := by
  rw [Blk.cell b i]
  simp [nth, List.getD_eq_getElem?_getD, List.getElem?_eq_getElem hi]
theorem URow.stored {w : World} {r : Nat} {xs : List Int} (b : URow w r xs) (i : Nat) (x : Int) : URow (w.setCell ⟨r, i, none⟩ (.int .u64 x)) r (xs.set i x) := by
  have h := Blk.set_ b i (.int .u64 x)
  have e : ((xs.map (Value.int .u64)).toArray).setIfInBounds i (.int .u64 x) = ((xs.set i x).map (Value.int .u64)).toArray := by
    simp only [List.setIfInBounds_toArray, List.map_set]
  unfold URow
  rw [← e]
  exact h
theorem URow.ex {T : Nat → Prop} {w w' : World} {r : Nat} {xs : List Int} (b : URow w r xs) (p : Ex T w w') (h : ¬ T r) : URow w' r xs := Blk.ex b p h
theorem URow.bl {w w' : World} {r : Nat} {xs : List Int} (b : URow w r xs) (p : Below w.heap.size w w') : URow w' r xs := Blk.bl b p
theorem URow.lt {w : World} {r : Nat} {xs : List Int} (b : URow w r xs) : r < w.heap.size := Blk.lt b
theorem URow.ints {w : World} {r c : Nat} {xs : List Int} (b : URow w r xs) (hl : xs.length ≤ maxLen) : Ints w .u64 (.slice (some ⟨r, 0, none⟩) xs.length c) xs :=
  ⟨_, c, rfl, hl, fun _ => ⟨r, 0, rfl, b.lt, fun i hi => by rw [Nat.zero_add]; exact b.word hi⟩⟩
def pcs (rs n cs rt T ct : Nat) (vw : Value) (left round next pick gen place size how steps begun : Int) : Array Value :=
  #[.slice (some ⟨rs, 0, none⟩) n cs, .slice (some ⟨rt, 0, none⟩) T ct, .int .i64 left, .int .i64 round, .int .i64 next, .int .i64 pick, .int .u64 gen, .int .i64 place, .int .i64 size, vw, .int .i64 how, .int .i64 steps, .int .i64 begun]
/-- a poll in memory: its block o, its subscriptions in rs, its topics in rt, its words (none as yet, or in q) -/
structure PAt (w : World) (o rs cs rt ct q : Nat) (vw : Value) (c : PC) (x : PX) : Prop where
  box : Blk w o 101 (pcs rs c.n cs rt c.T ct vw x.left x.round x.next x.pick x.gen x.place x.size x.how x.steps x.begun)
  subs : SubsIn w rs c.n (c.sub x.cu)
  tops : TopsIn w rt c.T c.tp x.gl
  row : OwnR w vw x.words
  qlt : q < w.heap.size
  apart : rs ≠ o ∧ rt ≠ o ∧ rs ≠ rt
  wap : ∀ k, vw.ownBlock = some k → k = q ∧ k ≠ o ∧ k ≠ rs ∧ k ≠ rt
theorem PAt.ex {T : Nat → Prop} {w w' : World} {o rs cs rt ct q : Nat} {vw : Value} {c : PC} {x : PX} (h : PAt w o rs cs rt ct q vw c x) (p : Ex T w w') (ho : ¬ T o) (hs : ¬ T rs) (ht : ¬ T rt) (hq : ¬ T q) : PAt w' o rs cs rt ct q vw c x :=
  ⟨h.box.ex p ho, h.subs.ex p hs, h.tops.ex p ht, h.row.ex p (fun k hk hT => hq ((h.wap k hk).1 ▸ hT)), Nat.lt_of_lt_of_le h.qlt p.size, h.apart, h.wap⟩
theorem PAt.bl {w w' : World} {o rs cs rt ct q : Nat} {vw : Value} {c : PC} {x : PX} (h : PAt w o rs cs rt ct q vw c x) (hb : Below w.heap.size w w') : PAt w' o rs cs rt ct q vw c x :=
  h.ex (T := fun _ => False) (Ex.of_below hb) (fun h => h) (fun h => h) (fun h => h) (fun h => h)
/-- for each subscription, which generation was found -/
def gensL (c : PC) (gl : List Int) : List Int := (List.range c.n).map fun i => nth gl (c.ix i)
theorem gensL_len (c : PC) (gl : List Int) : (gensL c gl).length = c.n := by simp [gensL]
theorem gensL_nth (c : PC) (gl : List Int) {i : Nat} (hi : i < c.n) : nth (gensL c gl) i = nth gl (c.ix i) := by simp [gensL, nth, hi]
theorem nth_set (xs : List Int) (i j : Nat) (x : Int) (hi : i < xs.length) : nth (xs.set i x) j = if j = i then x else nth xs j := by
  unfold nth
  simp only [List.getD_eq_getElem?_getD, List.getElem?_set]
  by_cases h : i = j
  · subst h; simp [hi]
  · rw [if_neg h, if_neg (fun e => h e.symm)]
set_option maxRecDepth 100000 in
set_option maxHeartbeats 8000000 in
theorem gens_any (o rs cs rt ct q : Nat) (vw : Value) (c : PC) (x : PX) (w : World) (h : PAt w o rs cs rt ct q vw c x) (hc : c.Ok) :
    Calls Try.prog 42 #[.pointer (some ⟨o, 0, none⟩)] w fun e w' => ∃ r, e = .returned (.slice (some ⟨r, 0, none⟩) c.n c.n) ∧ w.heap.size ≤ r ∧ URow w' r (gensL c x.gl) ∧ Below w.heap.size w w' := by
  obtain ⟨n, T, tn, rk, tp, ix⟩ := c
  obtain ⟨left, round, next, pick, gen, place, size, how, steps, begun, words, gl, cu⟩ := x
  have HC := Lib.hid hc
  have HGN := Lib.hid (fun i (hi : i < n) => gensL_nth ⟨n, T, tn, rk, tp, ix⟩ gl hi)
  have HGL := Lib.hid (gensL_len ⟨n, T, tn, rk, tp, ix⟩ gl)
  obtain ⟨gL, hgL⟩ : ∃ gL, gensL ⟨n, T, tn, rk, tp, ix⟩ gl = gL := ⟨_, rfl⟩
  simp only [hgL] at HGN HGL ⊢
  clear hgL
  have B0 := Lib.hid h.box
  have S0 := Lib.hid h.subs
  have P0 := Lib.hid h.tops
  have N64 := Lib.hid (show n ≤ 64 from hc.n64)
  have T64 := Lib.hid (show T ≤ maxLen from by have h1 : T ≤ n := hc.tn; have := N64.out; unfold maxLen; omega)
  clear h hc
  unfold pcs at B0
  simp only at B0 S0 P0 HGN HGL ⊢
  have hmk := make_words n (by have := N64.out; omega) w
  have b0 := B0.out.cell 0
  simp only [List.getElem?_toArray, List.getElem?_cons_zero, List.getElem?_cons_succ] at b0
  have b0a : (w.alloc (.cells ((zeros n).map (Value.int .u64)).toArray 32)).cell? ⟨o, 0, none⟩ = some (.slice (some ⟨rs, 0, none⟩) n cs) := Lib.cell?_alloc_some _ b0
  go_enter Try.func42, Try.ntmps42
  go_wp2_with fail
  clear hmk b0 b0a
  have hn := Blk.new w 32 ((zeros n).map (Value.int .u64)).toArray
  have hb := (Below.refl w.heap.size w).alloc (Nat.le_refl _) (.cells ((zeros n).map (Value.int .u64)).toArray 32)
  obtain ⟨r, hr⟩ : ∃ r, w.heap.size = r := ⟨_, rfl⟩
  have HR := Lib.hid hr
  simp only [hr] at hn ⊢
  clear hr
  generalize w.alloc (.cells ((zeros n).map (Value.int .u64)).toArray 32) = w1 at *
  have U1 := Lib.hid (show URow w1 r (zeros n) from hn)
  have L1 := Lib.hid hb
  clear hn hb
  go_loopw [4, 5, 6, 18] (fun s4 s5 s6 s18 wr => ∃ i : Nat, i ≤ n ∧ s18 = .int .i64 i ∧ (∃ L, URow wr r L ∧ L.length = n ∧ ∀ j, j < i → nth L j = nth gl (ix j)) ∧ Below w.heap.size w wr) (fun s4 s5 s6 s18 _ => n - (intOf s18).toNat)
  case atStart => exact ⟨0, by omega, rfl, ⟨_, U1.out, by simp [zeros], fun j hj => absurd hj (by omega)⟩, L1.out⟩
  case round =>
    obtain ⟨i, hi, rfl, ⟨L, hu, hlen, hL⟩, hl⟩ := hrel
    have HL := Lib.hid hL
    have HLEN := Lib.hid hlen
    have U0 := Lib.hid hu
    have L0 := Lib.hid hl
    clear hL hlen hu hl
    by_cases hlt : i < n
    · have kd : decide ((i : Int) < (n : Int)) = true := decide_eq_true (by omega)
      have ki0 : (0 : Int) ≤ (i : Int) := by omega
      have ki1 : (i : Int) < (n : Int) := by omega
      have HI := Lib.hid hlt
      clear hi hlt
      obtain ⟨hx1, hx2⟩ := HC.out.ix i HI.out
      simp only at hx1 hx2
      have HX1 := Lib.hid hx1
      have HX2 := Lib.hid hx2
      clear hx1 hx2
      obtain ⟨c0, c1, c2, c3, c4, c5⟩ := (S0.out.bl L0.out).six HI.out
      simp only [PC.sub] at c0 c1 c2 c3 c4 c5
      have HM := Lib.hid (turn_no i n HI.out (by have := N64.out; unfold maxLen; omega))
      have hba := (Below.refl wr.heap.size wr).alloc (Nat.le_refl _) (.cells #[.int .i64 (tn i), .int .i64 (rk i), .int .u64 (cu i).next, .int .i64 (cu i).cap, .int .u64 (cu i).got, .int .u64 (cu i).lost] 46)
      have hna := Blk.new wr 46 #[.int .i64 (tn i), .int .i64 (rk i), .int .u64 (cu i).next, .int .i64 (cu i).cap, .int .u64 (cu i).got, .int .u64 (cu i).lost]
      have L2 := Lib.hid (bl L0.out hba)
      have U2 := Lib.hid (U0.out.bl hba)
      have X2 := Lib.hid hna
      have b0 := (B0.out.bl L2.out).cell 0
      have b1 := (B0.out.bl L2.out).cell 1
      simp only [List.getElem?_toArray, List.getElem?_cons_zero, List.getElem?_cons_succ] at b0 b1
      clear hba hna
      go_wp2_with fail
      obtain ⟨xb, hxb⟩ : ∃ xb, wr.heap.size = xb := ⟨_, rfl⟩
      simp only [hxb] at X2 ⊢
      clear hxb c0 c1 c2 c3 c4 c5
      generalize wr.alloc (.cells #[.int .i64 (tn i), .int .i64 (rk i), .int .u64 (cu i).next, .int .i64 (cu i).cap, .int .u64 (cu i).got, .int .u64 (cu i).lost] 46) = w2 at *
      refine (gen1_index _ T tp gl (tn i) xb w2 ((P0.out.bl L2.out).tps T64.out) (fun j hj W hW => gen1_any (tp j) (nth gl j) (tn i) xb W ((hW.cell (p := ⟨xb, 0, none⟩) X2.out.lt).trans (X2.out.cell 0)))).mono ?_; rintro e w3 ⟨z, rfl, hz, hb3⟩
      have hzz := hz.at_ HX1.out HX2.out HC.out.inj
      subst hzz
      have L3 := Lib.hid (bl L2.out hb3)
      have U3 := Lib.hid (U2.out.bl hb3)
      clear hz hb3 b0 b1
      have b1 := (B0.out.bl L3.out).cell 1
      simp only [List.getElem?_toArray, List.getElem?_cons_zero, List.getElem?_cons_succ] at b1
      have b0 := (B0.out.bl L3.out).cell 0
      simp only [List.getElem?_toArray, List.getElem?_cons_zero, List.getElem?_cons_succ] at b0
      have t6 := (P0.out.bl L3.out).cells (ix i) HX1.out 6 (by decide)
      simp only [topC] at t6
      have u1 := U3.out.word (i := i) (by rw [HLEN.out]; exact HI.out)
      have u2 := Blk.frozen U3.out i
      have z0 : (0 : Int) ≤ (ix i : Int) := by omega
      have z1 : ((ix i : Nat) : Int) < (T : Int) := by have := HX1.out; omega
      go_wp2_with fail
      have hee := (Below.refl w.heap.size w3).setCell (p := ⟨r, i, none⟩) (Nat.le_of_eq HR.out) (.int .u64 (nth gl (ix i)))
      have L4 := Lib.hid (L3.out.trans hee)
      have U4 := Lib.hid (U3.out.stored i (nth gl (ix i)))
      clear b0 b1 t6 u1 u2 hee
      generalize w3.setCell ⟨r, i, none⟩ (.int .u64 (nth gl (ix i))) = w4 at *
      go_roundw
      case rel => exact ⟨i + 1, HI.out, HM.out.1, ⟨_, U4.out, by rw [List.length_set]; exact HLEN.out, fun j hj => by
          rw [nth_set _ _ _ _ (by rw [HLEN.out]; exact HI.out)]
          by_cases e : j = i
          · rw [if_pos e, e]
          · rw [if_neg e]; exact HL.out j (by omega)⟩, L4.out⟩
      case measure => exact HM.out.2
    · obtain rfl : i = n := by omega
      have kd : decide ((i : Int) < (i : Int)) = false := decide_eq_false (by omega)
      have hLL : L = gL := eq_of_nth (by rw [HLEN.out, HGL.out]) (fun j hj => by
        rw [HLEN.out] at hj
        rw [HL.out j hj]
        exact (HGN.out j hj).symm)
      subst hLL
      go_wp2_with fail
      go_ret
      exact ⟨r, rfl, Nat.le_of_eq HR.out, U0.out, L0.out⟩
end Go.Proofs.Ythcaagkgddeabaa.Bank
