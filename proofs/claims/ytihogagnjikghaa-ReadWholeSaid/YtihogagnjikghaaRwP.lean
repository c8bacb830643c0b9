/-
  ReadWhole: what holds of the publishings, the reading and what was published, in plain numbers. Conditions stand at each. By an AI agent.
-/
import Derived.Test.YtihogagnjikghaaRwM
namespace Go.Proofs.Ytihogagnjikghaa.Bank
set_option linter.unusedVariables false
set_option linter.unusedSimpArgs false
open Go Go.RowKit Go.Proofs.Ytihogagnjikghaa.Base
def recsF (m : Nat) (xs : Nat → List Int) (dl : List Nat) (g : Nat) : List Int := if g = 0 then zeros m else xs (gnth dl (g - 1))
def xsO (st : Nat → Option O1) : PXs := fun k => (st k).map (·.x)
theorem xsO_upd (st : Nat → Option O1) (k : Nat) (y : Option O1) : xsO (updX st k y) = updX (xsO st) k (y.map (·.x)) := by
  funext j
  unfold xsO updX
  split <;> rfl
theorem rc_upd (xs : Nat → List Int) (mi : Nat → Nat) (k j : Nat) : (fun i => xs (updX mi k j i)) = updX (fun i => xs (mi i)) k (xs j) := by
  funext i
  unfold updX
  split <;> rfl
theorem recsF_push (m : Nat) (xs : Nat → List Int) (dl : List Nat) (z : Nat) : recsF m xs (dl ++ [z]) = updX (recsF m xs dl) (dl.length + 1) (xs z) := by
  funext g
  show (if g = 0 then zeros m else xs (gnth (dl ++ [z]) (g - 1))) = if g = dl.length + 1 then xs z else (if g = 0 then zeros m else xs (gnth dl (g - 1)))
  by_cases h0 : g = 0
  · rw [if_pos h0, if_neg (by omega), if_pos h0]
  · rw [if_neg h0, gnth_push]
    by_cases h1 : g = dl.length + 1
    · rw [if_pos h1, if_neg (by omega), if_pos (by omega)]
    · rw [if_neg h1, if_neg h0]
      by_cases h2 : g - 1 < dl.length
      · rw [if_pos h2]
      · rw [if_neg h2, if_neg (by omega)]
        unfold gnth
        rw [List.getD_eq_getElem?_getD, List.getElem?_eq_none (by omega)]
        rfl
theorem spotB_zero (m d : Nat) : spotB 0 m d = spotOf m d := rfl
structure Pur (m d n : Nat) (T : Int) (vs : Nat → Value) (xs : Nat → List Int) (ws : List Int) (mi : Nat → Nat) (st : Nat → Option O1) (mv : Nat → Value) (dl nl : List Nat) (rd : Option R1) (hd : Int) : Prop where
  ti : TI 0 m d 2 (recsF m xs dl) (fun k => xs (mi k)) (xsO st) hd dl.length ws
  inv : ∀ k s, k < 2 → st k = some s → WInv (spotOf m d) (xs (mi k)) 16 s.x ∧ mv k = vs (mi k) ∧ mi k < n
  dls : ∀ j, j < dl.length → gnth dl j < n
  nls : ∀ j, j < nl.length → gnth nl j ≤ dl.length
  rds : ∀ s, rd = some s → RInv (spotOf m d) T s.x s.got ∧ RI d T (recsF m xs dl) dl.length (newTI dl.length hd) s.x s.got nl
section
variable {m d n : Nat} {T : Int} {vs : Nat → Value} {xs : Nat → List Int} {ws : List Int} {mi : Nat → Nat} {st : Nat → Option O1} {mv : Nat → Value} {dl nl : List Nat} {rd : Option R1} {hd : Int}
theorem Pur.zero : Pur m d n T vs xs (zeros (2 + m * d)) mi (fun _ => none) mv [] [] none (-1) := by
  refine ⟨⟨by simp [zeros], fun k x _ h => (by cases h), fun k x _ h => (by cases h), fun h => (by omega), fun _ => ⟨rfl, by rw [nth_zeros]; rfl⟩, fun h => (by omega), fun g hg _ j hj => ?_⟩, fun k s _ h => (by cases h), fun j h => (by simp at h), fun j h => (by simp at h), fun s h => (by cases h)⟩
  have : g = 0 := by simpa using hg
  subst this
  rw [nth_zeros]
  exact (nth_zeros m j).symm
theorem Pur.busy (P : Pur m d n T vs xs ws mi st mv dl nl rd hd) {k : Nat} (hk : k < 2) {s : O1} (hs : st k = some s) : s.x.how = 0 := P.ti.busy k s.x hk (by unfold xsO; rw [hs]; rfl)
theorem Pur.new (P : Pur m d n T vs xs ws mi st mv dl nl rd hd) (hm : mayF (spotOf m d) 16 = true) {k j : Nat} (hk : k < 2) (hs : st k = none) (hj : j < n) (hl : (xs j).length = m) (hf : ∀ y ∈ xs j, 0 ≤ y ∧ y ≤ 18446744073709551615) {s : O1} (hx : s.x = WS.zero) :
    Pur m d n T vs xs ws (updX mi k j) (updX st k (some s)) (updX mv k (vs j)) dl nl rd hd := by
  refine ⟨?_, fun i a hi ha => ?_, P.dls, P.nls, P.rds⟩
  · rw [rc_upd, xsO_upd]
    exact P.ti.new hk (by unfold xsO; rw [hs]; rfl) (xs j) (by show s.x.how = 0 ∧ s.x.next = 0; rw [hx]; exact ⟨rfl, rfl⟩)
  · by_cases e : i = k
    · subst e
      rw [updX_self] at ha
      injection ha with ha
      subst ha
      rw [updX_self, updX_self]
      exact ⟨by rw [hx]; exact WInv.zero_ hm (by rw [hl]; rfl) hf, rfl, hj⟩
    · rw [updX_ne _ _ e] at ha
      rw [updX_ne _ _ e, updX_ne _ _ e]
      exact P.inv i a hi ha
theorem Pur.wstep (P : Pur m d n T vs xs ws mi st mv dl nl rd hd) (hm : 1 ≤ m ∧ m ≤ 64) (hd2 : 2 ≤ d ∧ d ≤ 16) (hN : dl.length ≤ 1000000) (hl : ∀ j, j < n → (xs j).length = m) (hw : ∀ y ∈ ws, 0 ≤ y ∧ y ≤ 18446744073709551615) {k : Nat} (hk : k < 2) {s : O1} (hs : st k = some s) (t : Int) {x' : WS} {ws' : List Int} {t' : Int} (he : wStep (spotOf m d) (xs (mi k)) 16 s.x ws t = (x', ws', t')) :
    (x'.how = 0 ∧ ∃ h', Pur m d n T vs xs ws' mi (updX st k (some { s with x := x' })) mv dl nl rd h') ∨
    (x'.how = 2 ∧ ∃ h', Pur m d n T vs xs ws' mi (updX st k none) mv dl nl rd h') ∨
    (x'.how = 1 ∧ x'.gen = (dl.length : Int) + 1 ∧ mv k = vs (mi k) ∧ mi k < n ∧ ∃ h', Pur m d n T vs xs ws' mi (updX st k none) mv (dl ++ [mi k]) nl rd h') := by
  obtain ⟨hi, hmv, hmn⟩ := P.inv k s hk hs
  have hx : xsO st k = some s.x := by unfold xsO; rw [hs]; rfl
  have hwi : WInv (spotOf m d) (xs (mi k)) 16 x' := by
    have := hi.step ws t hw
    rw [he] at this
    exact this
  obtain ⟨_, _, h⟩ := P.ti.step hm hd2 (by omega) hN hk hx (tries := 16) hi (hl _ hmn) t he
  have hno : ∀ i a, i < 2 → updX st k none i = some a → WInv (spotOf m d) (xs (mi i)) 16 a.x ∧ mv i = vs (mi i) ∧ mi i < n := fun i a hi2 ha => by
    by_cases e : i = k
    · subst e; rw [updX_self] at ha; cases ha
    · rw [updX_ne _ _ e] at ha; exact P.inv i a hi2 ha
  rcases h with ⟨h0, h', hle, hti⟩ | ⟨h2, _, hti⟩ | ⟨h1, hh, hg, hti⟩
  · refine .inl ⟨h0, h', by rw [xsO_upd]; exact hti, fun i a hi2 ha => ?_, P.dls, P.nls, fun a ha => ?_⟩
    · by_cases e : i = k
      · subst e
        rw [updX_self] at ha
        injection ha with ha
        subst ha
        exact ⟨hwi, hmv, hmn⟩
      · rw [updX_ne _ _ e] at ha; exact P.inv i a hi2 ha
    · obtain ⟨a1, a2⟩ := P.rds a ha
      exact ⟨a1, a2.mono (Nat.le_refl _) (by unfold newTI; split <;> split <;> omega) (fun _ _ => rfl)⟩
  · exact .inr (.inl ⟨h2, hd, by rw [xsO_upd]; exact hti, hno, P.dls, P.nls, P.rds⟩)
  · refine .inr (.inr ⟨h1, hg, hmv, hmn, -1, ?_, hno, fun j hj => ?_, fun j hj => ?_, fun a ha => ?_⟩)
    · rw [xsO_upd, recsF_push, List.length_append]
      exact hti
    · rw [gnth_push]
      rw [List.length_append] at hj
      simp only [List.length_cons, List.length_nil] at hj
      split
      · exact P.dls j (by assumption)
      · rw [if_pos (by omega)]; exact hmn
    · have := P.nls j hj
      rw [List.length_append]
      omega
    · obtain ⟨a1, a2⟩ := P.rds a ha
      refine ⟨a1, a2.mono (by rw [List.length_append]; omega) ?_ (fun g hg2 => ?_)⟩
      · rw [List.length_append]
        unfold newTI
        rw [if_neg (by omega), if_pos (by omega)]
        exact Nat.le_refl _
      · rw [recsF_push, updX_ne _ _ (by omega)]
theorem Pur.rnew (P : Pur m d n T vs xs ws mi st mv dl nl none hd) (hm : mayF (spotOf m d) T = true) {s : R1} (hx : s.x = RS.zero) (hg : s.got = zeros m) : Pur m d n T vs xs ws mi st mv dl [] (some s) hd :=
  ⟨P.ti, P.inv, P.dls, fun j h => (by simp at h), fun a ha => by
    injection ha with ha
    subst ha
    rw [hx, hg]
    exact ⟨RInv.zero_ hm, RI.zero _ _ _ _ _ _⟩⟩
theorem recsF_len (hl : ∀ j, j < n → (xs j).length = m) (hd : ∀ j, j < dl.length → gnth dl j < n) {g : Nat} (hg : g ≤ dl.length) : (recsF m xs dl g).length = m := by
  unfold recsF
  split
  · simp [zeros]
  · exact hl _ (hd _ (by omega))
theorem Pur.noRd (P : Pur m d n T vs xs ws mi st mv dl nl rd hd) : Pur m d n T vs xs ws mi st mv dl nl none hd := ⟨P.ti, P.inv, P.dls, P.nls, fun s h => by cases h⟩
theorem Pur.rstep (P : Pur m d n T vs xs ws mi st mv dl nl rd hd) (hm : 1 ≤ m ∧ m ≤ 64) (hd2 : 2 ≤ d ∧ d ≤ 16) (hN : dl.length ≤ 1000000) (hl : ∀ j, j < n → (xs j).length = m) (hw : ∀ y ∈ ws, 0 ≤ y ∧ y ≤ 18446744073709551615) {s : R1} (hs : rd = some s) (t : Int) {x' : RS} {got' : List Int} {t' : Int} (he : rdStep (spotOf m d) T s.x s.got ws t = (x', got', t')) :
    x'.steps = ((nl ++ [dl.length]).length : Int) ∧ x'.steps ≤ mostR (spotOf m d) T ∧ RInv (spotOf m d) T x' got' ∧
    ((x'.how = 0 ∧ Pur m d n T vs xs ws mi st mv dl (nl ++ [dl.length]) (some { s with x := x', got := got' }) hd) ∨
     (x'.how = 1 ∧ 1 ≤ x'.begun ∧ x'.begun ≤ ((nl ++ [dl.length]).length : Int) ∧ x'.gen = gnth (nl ++ [dl.length]) (x'.begun - 1).toNat ∧ gnth (nl ++ [dl.length]) (x'.begun - 1).toNat ≤ dl.length ∧ got' = recsF m xs dl (gnth (nl ++ [dl.length]) (x'.begun - 1).toNat) ∧ Pur m d n T vs xs ws mi st mv dl (nl ++ [dl.length]) none hd) ∨
     (x'.how = 2 ∧ (gnth (nl ++ [dl.length]) 0 : Int) + T * ((d : Int) - 1) ≤ dl.length ∧ Pur m d n T vs xs ws mi st mv dl (nl ++ [dl.length]) none hd)) := by
  obtain ⟨hi, hr⟩ := P.rds s hs
  have hinv : RInv (spotOf m d) T x' got' := by
    have := hi.step ws t hw
    rw [he] at this
    exact this
  have hmost : x'.steps ≤ mostR (spotOf m d) T := by
    have h1 := hinv.most.2
    unfold mostR mayF
    rw [if_pos (decide_eq_true ⟨hinv.right, hinv.tr⟩)]
    exact h1
  have hnl : ∀ j, j < (nl ++ [dl.length]).length → gnth (nl ++ [dl.length]) j ≤ dl.length := fun j hj => by
    rw [gnth_push]
    rw [List.length_append] at hj
    simp only [List.length_cons, List.length_nil] at hj
    split
    · exact P.nls j (by assumption)
    · rw [if_pos (by omega)]
      exact Nat.le_refl _
  have Pn : Pur m d n T vs xs ws mi st mv dl (nl ++ [dl.length]) none hd := ⟨P.ti, P.inv, P.dls, hnl, fun s h => by cases h⟩
  obtain ⟨h0, h⟩ := RI.step P.ti hm hd2 (by omega) hN hr hi (fun g hg => recsF_len hl P.dls hg) t he
  refine ⟨by rw [h0, List.length_append]; simp, hmost, hinv, ?_⟩
  rcases h with ⟨h1, h2⟩ | ⟨h1, h2, h3, h4, h5, h6⟩ | ⟨h1, h2⟩
  · exact .inl ⟨h1, P.ti, P.inv, P.dls, hnl, fun a ha => by injection ha with ha; subst ha; exact ⟨hinv, h2⟩⟩
  · refine .inr (.inl ⟨h1, h2, by rw [List.length_append]; simpa using h3, h4, by omega, ?_, Pn⟩)
    rw [h6, h4]
    rw [Int.toNat_natCast]
  · exact .inr (.inr ⟨h1, h2, Pn⟩)
end
/-- where the loop begins -/
theorem Mem.start {w0 w : World} {g h xb sb m d : Nat} {T : Int} {ws : List Int} {rc : Nat → List Int} (hl : Below w0.heap.size w0 w) (hq : w0.heap.size ≤ xb ∧ xb < h ∧ h < g ∧ g < w.heap.size ∧ xb < sb ∧ sb < w.heap.size ∧ sb ≠ g ∧ sb ≠ h) (hk : BankAt w g h ws 0)
    (hx : Blk w xb 58 #[.int .i64 d, .int .i64 T]) (hs : Blk w sb 23 #[.int .i64 0, .int .i64 1, .int .i64 2, .int .i64 m, .int .i64 d]) :
    Mem w0 ((((w.alloc (.cells ((zeros m).map (Value.int .u64)).toArray 43)).alloc (.cells #[.slice (some ⟨w.heap.size, 0, none⟩) m m] 42)).alloc (.cells #[.pointer none, .pointer none] 63)).alloc (.cells #[.slice none 0 0, .slice none 0 0] 64))
      ⟨g, h, xb, sb, w.heap.size, w.heap.size + 1 + 1, w.heap.size + 1 + 1 + 1, m, d, T⟩ (fun b => if b = w.heap.size + 1 then 1 else 0) ws 0 rc (fun _ => none) (fun _ => .slice none 0 0) (.slice (some ⟨w.heap.size + 1, 0, none⟩) 1 1) [.slice (some ⟨w.heap.size, 0, none⟩) m m] (.slice none 0 0) [] none := by
  have s1 : (w.alloc (.cells ((zeros m).map (Value.int .u64)).toArray 43)).heap.size = w.heap.size + 1 := by simp
  generalize h1 : w.alloc (.cells ((zeros m).map (Value.int .u64)).toArray 43) = w1 at *
  have b1 : Blk w1 w.heap.size 43 ((zeros m).map (Value.int .u64)).toArray := h1 ▸ Blk.new w 43 _
  have e1 : Below w.heap.size w w1 := h1 ▸ (Below.refl _ _).alloc (Nat.le_refl _) _
  have s2 : (w1.alloc (.cells #[.slice (some ⟨w.heap.size, 0, none⟩) m m] 42)).heap.size = w.heap.size + 1 + 1 := by simp [s1]
  generalize h2 : w1.alloc (.cells #[.slice (some ⟨w.heap.size, 0, none⟩) m m] 42) = w2 at *
  have b2 : Blk w2 (w.heap.size + 1) 42 #[.slice (some ⟨w.heap.size, 0, none⟩) m m] := s1 ▸ h2 ▸ Blk.new w1 42 _
  have e2 : Below w1.heap.size w1 w2 := h2 ▸ (Below.refl _ _).alloc (Nat.le_refl _) _
  have s3 : (w2.alloc (.cells #[.pointer none, .pointer none] 63)).heap.size = w.heap.size + 1 + 1 + 1 := by simp [s2]
  generalize h3 : w2.alloc (.cells #[.pointer none, .pointer none] 63) = w3 at *
  have b3 : Blk w3 (w.heap.size + 1 + 1) 63 #[.pointer none, .pointer none] := s2 ▸ h3 ▸ Blk.new w2 63 _
  have e3 : Below w2.heap.size w2 w3 := h3 ▸ (Below.refl _ _).alloc (Nat.le_refl _) _
  have s4 : (w3.alloc (.cells #[.slice none 0 0, .slice none 0 0] 64)).heap.size = w.heap.size + 1 + 1 + 1 + 1 := by simp [s3]
  generalize h4 : w3.alloc (.cells #[.slice none 0 0, .slice none 0 0] 64) = w4 at *
  have b4 : Blk w4 (w.heap.size + 1 + 1 + 1) 64 #[.slice none 0 0, .slice none 0 0] := s3 ▸ h4 ▸ Blk.new w3 64 _
  have e4 : Below w3.heap.size w3 w4 := h4 ▸ (Below.refl _ _).alloc (Nat.le_refl _) _
  have e : Below w.heap.size w w4 := Base.bl (Base.bl (Base.bl e1 e2) e3) e4
  have e24 : Below w2.heap.size w2 w4 := Base.bl e3 e4
  have hz : w0.heap.size ≤ w.heap.size := hl.size
  refine ⟨Base.bl hl e, ?_, ?_, hk.below e, hx.bl e, hs.bl e, Row.bl (show Row w1 w.heap.size (zeros m) from b1) (Base.bl e2 e24), b4, b3.bl e4, fun k s _ h => (by cases h), ⟨⟨rfl, .inr ⟨w.heap.size + 1, 1, #[.slice (some ⟨w.heap.size, 0, none⟩) m m], rfl, by omega, b2.bl e24, Nat.le_refl _, by unfold maxLen; omega, rfl, rfl⟩⟩, fun b hb => ?_⟩, ⟨World.ownsRow_nil _ _ _ _, fun b hb => (by cases hb)⟩, fun s h => (by cases h)⟩
  · show w0.heap.size ≤ xb ∧ xb < h ∧ h < g ∧ xb < sb ∧ sb ≠ g ∧ sb ≠ h ∧ g < w.heap.size ∧ sb < w.heap.size ∧ w.heap.size < w.heap.size + 1 + 1 ∧ w.heap.size + 1 + 1 < w.heap.size + 1 + 1 + 1 ∧ w.heap.size + 1 + 1 + 1 < w4.heap.size
    omega
  · exact ⟨if_neg (by show ¬ g = _; omega), if_neg (by show ¬ h = _; omega), if_neg (by show ¬ xb = _; omega), if_neg (by show ¬ sb = _; omega), if_neg (by show ¬ w.heap.size = _; omega), if_neg (by show ¬ w.heap.size + 1 + 1 = _; omega), if_neg (by show ¬ w.heap.size + 1 + 1 + 1 = _; omega)⟩
  · injection hb with hb
    exact if_pos hb.symm
theorem two_at {α : Type} (f : Nat → α) {k : Nat} (hk : k < 2) : (#[f 0, f 1] : Array α)[k]? = some (f k) := by
  rcases (show k = 0 ∨ k = 1 by omega) with rfl | rfl <;> rfl
theorem two_atO (f : Nat → Option O1) {k : Nat} (hk : k < 2) : (#[opV (f 0), opV (f 1)] : Array Value)[k]? = some (opV (f k)) := by
  rcases (show k = 0 ∨ k = 1 by omega) with rfl | rfl <;> rfl
theorem Mem.opc {w0 w : World} {p : Par} {lam : Nat → Nat} {ws : List Int} {t : Int} {rc : Nat → List Int} {st : Nat → Option O1} {mv : Nat → Value} {dv nv : Value} {vals : List Value} {nl : List Nat} {rd : Option R1} (M : Mem w0 w p lam ws t rc st mv dv vals nv nl rd) {k : Nat} (hk : k < 2) : w.cell? ⟨p.ob, k, none⟩ = some (opV (st k)) ∧ w.frozen? ⟨p.ob, k, none⟩ = false :=
  ⟨by rw [M.opsr.cell]; exact two_atO st hk, M.opsr.frozen k⟩
theorem Mem.mic {w0 w : World} {p : Par} {lam : Nat → Nat} {ws : List Int} {t : Int} {rc : Nat → List Int} {st : Nat → Option O1} {mv : Nat → Value} {dv nv : Value} {vals : List Value} {nl : List Nat} {rd : Option R1} (M : Mem w0 w p lam ws t rc st mv dv vals nv nl rd) {k : Nat} (hk : k < 2) : w.cell? ⟨p.mb, k, none⟩ = some (mv k) ∧ w.frozen? ⟨p.mb, k, none⟩ = false :=
  ⟨by rw [M.mine.cell]; exact two_at mv hk, M.mine.frozen k⟩
theorem mod4 (z : Int) : ∃ k : Nat, k < 4 ∧ wrap64 (z.tmod 4 + 4) = z.tmod 4 + 4 ∧ (z.tmod 4 + 4).tmod 4 = (k : Int) := by
  have h1 : z.tmod 4 < 4 := Int.tmod_lt_of_pos z (by omega)
  have h2 : -4 < z.tmod 4 := Int.lt_tmod_of_pos z (by omega)
  refine ⟨((z.tmod 4 + 4) % 4).toNat, by omega, by unfold wrap64; omega, ?_⟩
  rw [Int.tmod_eq_emod_of_nonneg (by omega)]
  omega
theorem Mem.opne {w0 w : World} {p : Par} {lam : Nat → Nat} {ws : List Int} {t : Int} {rc : Nat → List Int} {st : Nat → Option O1} {mv : Nat → Value} {dv nv : Value} {vals : List Value} {nl : List Nat} {rd : Option R1} (M : Mem w0 w p lam ws t rc st mv dv vals nv nl rd) {k : Nat} (hk : k < 2) {s : O1} (hs : st k = some s) : s.o ≠ p.g ∧ s.o ≠ p.h ∧ s.r ≠ p.g ∧ s.r ≠ p.h := by
  obtain ⟨_, _, _, d, e⟩ := M.ops k s hk hs
  obtain ⟨z1, z2, _⟩ := M.zero
  exact ⟨fun x => by rw [x] at d; omega, fun x => by rw [x] at d; omega, fun x => by rw [x] at e; omega, fun x => by rw [x] at e; omega⟩
theorem Mem.rdne {w0 w : World} {p : Par} {lam : Nat → Nat} {ws : List Int} {t : Int} {rc : Nat → List Int} {st : Nat → Option O1} {mv : Nat → Value} {dv nv : Value} {vals : List Value} {nl : List Nat} {rd : Option R1} (M : Mem w0 w p lam ws t rc st mv dv vals nv nl rd) {s : R1} (hs : rd = some s) : s.o ≠ p.g ∧ s.o ≠ p.h ∧ s.r ≠ p.g ∧ s.r ≠ p.h := by
  obtain ⟨_, _, _, d, e⟩ := M.rdr s hs
  obtain ⟨z1, z2, _⟩ := M.zero
  exact ⟨fun x => by rw [x] at d; omega, fun x => by rw [x] at d; omega, fun x => by rw [x] at e; omega, fun x => by rw [x] at e; omega⟩
theorem lam_new (lam : Nat → Nat) (N c : Nat) : ∃ f : Nat → Nat, (∀ b, b < N → f b = lam b) ∧ (∀ b, N ≤ b → f b = c) := ⟨fun b => if b < N then lam b else c, fun b hb => if_pos hb, fun b hb => if_neg (by omega)⟩
end Go.Proofs.Ytihogagnjikghaa.Bank
