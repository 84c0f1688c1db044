/-
  One byte of the reference's device is written.
-/
import Derived.Test.YticgkbpmaakkiaaDkNq
namespace Go.Proofs.Yticgkbpmaakkiaa
open Go.RowKit

/-- The reference's device with its raw slices. -/
structure RefS (w : World) (B : Nat) (dv wv : Value) (ss : List Raw) (ys : List (Int × Raw)) (D : Dsk) : Prop where
  r : RowsAt w B dv ss (fun i => D.at i)
  n : (ss.length : Int) = D.n
  w : WrsAt w B wv ys D.pend
  x : ∀ (i j : Nat) (s : Raw) (y : Int × Raw), ss[i]? = some s → ys[j]? = some y → s.1 ≠ y.2.1
theorem RefNew.s {w : World} {B : Nat} {dv wv : Value} {D : Dsk} (h : RefNew w B dv wv D) : ∃ ss ys, RefS w B dv wv ss ys D := by
  obtain ⟨ss, ys, h1, h2, h3, h4⟩ := h
  exact ⟨ss, ys, h1, h2, h3, h4⟩
theorem RefS.new {w : World} {B : Nat} {dv wv : Value} {ss : List Raw} {ys : List (Int × Raw)} {D : Dsk} (h : RefS w B dv wv ss ys D) : RefNew w B dv wv D := ⟨ss, ys, h.r, h.n, h.w, h.x⟩
theorem RefS.fr {w w' : World} {B : Nat} {dv wv : Value} {ss : List Raw} {ys : List (Int × Raw)} {D : Dsk} (h : RefS w B dv wv ss ys D) {S : Nat → Prop} (hf : Fr S w w') (hs : Apart w S) : RefS w' B dv wv ss ys D := ⟨h.r.fr hf hs, h.n, h.w.fr hf hs, h.x⟩
theorem RefS.to {w : World} {B : Nat} {dv wv : Value} {ss : List Raw} {ys : List (Int × Raw)} {D D' : Dsk} (h : RefS w B dv wv ss ys D) (h1 : D'.n = D.n) (h2 : D'.pend = D.pend) (h3 : ∀ i : Nat, (i : Int) < D.n → D'.at i = D.at i) : RefS w B dv wv ss ys D' := by
  refine ⟨⟨h.r.own, h.r.vb, fun i s hi => ?_, h.r.dj⟩, h.n.trans h1.symm, by rw [h2]; exact h.w, h.x⟩
  have hl := (List.getElem?_eq_some_iff.1 hi).1
  have := h.n
  show ∃ g cap, _ ∧ OwnB w _ (D'.at i).1 ∧ _
  rw [h3 i (by omega)]
  exact h.r.el i s hi

theorem OwnB.poke {w : World} {g cap : Nat} {l : List UInt8} (h : OwnB w (.slice (some ⟨g, 0, none⟩) 256 cap) l) (j : Nat) (b : UInt8) (hj : j < l.length) : OwnB (w.setCell ⟨g, j, none⟩ (.int .u8 (b.toNat : Int))) (.slice (some ⟨g, 0, none⟩) 256 cap) (l.set j b) :=
  Own.set1 (fun _ => rfl) h j b _ rfl hj
theorem OwnB.cell {w : World} {g cap : Nat} {l : List UInt8} (h : OwnB w (.slice (some ⟨g, 0, none⟩) 256 cap) l) (j : Nat) (b : UInt8) (hj : l[j]? = some b) : w.cell? ⟨g, j, none⟩ = some (.int .u8 (b.toNat : Int)) := by
  have := Own.elem elem5 h hj 0 _ rfl
  simpa using this
theorem OwnB.frozen {w : World} {g cap n : Nat} {l : List UInt8} (h : OwnB w (.slice (some ⟨g, 0, none⟩) n cap) l) (j : Nat) : w.frozen? ⟨g, j, none⟩ = false := by
  obtain ⟨cs, h⟩ := Own.typed h (b := g) rfl
  rcases ‹OwnB w _ l›.2 with ⟨hh, _⟩ | ⟨g', cap', cur, hv', hb, hg, _⟩
  · cases hh
  · cases hv'; exact frozenOf hg j

theorem sec_get (s : Sec) (j : Nat) (hj : j < 256) : ∃ b, s.1[j]? = some b := ⟨_, List.getElem?_eq_getElem (by rw [s.2]; exact hj)⟩

/-- A byte of sector i. -/
theorem RefS.poke {w : World} {B : Nat} {dv wv : Value} {ss : List Raw} {ys : List (Int × Raw)} {D D' : Dsk} (h : RefS w B dv wv ss ys D) {i g cap : Nat} (hi : ss[i]? = some (some ⟨g, 0, none⟩, 256, cap)) (j : Nat) (hj : j < 256) (b : UInt8)
    (h1 : D'.n = D.n) (h2 : D'.pend = D.pend) (h3 : (D'.at i).1 = (D.at i).1.set j b) (h4 : ∀ k : Nat, k ≠ i → D'.at k = D.at k) :
    RefS (w.setCell ⟨g, j, none⟩ (.int .u8 (b.toNat : Int))) B dv wv ss ys D' := by
  have hF : Fr (· = g) w (w.setCell ⟨g, j, none⟩ (.int .u8 (b.toNat : Int))) := (Fr.refl (· = g) w).setCell _ _ (fun _ => rfl)
  obtain ⟨g0, c0, e0, ho0, hb0⟩ := h.r.el i _ hi
  cases e0
  obtain ⟨cs, hcs⟩ := Own.typed ho0 (b := g) rfl
  have hk : ∀ {α : Type} {e : TypeId} {n : Nat} {enc : α → List Value} {v : Value} {l : List α}, e ≠ 5 → Own w e n enc v l → Own (w.setCell ⟨g, j, none⟩ (.int .u8 (b.toNat : Int))) e n enc v l := fun hne ho => ho.fr hF (fun b hb e => by
    obtain ⟨cs', h'⟩ := ho.typed hb
    rw [show b = g from e, hcs] at h'
    cases h'
    exact hne rfl)
  refine ⟨⟨hk (by decide) h.r.own, h.r.vb, fun k s hs => ?_, h.r.dj⟩, h.n.trans h1.symm, ?_, h.x⟩
  · obtain ⟨g', c', e', ho', hb'⟩ := h.r.el k s hs
    refine ⟨g', c', e', ?_, hb'⟩
    show OwnB _ _ (D'.at k).1
    by_cases e : k = i
    · subst e
      rw [hs] at hi
      rw [Option.some.inj hi] at e'
      cases e'
      rw [h3]
      exact ho'.poke j b (by rw [(D.at k).2]; exact hj)
    · rw [h4 k e]
      refine Own.fr hF ho' (fun b hb hg => ?_)
      have e2 : g' = g := (Option.some.inj hb).trans hg
      exact e (h.r.dj k i s _ hs hi (by rw [e', e2]))
  · rw [h2]
    refine ⟨hk (by decide) h.w.own, h.w.len, h.w.vb, fun k y x hy hx => ?_, h.w.dj⟩
    obtain ⟨e1, g', c', e', ho', hb'⟩ := h.w.el k y x hy hx
    refine ⟨e1, g', c', e', Own.fr hF ho' (fun b hb hg => ?_), hb'⟩
    have e2 : g' = g := (Option.some.inj hb).trans hg
    exact h.x i k _ y hi hy (by rw [e', e2])

/-- A byte of write i. -/
theorem RefS.pokeW {w : World} {B : Nat} {dv wv : Value} {ss : List Raw} {ys : List (Int × Raw)} {D D' : Dsk} (h : RefS w B dv wv ss ys D) {i g cap : Nat} {y0 : Int × Raw} {x0 : Int × Sec} (hi : ys[i]? = some y0) (hy0 : y0.2 = (some ⟨g, 0, none⟩, 256, cap)) (hx0 : D.pend[i]? = some x0) (j : Nat) (hj : j < 256) (b : UInt8)
    (s' : Sec) (hs' : s'.1 = x0.2.1.set j b) (h1 : D'.n = D.n) (h2 : D'.pend = D.pend.set i (x0.1, s')) (h4 : ∀ k : Nat, D'.at k = D.at k) :
    RefS (w.setCell ⟨g, j, none⟩ (.int .u8 (b.toNat : Int))) B dv wv ss ys D' := by
  have hF : Fr (· = g) w (w.setCell ⟨g, j, none⟩ (.int .u8 (b.toNat : Int))) := (Fr.refl (· = g) w).setCell _ _ (fun _ => rfl)
  obtain ⟨ey, g0, c0, e0, ho0, hb0⟩ := h.w.el i y0 x0 hi hx0
  rw [hy0] at e0
  cases e0
  obtain ⟨cs, hcs⟩ := Own.typed ho0 (b := g) rfl
  have hk : ∀ {α : Type} {e : TypeId} {n : Nat} {enc : α → List Value} {v : Value} {l : List α}, e ≠ 5 → Own w e n enc v l → Own (w.setCell ⟨g, j, none⟩ (.int .u8 (b.toNat : Int))) e n enc v l := fun hne ho => ho.fr hF (fun b hb e => by
    obtain ⟨cs', h'⟩ := ho.typed hb
    rw [show b = g from e, hcs] at h'
    cases h'
    exact hne rfl)
  refine ⟨⟨hk (by decide) h.r.own, h.r.vb, fun k s hs => ?_, h.r.dj⟩, h.n.trans h1.symm, ?_, h.x⟩
  · obtain ⟨g', c', e', ho', hb'⟩ := h.r.el k s hs
    refine ⟨g', c', e', ?_, hb'⟩
    show OwnB _ _ (D'.at k).1
    rw [h4 k]
    refine Own.fr hF ho' (fun b hb hg => ?_)
    have e2 : g' = g := (Option.some.inj hb).trans hg
    exact h.x k i s y0 hs hi (by rw [e', hy0, e2])
  · refine ⟨hk (by decide) h.w.own, by rw [h2, List.length_set]; exact h.w.len, h.w.vb, fun k y x hy hx => ?_, h.w.dj⟩
    rw [h2, List.getElem?_set] at hx
    by_cases e : i = k
    · subst e
      have hil : i < D.pend.length := (List.getElem?_eq_some_iff.1 hx0).1
      rw [if_pos rfl, if_pos hil] at hx
      obtain rfl := Option.some.inj hx
      rw [hi] at hy
      obtain rfl := Option.some.inj hy
      refine ⟨ey, g, cap, hy0, ?_, hb0⟩
      rw [hs']
      exact ho0.poke j b (by rw [x0.2.2]; exact hj)
    · rw [if_neg e] at hx
      obtain ⟨e1, g', c', e', ho', hb'⟩ := h.w.el k y x hy hx
      refine ⟨e1, g', c', e', Own.fr hF ho' (fun b hb hg => ?_), hb'⟩
      have e2 : g' = g := (Option.some.inj hb).trans hg
      exact e (h.w.dj i k y0 y hi hy (by rw [e', hy0, e2]))

/-! ### a torn sector, byte by byte -/
theorem tornL_set (s t : List UInt8) (k : Nat) (b : UInt8) (hs : s.length = 256) (ht : t.length = 256) (hk : k < 256) (hb : t[k]? = some b) : (tornL s t k).set k b = tornL s t (k + 1) := by
  unfold tornL
  apply List.ext_getElem?
  intro i
  simp only [List.getElem?_set, List.getElem?_append, List.getElem?_take, List.getElem?_drop, List.length_append, List.length_take, List.length_drop, hs, ht]
  have e1 : min k 256 = k := by omega
  have e2 : min (k + 1) 256 = k + 1 := by omega
  simp only [e1, e2]
  by_cases h1 : i < k
  · rw [if_neg (by omega), if_pos h1, if_pos h1, if_pos (by omega), if_pos (by omega)]
  · by_cases h2 : i = k
    · subst h2
      rw [if_pos rfl, if_pos (by omega), if_pos (by omega), if_pos (by omega), hb]
    · rw [if_neg (by omega), if_neg h1, if_neg (by omega)]
      congr 1
      omega
theorem tornL_zero (s t : List UInt8) : tornL s t 0 = s := by simp [tornL]
theorem tornL_all (s t : List UInt8) (hs : s.length = 256) (ht : t.length = 256) : tornL s t 256 = t := by
  unfold tornL
  rw [List.take_of_length_le (by omega), List.drop_of_length_le (by omega), List.append_nil]

def tornS (s t : Sec) (k : Nat) (hk : k ≤ 256) : Sec := ⟨tornL s.1 t.1 k, tornL_length s t k hk⟩
def fateN (c : UInt8) : Nat := if c.toNat % 3 = 0 then 0 else if c.toNat % 3 = 1 then 256 else tornN c
theorem fateN_le (c : UInt8) : fateN c ≤ 256 := by
  unfold fateN
  have := tornN_le c
  split
  · omega
  · split <;> omega
theorem fateOf_torn (s t : Sec) (c : UInt8) : fateOf s t c = tornS s t (fateN c) (fateN_le c) := by
  apply Subtype.ext
  unfold fateOf tornS fateN
  by_cases h0 : c.toNat % 3 = 0
  · simp only [h0, if_true, tornL_zero]
  · by_cases h1 : c.toNat % 3 = 1
    · simp only [h1, if_true]
      simp [tornL_all _ _ s.2 t.2]
    · simp only [h0, h1, if_false]; rfl
end Go.Proofs.Yticgkbpmaakkiaa
