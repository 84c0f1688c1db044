/-
  VisibilityHole: the plain law; two lists put together.
-/
import Derived.Test.YtfemaeacmnhdlaaVG
namespace Go.Proofs.Ytfemaeacmnhdlaa
open Go.RowKit

theorem rowsOf_snoc (l : List Row) (r : Row) (x : Id) : rowsOf (l ++ [r]) x = (rowsOf l x).or (if r.id = x then some r else none) := by
  unfold rowsOf
  rw [List.find?_append]
  congr 1
  by_cases e : r.id = x <;> simp [List.find?_cons, e]
theorem rowsOf_new {l : List Row} {r : Row} (hg : Good (l ++ [r])) : rowsOf l r.id = none := by
  have h := hg.2.2
  rw [List.map_append, List.nodup_append] at h
  exact rowsOf_none.2 fun y hy e => h.2.2 y.id (List.mem_map_of_mem (f := (·.id)) hy) r.id (by simp) e
theorem good_of_snoc {l : List Row} {r : Row} (hg : Good (l ++ [r])) : Good l := by
  have h := hg.2.2
  rw [List.map_append, List.nodup_append] at h
  exact ⟨by have := hg.1; simp at this; omega, fun y hy => hg.2.1 y (List.mem_append_left _ hy), h.1⟩
theorem rowsOf_old {l : List Row} {r y : Row} {x : Id} (h : rowsOf l x = some y) : rowsOf (l ++ [r]) x = some y := by rw [rowsOf_snoc, h]; rfl
theorem rowsOf_same {l : List Row} {r : Row} (hg : Good (l ++ [r])) : rowsOf (l ++ [r]) r.id = some r := by rw [rowsOf_snoc, rowsOf_new hg, if_pos rfl]; rfl
theorem rowsOf_other {l : List Row} {r : Row} {x : Id} (hx : x ≠ r.id) : rowsOf (l ++ [r]) x = rowsOf l x := by rw [rowsOf_snoc, if_neg (fun e => hx e.symm), Option.or_none]

theorem sh_new {l : List Row} {r : Row} (hg : Good (l ++ [r])) (h0 : r.refs = []) (lost : Id → Bool) (now : Int) : Sh (rowsOf (l ++ [r])) lost now r.id := .root (rowsOf_same hg) (by rw [h0]; rfl)
theorem sh_fill {l : List Row} {r : Row} (hg : Good (l ++ [r])) (h0 : r.refs = []) {g : List Id} {now : Int} {x : Id} (h : Sh (rowsOf l) (fun x => decide (x ∈ g ++ [r.id])) now x) : Sh (rowsOf (l ++ [r])) (fun x => decide (x ∈ g)) now x := by
  induction h with
  | root h1 h2 => exact .root (rowsOf_old h1) h2
  | @hole x q y h1 h2 h3 h4 =>
    by_cases e : q = r.id
    · subst e
      exact .ans (rowsOf_old h1) h2 (rowsOf_same hg) (sh_new hg h0 _ _)
    · refine .hole (rowsOf_old h1) h2 (by rw [rowsOf_other e]; exact h3) (h4.imp (fun h => ?_) id)
      simp only [decide_eq_true_eq, List.mem_append, List.mem_singleton] at h ⊢
      exact h.resolve_right e
  | ans h1 h2 h3 _ ih => exact .ans (rowsOf_old h1) h2 (rowsOf_old h3) ih
theorem sh_back {l : List Row} {r : Row} (hg : Good (l ++ [r])) (h0 : r.refs = []) {g : List Id} {now : Int} {x : Id} (h : Sh (rowsOf (l ++ [r])) (fun x => decide (x ∈ g)) now x) : x = r.id ∨ Sh (rowsOf l) (fun x => decide (x ∈ g ++ [r.id])) now x := by
  induction h with
  | @root x y h1 h2 =>
    by_cases e : x = r.id
    · exact .inl e
    · rw [rowsOf_other e] at h1; exact .inr (.root h1 h2)
  | @hole x q y h1 h2 h3 h4 =>
    by_cases e : x = r.id
    · exact .inl e
    · rw [rowsOf_other e] at h1
      have hq : q ≠ r.id := fun e' => by subst e'; rw [rowsOf_same hg] at h3; cases h3
      rw [rowsOf_other hq] at h3
      refine .inr (.hole h1 h2 h3 (h4.imp (fun h => ?_) id))
      simp only [decide_eq_true_eq, List.mem_append, List.mem_singleton] at h ⊢
      exact .inl h
  | @ans x q y yq h1 h2 h3 _ ih =>
    by_cases e : x = r.id
    · exact .inl e
    · rw [rowsOf_other e] at h1
      rcases ih with rfl | ih
      · exact .inr (.hole h1 h2 (rowsOf_new hg) (.inl (by simp)))
      · obtain ⟨rq, hrq⟩ := sh_rows ih
        exact .inr (.ans h1 h2 hrq ih)

theorem hole_new {l : List Row} {r : Row} (hg : Good (l ++ [r])) (h0 : r.refs = []) (g : List Id) (now : Int) : r.id ∈ shown (l ++ [r]) g now := mem_shown.2 (sh_new hg h0 _ _)
theorem hole_old {l : List Row} {r : Row} (hg : Good (l ++ [r])) (h0 : r.refs = []) {g : List Id} {now : Int} {x : Id} (h : x ∈ shown l (g ++ [r.id]) now) : x ∈ shown (l ++ [r]) g now := mem_shown.2 (sh_fill hg h0 (mem_shown.1 h))
theorem hole_first {l : List Row} {r : Row} (hg : Good (l ++ [r])) (h0 : r.refs = []) {g : List Id} {now : Int} {x : Id} (h : x ∈ shown l g now) : x ∈ shown (l ++ [r]) g now := hole_old hg h0 (shown_mono (Int.le_refl _) h)
theorem hole_length {l : List Row} {r : Row} (hg : Good (l ++ [r])) (h0 : r.refs = []) (g : List Id) (now : Int) : (shown (l ++ [r]) g now).length = (shown l (g ++ [r.id]) now).length + 1 := by
  rw [shown_length, shown_length, List.filter_append, List.length_append]
  have e1 : ([r].filter (shL (l ++ [r]) g now)).length = 1 := by
    rw [List.filter_cons, if_pos (shL_t.2 (sh_new hg h0 _ _))]; rfl
  rw [e1]
  congr 2
  apply List.filter_congr
  intro y hy
  have hne : y.id ≠ r.id := rowsOf_none.1 (rowsOf_new hg) y hy
  cases hs : shL l (g ++ [r.id]) now y with
  | true => exact shL_t.2 (sh_fill hg h0 (shL_t.1 hs))
  | false =>
    refine shL_f fun h => ?_
    rcases sh_back hg h0 h with h | h
    · exact hne h
    · rw [shL_t.2 h] at hs; cases hs

theorem buildSlice22_0 (w : World) : (Instr.buildSlice 22 0 #[]).run Try.prog w = .ok (.slice (some ⟨w.heap.size, 0, none⟩) 0 0) (w.alloc (.cells #[] 36)) :=
  run_buildSlice_all (P := Try.prog) (w := w) (t := 22) (e := 36) (s := 83) (vs := []) Try.underlying22 sz36 (zero36 w) (by intro v hv; cases hv) (by simp)

section
variable {α : Type} {e : TypeId} {k bytes : Nat} {enc : α → List Value}
theorem own_empty (e : TypeId) (k : Nat) (enc : α → List Value) (w : World) : Own (w.alloc (.cells #[] e)) e k enc (.slice (some ⟨w.heap.size, 0, none⟩) 0 0) [] :=
  ⟨by simp, .inr ⟨w.heap.size, 0, #[], rfl, Nat.zero_le _, heap_alloc_new w _, Nat.le_refl _, Nat.zero_le _, by simp, by simp⟩⟩
/-- append(own, list...) -/
theorem app_many (E : ElemOk Try.prog e k bytes enc) {t : TypeId} (ht : Try.prog.underlying t = some (.slice e)) (hbt : bytes ≤ 1000) {w0 w : World} {g n cap : Nat} {l ys : List α} (m : Nat) (a2 : Option Addr) (c2 : Nat) (hF : Fr Non w0 w) (h : Own w e k enc (.slice (some ⟨g, 0, none⟩) n cap) l) (hgb : w0.heap.size ≤ g) (hy : AtL w a2 k enc ys) (hn : l.length = n) (hm : m = n + ys.length) (hl : m ≤ 4096) :
    ∃ b cap' w', (Builtin.append_ #[t, t] t #[.slice (some ⟨g, 0, none⟩) n cap, .slice a2 ys.length c2]).run Try.prog w = .ok (.slice (some ⟨b, 0, none⟩) m cap') w' ∧
      Own w' e k enc (.slice (some ⟨b, 0, none⟩) m cap') (l ++ ys) ∧ w0.heap.size ≤ b ∧ Fr Non w0 w' ∧ Fr (fun i => i = g) w w' := by
  subst hn
  cases ys with
  | nil =>
    obtain rfl : m = l.length := by simpa using hm
    obtain ⟨z, hz, _⟩ := E.info
    obtain ⟨i, hi, _, _, _⟩ := info_parts hz
    obtain ⟨_, _, e, hc, _⟩ := Own.shape h
    obtain ⟨-, -, rfl⟩ := Value.slice.inj e
    exact ⟨g, cap, w, append_zero ht hi g _ cap hc a2 c2, by rw [List.append_nil]; exact h, hgb, hF, Fr.refl _ _⟩
  | cons y r =>
    rcases hy with hy | ⟨b2, o2, rfl, hy⟩
    · cases hy
    · have hmul : (l.length + (y :: r).length) * bytes ≤ 4096 * 1000 := by rw [← hm]; exact Nat.mul_le_mul hl hbt
      obtain ⟨b, cap', w', r1, r2, r3, r4, r5⟩ := run_append_many E (t := t) (ty := t) ht h (g := b2) (o := o2) (c := c2) (ys := y :: r) (AtL.range E.len hy) (by simp) (by unfold maxLen; omega) (by omega)
      subst hm
      refine ⟨b, cap', w', r1, r2, ?_, hF.grown r3 (fun k hk hlt => by have : g = k := Option.some.inj hk; omega), (Fr.refl _ _).grown r3 (fun k hk _ => (Option.some.inj hk).symm)⟩
      rcases r4 with h | h
      · cases h; exact hgb
      · have := hF.size; omega
/-- append(own, x), x's cells in a block of their own -/
theorem app_one (E : ElemOk Try.prog e k bytes enc) {t : TypeId} (ht : Try.prog.underlying t = some (.slice e)) (hbt : bytes ≤ 1000) {w0 w : World} {g n cap : Nat} {l : List α} (x : α) (m : Nat) (g2 : Nat) (hF : Fr Non w0 w) (h : Own w e k enc (.slice (some ⟨g, 0, none⟩) n cap) l) (hgb : w0.heap.size ≤ g) (hx : w.heap[g2]? = some (.cells (enc x).toArray e)) (hn : l.length = n) (hm : m = n + 1) (hl : m ≤ 4096) :
    ∃ b cap' w', (Builtin.append_ #[t, t] t #[.slice (some ⟨g, 0, none⟩) n cap, .slice (some ⟨g2, 0, none⟩) 1 1]).run Try.prog w = .ok (.slice (some ⟨b, 0, none⟩) m cap') w' ∧
      Own w' e k enc (.slice (some ⟨b, 0, none⟩) m cap') (l ++ [x]) ∧ w0.heap.size ≤ b ∧ Fr Non w0 w' := by
  subst hn
  have hmul : (l.length + 1) * bytes ≤ 4096 * 1000 := by rw [← hm]; exact Nat.mul_le_mul hl hbt
  obtain ⟨b, cap', w', r1, r2, r3, r4, r5⟩ := run_append_one E (t := t) (ty := t) ht h (g := g2) (x := x) hx (by unfold maxLen; omega) (by omega)
  subst hm
  refine ⟨b, cap', w', r1, r2, ?_, hF.grown r3 (fun k hk hlt => by have : g = k := Option.some.inj hk; omega)⟩
  rcases r4 with h | h
  · cases h; exact hgb
  · have := hF.size; omega
end
end Go.Proofs.Ytfemaeacmnhdlaa
