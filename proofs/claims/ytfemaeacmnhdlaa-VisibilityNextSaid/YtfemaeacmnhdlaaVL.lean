/-
  The law's own answer (a row of marks, grown till nothing is added): what it computes, said without a program.
-/
import Derived.Test.YtfemaeacmnhdlaaVK
namespace Go.Proofs.Ytfemaeacmnhdlaa
open Go.RowKit

theorem rowIx_row {l : List Row} {y : Id} {j : Nat} (h : rowIx l y = some j) : ∃ r, l[j]? = some r ∧ r.id = y := by
  unfold rowIx at h
  obtain ⟨hj, h1, _⟩ := List.findIdx?_eq_some_iff_getElem.1 h
  exact ⟨l[j], List.getElem?_eq_getElem hj, by simpa using h1⟩
/-- Is the row r to be marked, the marks being m? -/
def cnd (l : List Row) (g : List Id) (now : Int) (m : List Bool) (r : Row) : Bool :=
  match r.refs.getLast? with
  | none => true
  | some y => match rowIx l y with
    | some j => m.getD j false
    | none => decide (y ∈ g) || decide (r.date + 2880 ≤ now)
def SoundM (l : List Row) (g : List Id) (now : Int) (m : List Bool) : Prop := m.length = l.length ∧ ∀ (i : Nat) (r : Row), l[i]? = some r → m[i]? = some true → Sh (rowsOf l) (fun x => decide (x ∈ g)) now r.id
def ClosedM (l : List Row) (g : List Id) (now : Int) (m : List Bool) (k : Nat) : Prop := ∀ (i : Nat) (r : Row), i < k → l[i]? = some r → cnd l g now m r = true → m[i]? = some true
noncomputable def shM (l : List Row) (g : List Id) (now : Int) : List Bool := l.map fun r => @decide (Sh (rowsOf l) (fun x => decide (x ∈ g)) now r.id) (Classical.propDecidable _)

theorem sound_none (l : List Row) (g : List Id) (now : Int) : SoundM l g now (List.replicate l.length false) := by
  refine ⟨by simp, fun i r hi hm => ?_⟩
  rw [List.getElem?_replicate] at hm
  split at hm <;> cases hm
theorem cnd_sh {l : List Row} {g : List Id} {now : Int} {m : List Bool} (hg : Good l) (hs : SoundM l g now m) {k : Nat} {r : Row} (hr : l[k]? = some r) (hc : cnd l g now m r = true) : Sh (rowsOf l) (fun x => decide (x ∈ g)) now r.id := by
  have hrow := rowsOf_self hg.2.2 (List.mem_of_getElem? hr)
  unfold cnd at hc
  cases hy : r.refs.getLast? with
  | none => exact .root hrow hy
  | some y =>
    rw [hy] at hc
    simp only at hc
    cases hx : rowIx l y with
    | none =>
      rw [hx] at hc
      refine .hole hrow hy (rowsOf_none.2 (rowIx_none.1 hx)) ?_
      simpa using hc
    | some j =>
      rw [hx] at hc
      obtain ⟨rq, hj, rfl⟩ := rowIx_row hx
      refine .ans hrow hy (rowsOf_self hg.2.2 (List.mem_of_getElem? hj)) (hs.2 j rq hj ?_)
      have hc' : m.getD j false = true := hc
      rw [List.getD_eq_getElem?_getD] at hc'
      cases hm : m[j]? with
      | none => rw [hm] at hc'; cases hc'
      | some b => rw [hm] at hc'; exact congrArg some hc'
theorem sound_set {l : List Row} {g : List Id} {now : Int} {m : List Bool} (hg : Good l) (hs : SoundM l g now m) {k : Nat} {r : Row} (hr : l[k]? = some r) (hc : cnd l g now m r = true) : SoundM l g now (m.set k true) := by
  refine ⟨by rw [List.length_set]; exact hs.1, fun i y hi hm => ?_⟩
  by_cases e : k = i
  · subst e
    rw [hr] at hi; cases hi
    exact cnd_sh hg hs hr hc
  · rw [List.getElem?_set, if_neg e] at hm
    exact hs.2 i y hi hm
theorem closed_all {l : List Row} {g : List Id} {now : Int} {m : List Bool} (hg : Good l) (hs : SoundM l g now m) (hc : ClosedM l g now m l.length) {x : Id} (h : Sh (rowsOf l) (fun x => decide (x ∈ g)) now x) : ∀ (i : Nat) (r : Row), l[i]? = some r → r.id = x → m[i]? = some true := by
  induction h with
  | @root x y h1 h2 =>
    rintro i r hi rfl
    have hrow := rowsOf_self hg.2.2 (List.mem_of_getElem? hi)
    rw [hrow] at h1; cases h1
    exact hc i _ (List.getElem?_eq_some_iff.1 hi).1 hi (by unfold cnd; rw [h2])
  | @hole x q y h1 h2 h3 h4 =>
    rintro i r hi rfl
    have hrow := rowsOf_self hg.2.2 (List.mem_of_getElem? hi)
    rw [hrow] at h1; cases h1
    refine hc i _ (List.getElem?_eq_some_iff.1 hi).1 hi ?_
    unfold cnd
    rw [h2]
    simp only
    rw [rowIx_none.2 (rowsOf_none.1 h3)]
    simpa using h4
  | @ans x q y yq h1 h2 h3 _ ih =>
    rintro i r hi rfl
    have hrow := rowsOf_self hg.2.2 (List.mem_of_getElem? hi)
    rw [hrow] at h1; cases h1
    refine hc i _ (List.getElem?_eq_some_iff.1 hi).1 hi ?_
    unfold cnd
    rw [h2]
    simp only
    cases hx : rowIx l q with
    | none => rw [rowsOf_none.2 (rowIx_none.1 hx)] at h3; cases h3
    | some j =>
      obtain ⟨rq, hj, e⟩ := rowIx_row hx
      have := ih j rq hj e
      simp only
      rw [List.getD_eq_getElem?_getD, this]; rfl
theorem marks_done {l : List Row} {g : List Id} {now : Int} {m : List Bool} (hg : Good l) (hs : SoundM l g now m) (hc : ClosedM l g now m l.length) : m = shM l g now := by
  apply List.ext_getElem?
  intro i
  by_cases hi : i < l.length
  · have hr : l[i]? = some l[i] := List.getElem?_eq_getElem hi
    have hm : ∃ b, m[i]? = some b := ⟨_, List.getElem?_eq_getElem (by rw [hs.1]; exact hi)⟩
    obtain ⟨b, hb⟩ := hm
    unfold shM
    rw [List.getElem?_map, hr, hb]
    show some b = some _
    congr 1
    cases b with
    | true => exact (@decide_eq_true _ (Classical.propDecidable _) (hs.2 i _ hr hb)).symm
    | false =>
      refine (@decide_eq_false _ (Classical.propDecidable _) (fun h => ?_)).symm
      have := closed_all hg hs hc h i _ hr rfl
      rw [hb] at this; cases this
  · rw [List.getElem?_eq_none (by rw [hs.1]; omega), List.getElem?_eq_none (by unfold shM; simp; omega)]
/-- How many are not marked yet. -/
def unm (m : List Bool) : Nat := (m.filter fun b => !b).length
theorem unm_set : ∀ {m : List Bool} {k : Nat}, m[k]? = some false → unm (m.set k true) < unm m
  | [], _, h => by cases h
  | b :: m, 0, h => by
    simp only [List.getElem?_cons_zero, Option.some.injEq] at h
    subst h
    simp [unm]
  | b :: m, k + 1, h => by
    have := unm_set (m := m) (k := k) (by simpa using h)
    unfold unm at this ⊢
    cases b <;> simp at this ⊢ <;> omega
end Go.Proofs.Ytfemaeacmnhdlaa
