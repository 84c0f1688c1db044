/-
  Next, the plain law: the least moment at which what is shown differs.
-/
import Derived.Test.YtfemaeacmnhdlaaVW
namespace Go.Proofs.Ytfemaeacmnhdlaa
open Go.RowKit

theorem mem_compact {zs : List Int} {x : Int} : x ∈ Lib.compact zs ↔ x ∈ zs := by
  unfold Lib.compact Lib.compactUpTo
  constructor
  · intro h
    obtain ⟨j, hj, rfl⟩ := List.mem_map.1 h
    have hj' : j < zs.length := List.mem_range.1 (List.mem_filter.1 hj).1
    rw [getElem!_pos zs.toArray j (by simpa using hj')]
    simp
  · intro h
    obtain ⟨j, hj⟩ := List.getElem?_of_mem h
    have key : ∀ n j, j < n → j < zs.length → zs.toArray[j]! ∈ ((List.range zs.length).filter (Lib.keeps zs.toArray)).map (zs.toArray[·]!) := by
      intro n
      induction n with
      | zero => intro j h; omega
      | succ n ih =>
        intro j hjn hjl
        by_cases hk : Lib.keeps zs.toArray j = true
        · exact List.mem_map.2 ⟨j, List.mem_filter.2 ⟨List.mem_range.2 hjl, hk⟩, rfl⟩
        · have : ¬ (j = 0 ∨ zs.toArray[j]! ≠ zs.toArray[j - 1]!) := fun h => hk (by unfold Lib.keeps; exact decide_eq_true h)
          have h1 : j ≠ 0 := fun e => this (.inl e)
          have h2 : zs.toArray[j]! = zs.toArray[j - 1]! := Classical.byContradiction fun e => this (.inr e)
          rw [h2]
          exact ih (j - 1) (by omega) (by omega)
    obtain ⟨hjl, e⟩ := List.getElem?_eq_some_iff.1 hj
    have := key (j + 1) j (by omega) hjl
    rw [getElem!_pos zs.toArray j (by simpa using hjl)] at this
    simpa [e] using this
theorem srtI_sorted (zs : List Int) : (srtI zs).Pairwise (· ≤ ·) := by
  have := List.pairwise_mergeSort (le := fun x y : Int => decide (x ≤ y)) (fun a b c h1 h2 => by simp at *; omega) (fun a b => by simp; omega) zs
  exact this.imp (fun h => by simpa using h)
theorem compact_sorted {zs : List Int} (h : zs.Pairwise (· ≤ ·)) : (Lib.compact zs).Pairwise (· ≤ ·) := by
  unfold Lib.compact Lib.compactUpTo
  rw [List.pairwise_map]
  have h1 : (List.range zs.length).Pairwise (fun i j => zs.toArray[i]! ≤ zs.toArray[j]!) := by
    rw [List.pairwise_iff_getElem]
    intro i j hi hj hij
    simp only [List.getElem_range]
    have hi' : i < zs.length := by simpa using hi
    have hj' : j < zs.length := by simpa using hj
    rw [getElem!_pos zs.toArray i (by simpa using hi'), getElem!_pos zs.toArray j (by simpa using hj')]
    simpa using List.pairwise_iff_getElem.1 h i j hi' hj' hij
  exact h1.filter _

theorem nextL_none {l : List Row} {g : List Id} {now : Int} (h : nextL l g now = none) : ∀ t ∈ untils l now, shown l g t = shown l g now := by
  intro t ht
  unfold nextL at h
  have := List.find?_eq_none.1 h t (mem_compact.2 ((srtI_perm _).mem_iff.2 ht))
  simpa using this
theorem nextL_some {l : List Row} {g : List Id} {now t : Int} (h : nextL l g now = some t) : t ∈ untils l now ∧ shown l g t ≠ shown l g now ∧ ∀ t' ∈ untils l now, shown l g t' ≠ shown l g now → t ≤ t' := by
  unfold nextL at h
  have hs := compact_sorted (srtI_sorted (untils l now))
  obtain ⟨hp, l1, l2, he, hno⟩ := List.find?_eq_some_iff_append.1 h
  refine ⟨(srtI_perm _).mem_iff.1 (mem_compact.1 (by rw [he]; simp)), by simpa using hp, fun t' ht' hd => ?_⟩
  have hm : t' ∈ l1 ++ t :: l2 := by rw [← he]; exact mem_compact.2 ((srtI_perm _).mem_iff.2 ht')
  rw [he] at hs
  rcases List.mem_append.1 hm with hm | hm
  · have := hno t' hm
    simp at this
    exact absurd this hd
  · rcases List.mem_cons.1 hm with rfl | hm
    · exact Int.le_refl _
    · exact (List.pairwise_cons.1 (List.pairwise_append.1 hs).2.1).1 t' hm
theorem mem_untils {l : List Row} {now t : Int} : t ∈ untils l now ↔ ∃ r ∈ l, now < r.date + 2880 ∧ r.date + 2880 = t := by
  unfold untils
  rw [List.mem_map]
  constructor
  · rintro ⟨r, hr, rfl⟩
    have := List.mem_filter.1 hr
    exact ⟨r, this.1, by simpa using this.2, rfl⟩
  · rintro ⟨r, hr, h1, rfl⟩
    exact ⟨r, List.mem_filter.2 ⟨hr, by simpa using h1⟩, rfl⟩

/-- The least of the moments of the first rows at which what is shown differs; 0: there is none. -/
def Best (l : List Row) (g : List Id) (now : Int) (k : Nat) (b : Int) : Prop :=
  (b = 0 ∧ ∀ t ∈ untils (l.take k) now, shown l g t = shown l g now) ∨ (b ∈ untils (l.take k) now ∧ shown l g b ≠ shown l g now ∧ ∀ t ∈ untils (l.take k) now, shown l g t ≠ shown l g now → b ≤ t)
theorem best_next {l : List Row} {g : List Id} {now b : Int} (hd : ∀ r ∈ l, 0 ≤ r.date) (h : Best l g now l.length b) : (nextL l g now).isSome = decide (b ≠ 0) ∧ (nextL l g now).getD 0 = b := by
  unfold Best at h
  rw [List.take_length] at h
  cases hn : nextL l g now with
  | none =>
    have h0 := nextL_none hn
    rcases h with ⟨rfl, _⟩ | ⟨h1, h2, _⟩
    · exact ⟨by simp, rfl⟩
    · exact absurd (h0 b h1) h2
  | some t =>
    obtain ⟨h1, h2, h3⟩ := nextL_some hn
    rcases h with ⟨_, h4⟩ | ⟨h4, h5, h6⟩
    · exact absurd (h4 t h1) h2
    · have e : t = b := Int.le_antisymm (h3 b h4 h5) (h6 t h1 h2)
      obtain ⟨r, hr, _, hrb⟩ := mem_untils.1 h4
      have := hd r hr
      subst e
      exact ⟨by simp; omega, rfl⟩
end Go.Proofs.Ytfemaeacmnhdlaa
