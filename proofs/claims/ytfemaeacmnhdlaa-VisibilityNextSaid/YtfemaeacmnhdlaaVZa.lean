/-
  VisibilityNext: the law's own walk.
-/
import Derived.Test.YtfemaeacmnhdlaaVZ
namespace Go.Proofs.Ytfemaeacmnhdlaa
open Go.RowKit

theorem untils_succ {l : List Row} {now : Int} {k : Nat} {r : Row} (hr : l[k]? = some r) : untils (l.take (k + 1)) now = untils (l.take k) now ++ (if now < r.date + 2880 then [r.date + 2880] else []) := by
  unfold untils
  rw [filter_take_succ hr, List.map_append]
  congr 1
  by_cases h : now < r.date + 2880 <;> simp [h]
theorem best_skip {l : List Row} {g : List Id} {now b : Int} {k : Nat} {r : Row} (hr : l[k]? = some r) (h : Best l g now k b) (hs : ¬ now < r.date + 2880 ∨ shown l g (r.date + 2880) = shown l g now ∨ (b ≠ 0 ∧ b ≤ r.date + 2880)) : Best l g now (k + 1) b := by
  unfold Best at h ⊢
  rw [untils_succ hr]
  by_cases hn : now < r.date + 2880
  · rw [if_pos hn]
    rcases h with ⟨h1, h2⟩ | ⟨h1, h2, h3⟩
    · refine .inl ⟨h1, fun t ht => ?_⟩
      rcases List.mem_append.1 ht with ht | ht
      · exact h2 t ht
      · rw [List.mem_singleton.1 ht]
        rcases hs with hs | hs | hs
        · exact absurd hn hs
        · exact hs
        · exact absurd h1 hs.1
    · refine .inr ⟨List.mem_append_left _ h1, h2, fun t ht hd => ?_⟩
      rcases List.mem_append.1 ht with ht | ht
      · exact h3 t ht hd
      · rw [List.mem_singleton.1 ht] at hd ⊢
        rcases hs with hs | hs | hs
        · exact absurd hn hs
        · exact absurd hs hd
        · exact hs.2
  · rw [if_neg hn, List.append_nil]; exact h
theorem best_take {l : List Row} {g : List Id} {now b : Int} {k : Nat} {r : Row} (hd0 : ∀ r ∈ l, 0 ≤ r.date) (hr : l[k]? = some r) (h : Best l g now k b) (hn : now < r.date + 2880) (hd : shown l g (r.date + 2880) ≠ shown l g now) (hb : b = 0 ∨ r.date + 2880 < b) : Best l g now (k + 1) (r.date + 2880) := by
  unfold Best at h ⊢
  rw [untils_succ hr, if_pos hn]
  refine .inr ⟨List.mem_append_right _ (List.mem_singleton.2 rfl), hd, fun t ht hdt => ?_⟩
  rcases List.mem_append.1 ht with ht | ht
  · rcases h with ⟨_, h2⟩ | ⟨h1, _, h3⟩
    · exact absurd (h2 t ht) hdt
    · rcases hb with hb | hb
      · obtain ⟨y, hy, _, e⟩ := mem_untils.1 h1
        have := hd0 y (List.mem_of_mem_take hy)
        omega
      · have := h3 t ht hdt; omega
  · rw [List.mem_singleton.1 ht]; exact Int.le_refl _
end Go.Proofs.Ytfemaeacmnhdlaa
