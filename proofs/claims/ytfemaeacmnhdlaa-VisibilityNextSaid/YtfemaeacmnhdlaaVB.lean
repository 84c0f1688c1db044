/-
  slices.SortFunc over identities.
-/
import Derived.Test.YtfemaeacmnhdlaaVA
import Derived.Test.YtfemaeacmnhdlaaVS
import Derived.Shelf.SlSortCmp.NoneTotal
namespace Go.Proofs.Ytfemaeacmnhdlaa
open Go.RowKit Go.Sort Go.Shelf

def srt (l : List Id) : List Id := l.mergeSort fun x y => !(ltOf cmpId) y x
theorem srt_perm (l : List Id) : (srt l).Perm l := List.mergeSort_perm l _
theorem srt_length (l : List Id) : (srt l).length = l.length := (srt_perm l).length_eq
theorem mem_srt {l : List Id} {x : Id} : x ∈ srt l ↔ x ∈ l := (srt_perm l).mem_iff

theorem sort_c (w : World) (v : Value) (l : List Id) (h : Own w 31 32 idC v l) (hl : l.length ≤ 4096) :
    Calls Try.prog 85 #[v, .func (.func 86) #[] #[]] w fun e w' => e = .returned (.tuple #[]) ∧ Own w' 31 32 idC v (srt l) ∧ Fr (fun b => v.ownBlock = some b) w w' := by
  obtain ⟨a, cap, rfl, -, hn, ha⟩ := h.shape
  cases a with
  | none =>
    have hl0 : l = [] := hn rfl
    subst hl0
    refine (AnyF.slices_SortFunc_none sortIds none cap (.func (.func 86) #[] #[]) w).mono ?_
    rintro e w' ⟨rfl, rfl⟩
    exact ⟨rfl, by rw [show srt [] = [] by simp [srt]]; exact h, Fr.refl _ _⟩
  | some ad =>
    obtain ⟨g, rfl⟩ := ha ad rfl
    have hlt : g < w.heap.size := h.lt rfl
    refine (AnyQ.slices_SortFunc_total sortIds 32 (fun w => Try.isAgg31 w) (fun w => Try.sizeOf31 w) idC idC_length idC_one cmpId ltId_swo 86 #[] g 0 cap l.toArray w (enters_of Try.func86 (by kernel_rfl) rfl) (fun m os dk _ x y => cmp86 x y _) (own_holdsK idC_length h) hlt (by simp; omega) ltId_total).mono ?_
    rintro e w' ⟨rfl, q, os, rfl⟩
    have := own_sortK (q := q) (m := srt l) (os := os) idC_length h (srt_length l)
    exact ⟨rfl, this.1, this.2.mono (fun i _ e => by subst e; rfl)⟩
end Go.Proofs.Ytfemaeacmnhdlaa
