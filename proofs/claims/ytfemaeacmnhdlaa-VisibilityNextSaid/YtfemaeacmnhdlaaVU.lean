/-
  slices.Sort and slices.Compact over ints.
-/
import Derived.Test.YtfemaeacmnhdlaaVN
import Derived.Test.YtfemaeacmnhdlaaVT
import Derived.Shelf.Sort.Plain
import Derived.Shelf.Slices.CompactI
import Derived.Shelf.Slices.In.SortNone
import Derived.Lib.OwnBridge
namespace Go.Proofs.Ytfemaeacmnhdlaa
open Go.RowKit Go.Sort Go.Shelf

def intE (x : Int) : List Value := [.int .i64 x]
theorem intE_len (x : Int) : (intE x).length = 1 := rfl
theorem intE_one (x : Int) : ∀ v ∈ intE x, v.oneCell' = true := by intro v hv; rw [List.mem_singleton.1 hv]; rfl
theorem intE_flat : ∀ l : List Int, l.flatMap intE = l.map (Value.int .i64)
  | [] => rfl
  | x :: l => by rw [List.flatMap_cons, List.map_cons, intE_flat l]; rfl
theorem info3b : (Try.prog.info? 3).map (fun i => (i.zero, i.size, i.bytes)) = some (some (.int .i64 0), 1, 8) := by kernel_rfl
theorem elem3 : ElemOk Try.prog 3 1 8 intE := ⟨⟨_, info3b, by simp [Value.cells]⟩, by omega, intE_len, intE_one⟩
theorem putRow1 (w : World) (g : Nat) (d : Array Int) : putRow (Value.int .i64) w g 0 d = putRowK intE 1 w g 0 d := by
  unfold putRowK putRow
  congr 1
  funext c
  unfold putCells
  apply Array.ext
  · simp
  · intro i h1 h2
    simp only [Array.getElem_mapIdx, size_flatK, Nat.mul_one]
    split
    · rename_i h
      rw [get_flatK intE 1 d (i - 0) (by omega)]
      simp [intE, Nat.mod_one]
    · rfl

def srtI (l : List Int) : List Int := l.mergeSort fun x y => decide (x ≤ y)
theorem srtI_perm (l : List Int) : (srtI l).Perm l := List.mergeSort_perm l _
theorem sort79 (w : World) (v : Value) (l : List Int) (h : Own w 3 1 intE v l) (hl : l.length ≤ 4096) :
    Calls Try.prog 79 #[v] w fun e w' => e = .returned (.tuple #[]) ∧ Own w' 3 1 intE v (srtI l) ∧ Fr (fun b => v.ownBlock = some b) w w' := by
  obtain ⟨a, cap, rfl, -, hn, ha⟩ := h.shape
  cases a with
  | none =>
    have hl0 : l = [] := hn rfl
    subst hl0
    refine (Any.slices_Sort_int_none sortInts none cap w).mono ?_
    rintro e w' ⟨rfl, rfl⟩
    exact ⟨rfl, by rw [show srtI [] = [] by simp [srtI]]; exact h, Fr.refl _ _⟩
  | some ad =>
    obtain ⟨g, rfl⟩ := ha ad rfl
    have hlt : g < w.heap.size := h.lt rfl
    have h' : w.ownsRow 0 3 1 (.slice (some ⟨g, 0, none⟩) l.length cap) l.length (l.map (Value.int .i64)) := by rw [← intE_flat]; exact h
    obtain ⟨g', cap', e', _, _, _, _, _, hH⟩ := Lib.holds_of_ownsRow h' (by simp)
    cases e'
    refine (Any.slices_Sort_int sortInts g 0 cap l w hH hlt (by omega)).mono ?_
    rintro e w' ⟨rfl, q, os, rfl⟩
    have := own_sortK (q := q) (m := srtI l) (os := os) intE_len h (srtI_perm l).length_eq
    unfold sortWorldK at this
    rw [← putRow1] at this
    exact ⟨rfl, this.1, this.2.mono (fun i _ e => by subst e; rfl)⟩
theorem compact80 (w : World) (v : Value) (l : List Int) (h : Own w 3 1 intE v l) (hl : l.length ≤ 4096) :
    Calls Try.prog 80 #[v] w fun e w' => ∃ a cap, e = .returned (.slice a (Lib.compact l).length cap) ∧ AtL w' a 1 intE (Lib.compact l) ∧ Fr (fun b => v.ownBlock = some b) w w' := by
  obtain ⟨a, cap, rfl, hcap, hn, ha⟩ := h.shape
  have hcl := Lib.compact_length_le l
  cases a with
  | none =>
    have hl0 : l = [] := hn rfl
    subst hl0
    have e0 : Lib.compact ([] : List Int) = [] := List.eq_nil_of_length_eq_zero (Nat.le_zero.1 hcl)
    refine (Any.slices_Compact_int_empty compactInts none cap w).mono ?_
    rintro e w' ⟨rfl, rfl⟩
    exact ⟨none, cap, by rw [e0]; rfl, .inl e0, Fr.refl _ _⟩
  | some ad =>
    obtain ⟨g, rfl⟩ := ha ad rfl
    have h' : w.ownsRow 0 3 1 (.slice (some ⟨g, 0, none⟩) l.length cap) l.length (l.map (Value.int .i64)) := by rw [← intE_flat]; exact h
    obtain ⟨g', cap', e', _, _, _, _, _, hH⟩ := Lib.holds_of_ownsRow h' (by simp)
    cases e'
    refine (Any.slices_Compact_int compactInts g 0 cap l w hH (by omega) hcap).mono ?_
    rintro e w' ⟨rfl, q, rfl⟩
    have := own_sortK (q := q) (m := Lib.compact l ++ List.replicate (l.length - (Lib.compact l).length) 0) (os := #[]) intE_len h (by simp; omega)
    unfold sortWorldK at this
    rw [← putRow1, grow_empty] at this
    have hat := AtL.own elem3 this.1
    have htk := hat.take (Lib.compact l).length
    rw [List.take_left] at htk
    exact ⟨_, cap, rfl, htk, this.2.mono (fun i _ e => by subst e; rfl)⟩
end Go.Proofs.Ytfemaeacmnhdlaa
