import Derived.Test.YticgkbpmaakkiaaDk5q
import Derived.Laws.IdiomCopy
namespace Go.Proofs.Yticgkbpmaakkiaa
open Go.RowKit

def tornN (c : UInt8) : Nat := c.toNat / 3 % 17 * 16
theorem tornN_le (c : UInt8) : tornN c ≤ 256 := by unfold tornN; omega
theorem tornL_length (s t : Sec) (n : Nat) (h : n ≤ 256) : (tornL s.1 t.1 n).length = 256 := by
  unfold tornL; rw [List.length_append, List.length_take, List.length_drop, s.2, t.2]; omega
def torn (s t : Sec) (c : UInt8) : Sec := ⟨tornL s.1 t.1 (tornN c), tornL_length s t _ (tornN_le c)⟩

set_option maxRecDepth 100000 in
theorem fate2_c (w : World) (s t : Sec) (c : UInt8) : Calls Try.prog 60 #[.agg (u8s s.1).toArray, .agg (u8s t.1).toArray, .int .u8 c.toNat] w fun e w' => e = .returned (.agg (u8s (torn s t c).1).toArray) ∧ Fr Non w w' := by
  have hc0 : (0 : Int) ≤ (c.toNat : Int) := Int.natCast_nonneg _
  have hc1 : (c.toNat : Int) ≤ 255 := by have := c.toNat_lt; omega
  obtain ⟨W1, hW1⟩ : ∃ W1, w.alloc (.cells (u8s s.1).toArray 80) = W1 := ⟨_, rfl⟩
  obtain ⟨W2, hW2⟩ : ∃ W2, W1.alloc (.cells (u8s t.1).toArray 80) = W2 := ⟨_, rfl⟩
  obtain ⟨W3, hW3⟩ : ∃ W3, W2.alloc (.cells (u8s zeroSec.1).toArray 80) = W3 := ⟨_, rfl⟩
  have e1 : W1.heap.size = w.heap.size + 1 := by rw [← hW1]; simp
  have e2 : W2.heap.size = w.heap.size + 2 := by rw [← hW2]; simp [e1]
  have hF1 : Fr Non w W1 := by rw [← hW1]; exact (Fr.refl _ w).alloc _
  have hF2 : Fr Non W1 W2 := by rw [← hW2]; exact (Fr.refl _ _).alloc _
  have hF3 : Fr Non W2 W3 := by rw [← hW3]; exact (Fr.refl _ _).alloc _
  have hA : W3.heap[w.heap.size]? = some (.cells (u8s s.1).toArray 80) := hF3.keep (hF2.keep (by rw [← hW1]; exact heap_alloc_new w _) (fun h => h)) (fun h => h)
  have hB : W3.heap[W1.heap.size]? = some (.cells (u8s t.1).toArray 80) := hF3.keep (by rw [← hW2]; exact heap_alloc_new W1 _) (fun h => h)
  have hC : W3.heap[W2.heap.size]? = some (.cells (u8s zeroSec.1).toArray 80) := by rw [← hW3]; exact heap_alloc_new W2 _
  have hn := tornN_le c
  have hcp : (Builtin.copy_ #[30, 30] 3 #[.slice (some ⟨w.heap.size, 0, none⟩) (tornN c) 256, .slice (some ⟨W1.heap.size, 0, none⟩) (tornN c) 256]).run Try.prog W3.drew = .ok (goInt (tornN c)) (W3.drew.setCells w.heap.size 0 (u8s (t.1.take (tornN c)))) := by
    have hl : (u8s (t.1.take (tornN c))).length = tornN c := by rw [u8s_length, List.length_take, t.2]; omega
    have := run_copy_cells (P := Try.prog) W3.drew 30 30 3 5 w.heap.size 0 (tornN c) 256 ⟨W1.heap.size, 0, none⟩ (tornN c) 256 (u8s (t.1.take (tornN c))) Try.underlying30 sz5 (by rw [hl]; simp [Nat.min_def])
      (fun j v hv => by
        rw [Addr.add_mid]
        refine cellOf (w := W3.drew) hB _ ?_
        simp only [Nat.zero_add, List.getElem?_toArray]
        rw [← u8s_take, List.getElem?_take] at hv
        split at hv
        · exact hv
        · cases hv)
      (fun j hj => by rw [cell_of_row W3.drew w.heap.size _ _ 80 (0, 0) hA]; rw [hl] at hj; simp [sec_len]; omega)
      (fun j hj => frozenOf (w := W3.drew) hA _) (u8s_one _)
    rw [hl] at this
    exact this
  obtain ⟨W4, hW4⟩ : ∃ W4, W3.drew.setCells w.heap.size 0 (u8s (t.1.take (tornN c))) = W4 := ⟨_, rfl⟩
  rw [hW4] at hcp
  have hA4 : W4.heap[w.heap.size]? = some (.cells (u8s (torn s t c).1).toArray 80) := by
    rw [← hW4]
    have := heap_setCells (b := w.heap.size) (t := 80) (u8s (t.1.take (tornN c))) 0 _ W3.drew hA (by rw [u8s_length, List.length_take, t.2]; simp [sec_len]; omega)
    rw [this]
    congr 2
    simp only [List.take_zero, List.nil_append, Nat.zero_add, u8s_length, List.length_take, t.2]
    rw [show min (tornN c) 256 = tornN c by omega, u8s_drop, ← u8s_append]
    rfl
  have hC4 : W4.heap[W2.heap.size]? = some (.cells (u8s zeroSec.1).toArray 80) := by
    rw [← hW4, heap_setCells_other _ (by omega)]; exact hC
  have hF4 : Fr Non w W4 := by
    rw [← hW4]
    refine Fr.setCells _ (fun h => absurd h (Nat.lt_irrefl _)) _ _ _ ?_
    exact ((hF1.trans hF2 (fun _ _ h => h)).trans hF3 (fun _ _ h => h)).drew
  have hr4 : W4.rangeAt w.heap.size 0 (u8s (torn s t c).1) := rangeAt_of hA4 0 _ (by simp)
  have ht4 : W4.there W2.heap.size 0 (u8s (torn s t c).1).length := there_of hC4 0 _ (by simp [sec_len])
  have hE : (W4.setCells W2.heap.size 0 (u8s (torn s t c).1)).heap[W2.heap.size]? = some (.cells (u8s (torn s t c).1).toArray 80) := by
    rw [heap_setCells _ 0 _ W4 hC4 (by simp [sec_len])]
    congr 2
    simp [sec_len]
  have hF5 : Fr Non w (W4.setCells W2.heap.size 0 (u8s (torn s t c).1)) := Fr.setCells _ (fun h => by omega) _ _ _ hF4
  have HR4 := Lib.hid hr4
  have HT4 := Lib.hid ht4
  have HE := Lib.hid hE
  have HF5 := Lib.hid hF5
  have HN : Hid ((c.toNat : Int) / 3 % 17 * 16 = (tornN c : Int)) := by show _ = _; unfold tornN; omega
  have HW1 := Lib.hid hW1
  have HW2 := Lib.hid hW2
  have HW3 := Lib.hid hW3
  clear hr4 ht4 hE hF5 hA4 hC4 hF4 hW4 hA hB hC hF1 hF2 hF3 e1 e2 hW1 hW2 hW3
  go_enter Try.func60, Try.ntmps60
  go_wp2_with (first
    | (guard_target =~ wpList _ _ _ (⟨_, Op.box 80 (.tmp 0), _, _, _, _⟩ :: _) _ _; refine wl rfl (r_boxA rfl rfl) ?_; rw [HW1.out])
    | (guard_target =~ wpList _ _ _ (⟨_, Op.box 80 (.tmp 1), _, _, _, _⟩ :: _) _ _; refine wl rfl (r_boxA rfl rfl) ?_; rw [HW2.out])
    | (guard_target =~ wpList _ _ _ (⟨_, Op.alloc 80, _, _, _, _⟩ :: _) _ _; refine wl rfl (r_allocA rfl (zero80 _)) ?_; rw [HW3.out])
    | fail)
  rw [HN.out]
  have hn0 : (0 : Int) ≤ (tornN c : Int) := Int.natCast_nonneg _
  have hn1 : (tornN c : Int) ≤ 256 := by omega
  have HCP := Lib.hid hcp
  clear hcp hc0 hc1
  refine rt 4 (by kernel_rfl) (by kernel_rfl) ?_
  simp only [List.take_succ_cons, List.take_zero, List.drop_succ_cons, List.drop_zero]
  iterate 4 still_step
  refine ws_nil ?_
  refine wl rfl (r_builtin (vs := [.slice (some ⟨w.heap.size, 0, none⟩) (tornN c) 256, .slice (some ⟨W1.heap.size, 0, none⟩) (tornN c) 256]) rfl rfl (builtin_copy HCP.out)) ?_
  simp only [Act.put, List.setIfInBounds_toArray, List.set_cons_zero, List.set_cons_succ]
  go_wp2_with (first
    | (guard_target =~ wpList _ _ _ (⟨_, Op.load 80 _, _, _, _, _⟩ :: _) _ _; refine wl rfl (r_load (b := w.heap.size) (i := 0) rfl rfl HR4.out Try.underlying80 rfl (by rw [sz80, sec_len])) ?_)
    | (guard_target =~ wpList _ _ _ (⟨_, Op.store 80 _ _, _, _, _, _⟩ :: _) _ _; refine wu rfl (r_store (b := W2.heap.size) (i := 0) (cs := u8s (torn s t c).1) rfl rfl rfl HT4.out (by rw [sz80, sec_len]) (u8s_one _)) ?_)
    | fail)
  refine bodyPost_ret (results_cell_row rfl _ _ W2.heap.size 80 _ (0, 0) _ rfl HE.out Try.underlying80 rfl (by rw [sz80]; simp [sec_len])) rfl ⟨rfl, HF5.out⟩
end Go.Proofs.Yticgkbpmaakkiaa
