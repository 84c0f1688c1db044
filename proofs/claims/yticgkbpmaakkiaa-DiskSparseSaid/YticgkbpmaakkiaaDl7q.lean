/-
  DiskFlushed: the walk.
-/
import Derived.Test.YticgkbpmaakkiaaDl4toDl6q
namespace Go.Proofs.Yticgkbpmaakkiaa
open Go.RowKit

set_option maxRecDepth 100000 in
theorem Flushed_big1 (w : World) (s : Nat) (a : Option Addr) (n1 cap : Nat) (a2 : Option Addr) (n2 cap2 : Nat) (ca : Option Addr) (cl cc : Nat) (h1 : ¬ n1 ≤ 40) :
    Calls Try.prog 7 #[.agg #[.int .u8 s, .slice a n1 cap, .slice a2 n2 cap2, .slice ca cl cc]] w fun e w' => e = .returned (.bool true) ∧ Fr Non w w' := by
  have e1 : decide (n1 ≤ 40) = false := decide_eq_false h1
  clear h1
  have hb1 := heap_alloc_new w (.cells #[.int .u8 s, .slice a n1 cap, .slice a2 n2 cap2, .slice ca cl cc] 56)
  have hF1 : Fr Non w (w.alloc (.cells #[.int .u8 s, .slice a n1 cap, .slice a2 n2 cap2, .slice ca cl cc] 56)) := (Fr.refl _ w).alloc _
  have HB1 := Lib.hid hb1
  have HF1 := Lib.hid hF1
  clear hb1 hF1
  go_enter Try.func7, Try.ntmps7
  go_wp2_with (first
    | (guard_target =~ wpList _ _ _ (⟨_, Op.box 56 _, _, _, _, _⟩ :: _) _ _; refine wl rfl (r_boxA (cs := #[.int .u8 s, .slice a n1 cap, .slice a2 n2 cap2, .slice ca cl cc]) rfl rfl) ?_; generalize w.alloc (.cells #[.int .u8 s, .slice a n1 cap, .slice a2 n2 cap2, .slice ca cl cc] 56) = w1 at *)
    | fail)
  refine rc (fun W : World => W.cell? ⟨w.heap.size, 0, none⟩ = some (.int .u8 s) ∧ W.cell? ⟨w.heap.size, 1, none⟩ = some (.slice a n1 cap) ∧ W.cell? ⟨w.heap.size, 2, none⟩ = some (.slice a2 n2 cap2) ∧ W.cell? ⟨w.heap.size, 3, none⟩ = some (.slice ca cl cc)) 11 (by kernel_rfl) ?_
  have hS : (fun W : World => W.cell? ⟨w.heap.size, 0, none⟩ = some (.int .u8 s) ∧ W.cell? ⟨w.heap.size, 1, none⟩ = some (.slice a n1 cap) ∧ W.cell? ⟨w.heap.size, 2, none⟩ = some (.slice a2 n2 cap2) ∧ W.cell? ⟨w.heap.size, 3, none⟩ = some (.slice ca cl cc)) w1.drew := ⟨cellOf (w := w1.drew) HB1.out 0 rfl, cellOf (w := w1.drew) HB1.out 1 rfl, cellOf (w := w1.drew) HB1.out 2 rfl, cellOf (w := w1.drew) HB1.out 3 rfl⟩
  refine tp (i := 0) (v := .pointer (some ⟨w.heap.size, 0, none⟩)) rfl (by kernel_rfl) (fun _ _ _ h => h) rfl (fun W0 => by unfold RunV; go_simp) (.inr hS) ?_
  simp only [Act.put, List.setIfInBounds_toArray, List.set_cons_zero, List.set_cons_succ]
  refine tp (i := 2) (v := .pointer (some ⟨w.heap.size, 1, none⟩)) rfl (by kernel_rfl) (fun _ _ _ h => h) rfl (fun W0 => by unfold RunV; go_simp) (.inr hS) ?_
  simp only [Act.put, List.setIfInBounds_toArray, List.set_cons_zero, List.set_cons_succ]
  refine tp (i := 4) (v := .pointer (some ⟨w.heap.size, 2, none⟩)) rfl (by kernel_rfl) (fun _ _ _ h => h) rfl (fun W0 => by unfold RunV; go_simp) (.inr hS) ?_
  simp only [Act.put, List.setIfInBounds_toArray, List.set_cons_zero, List.set_cons_succ]
  refine tp (i := 6) (v := .pointer (some ⟨w.heap.size, 3, none⟩)) rfl (by kernel_rfl) (fun _ _ _ h => h) rfl (fun W0 => by unfold RunV; go_simp) (.inr hS) ?_
  simp only [Act.put, List.setIfInBounds_toArray, List.set_cons_zero, List.set_cons_succ]
  refine tc (i := 1) (v := .int .u8 s) rfl 8 (by kernel_rfl) (fun _ _ _ h => h) rfl (fun W0 hw => by obtain ⟨hw0, hw1, hw2, hw3⟩ := hw; unfold RunV; go_simp) hS ?_
  simp only [Act.put, List.setIfInBounds_toArray, List.set_cons_zero, List.set_cons_succ]
  refine tp (i := 8) (v := .int .u8 s) rfl (by kernel_rfl) (fun _ _ _ h => h) rfl (fun W0 => r_assign rfl rfl) (.inr hS) ?_
  simp only [Act.put, List.setIfInBounds_toArray, List.set_cons_zero, List.set_cons_succ]
  refine tc (i := 3) (v := .slice a n1 cap) rfl 8 (by kernel_rfl) (fun _ _ _ h => h) rfl (fun W0 hw => by obtain ⟨hw0, hw1, hw2, hw3⟩ := hw; unfold RunV; go_simp) hS ?_
  simp only [Act.put, List.setIfInBounds_toArray, List.set_cons_zero, List.set_cons_succ]
  refine tp (i := 9) (v := .slice a n1 cap) rfl (by kernel_rfl) (fun _ _ _ h => h) rfl (fun W0 => r_assign rfl rfl) (.inr hS) ?_
  simp only [Act.put, List.setIfInBounds_toArray, List.set_cons_zero, List.set_cons_succ]
  refine tc (i := 5) (v := .slice a2 n2 cap2) rfl 8 (by kernel_rfl) (fun _ _ _ h => h) rfl (fun W0 hw => by obtain ⟨hw0, hw1, hw2, hw3⟩ := hw; unfold RunV; go_simp) hS ?_
  simp only [Act.put, List.setIfInBounds_toArray, List.set_cons_zero, List.set_cons_succ]
  refine tp (i := 10) (v := .slice a2 n2 cap2) rfl (by kernel_rfl) (fun _ _ _ h => h) rfl (fun W0 => r_assign rfl rfl) (.inr hS) ?_
  simp only [Act.put, List.setIfInBounds_toArray, List.set_cons_zero, List.set_cons_succ]
  refine tc (i := 7) (v := .slice ca cl cc) rfl 8 (by kernel_rfl) (fun _ _ _ h => h) rfl (fun W0 hw => by obtain ⟨hw0, hw1, hw2, hw3⟩ := hw; unfold RunV; go_simp) hS ?_
  simp only [Act.put, List.setIfInBounds_toArray, List.set_cons_zero, List.set_cons_succ]
  refine oc2 (i := 11) (v := .slice ca cl cc) rfl (by kernel_rfl) rfl (by kernel_rfl) (r_assign rfl rfl) ?_
  simp only [Act.put, List.setIfInBounds_toArray, List.set_cons_zero, List.set_cons_succ]
  refine dc (by kernel_rfl) ?_
  clear hS
  have HF1d : Hid (Fr Non w w1.drew) := HF1.out.drew
  generalize w1.drew = wd at *
  go_wp2_with (first
    | (go_at_call 11; refine (known_c wd).mono ?_; rintro e w2 ⟨rfl, hF2⟩; have HF2 := Lib.hid hF2; clear hF2)
    | (go_at_call 11; refine (known_c w2).mono ?_; rintro e w9 ⟨rfl, hF9⟩; have HF9 := Lib.hid hF9; clear hF9)
    | (go_at_call 22; refine (small_c _ _ _ _).mono ?_; rintro e wx ⟨rfl, rfl⟩)
    | fail)
  go_ret
  exact ⟨rfl, (HF1d.out.trans HF2.out (fun _ _ h => h)).trans HF9.out (fun _ _ h => h)⟩

set_option maxRecDepth 100000 in
theorem Flushed_big2 (w : World) (s : Nat) (a : Option Addr) (n1 cap : Nat) (a2 : Option Addr) (n2 cap2 : Nat) (ca : Option Addr) (cl cc : Nat) (h1 : n1 ≤ 40) (h2 : ¬ n2 ≤ 40) :
    Calls Try.prog 7 #[.agg #[.int .u8 s, .slice a n1 cap, .slice a2 n2 cap2, .slice ca cl cc]] w fun e w' => e = .returned (.bool true) ∧ Fr Non w w' := by
  have e1 : decide (n1 ≤ 40) = true := decide_eq_true h1
  have e2 : decide (n2 ≤ 40) = false := decide_eq_false h2
  clear h1 h2
  have hb1 := heap_alloc_new w (.cells #[.int .u8 s, .slice a n1 cap, .slice a2 n2 cap2, .slice ca cl cc] 56)
  have hF1 : Fr Non w (w.alloc (.cells #[.int .u8 s, .slice a n1 cap, .slice a2 n2 cap2, .slice ca cl cc] 56)) := (Fr.refl _ w).alloc _
  have HB1 := Lib.hid hb1
  have HF1 := Lib.hid hF1
  clear hb1 hF1
  go_enter Try.func7, Try.ntmps7
  go_wp2_with (first
    | (guard_target =~ wpList _ _ _ (⟨_, Op.box 56 _, _, _, _, _⟩ :: _) _ _; refine wl rfl (r_boxA (cs := #[.int .u8 s, .slice a n1 cap, .slice a2 n2 cap2, .slice ca cl cc]) rfl rfl) ?_; generalize w.alloc (.cells #[.int .u8 s, .slice a n1 cap, .slice a2 n2 cap2, .slice ca cl cc] 56) = w1 at *)
    | fail)
  refine rc (fun W : World => W.cell? ⟨w.heap.size, 0, none⟩ = some (.int .u8 s) ∧ W.cell? ⟨w.heap.size, 1, none⟩ = some (.slice a n1 cap) ∧ W.cell? ⟨w.heap.size, 2, none⟩ = some (.slice a2 n2 cap2) ∧ W.cell? ⟨w.heap.size, 3, none⟩ = some (.slice ca cl cc)) 11 (by kernel_rfl) ?_
  have hS : (fun W : World => W.cell? ⟨w.heap.size, 0, none⟩ = some (.int .u8 s) ∧ W.cell? ⟨w.heap.size, 1, none⟩ = some (.slice a n1 cap) ∧ W.cell? ⟨w.heap.size, 2, none⟩ = some (.slice a2 n2 cap2) ∧ W.cell? ⟨w.heap.size, 3, none⟩ = some (.slice ca cl cc)) w1.drew := ⟨cellOf (w := w1.drew) HB1.out 0 rfl, cellOf (w := w1.drew) HB1.out 1 rfl, cellOf (w := w1.drew) HB1.out 2 rfl, cellOf (w := w1.drew) HB1.out 3 rfl⟩
  refine tp (i := 0) (v := .pointer (some ⟨w.heap.size, 0, none⟩)) rfl (by kernel_rfl) (fun _ _ _ h => h) rfl (fun W0 => by unfold RunV; go_simp) (.inr hS) ?_
  simp only [Act.put, List.setIfInBounds_toArray, List.set_cons_zero, List.set_cons_succ]
  refine tp (i := 2) (v := .pointer (some ⟨w.heap.size, 1, none⟩)) rfl (by kernel_rfl) (fun _ _ _ h => h) rfl (fun W0 => by unfold RunV; go_simp) (.inr hS) ?_
  simp only [Act.put, List.setIfInBounds_toArray, List.set_cons_zero, List.set_cons_succ]
  refine tp (i := 4) (v := .pointer (some ⟨w.heap.size, 2, none⟩)) rfl (by kernel_rfl) (fun _ _ _ h => h) rfl (fun W0 => by unfold RunV; go_simp) (.inr hS) ?_
  simp only [Act.put, List.setIfInBounds_toArray, List.set_cons_zero, List.set_cons_succ]
  refine tp (i := 6) (v := .pointer (some ⟨w.heap.size, 3, none⟩)) rfl (by kernel_rfl) (fun _ _ _ h => h) rfl (fun W0 => by unfold RunV; go_simp) (.inr hS) ?_
  simp only [Act.put, List.setIfInBounds_toArray, List.set_cons_zero, List.set_cons_succ]
  refine tc (i := 1) (v := .int .u8 s) rfl 8 (by kernel_rfl) (fun _ _ _ h => h) rfl (fun W0 hw => by obtain ⟨hw0, hw1, hw2, hw3⟩ := hw; unfold RunV; go_simp) hS ?_
  simp only [Act.put, List.setIfInBounds_toArray, List.set_cons_zero, List.set_cons_succ]
  refine tp (i := 8) (v := .int .u8 s) rfl (by kernel_rfl) (fun _ _ _ h => h) rfl (fun W0 => r_assign rfl rfl) (.inr hS) ?_
  simp only [Act.put, List.setIfInBounds_toArray, List.set_cons_zero, List.set_cons_succ]
  refine tc (i := 3) (v := .slice a n1 cap) rfl 8 (by kernel_rfl) (fun _ _ _ h => h) rfl (fun W0 hw => by obtain ⟨hw0, hw1, hw2, hw3⟩ := hw; unfold RunV; go_simp) hS ?_
  simp only [Act.put, List.setIfInBounds_toArray, List.set_cons_zero, List.set_cons_succ]
  refine tp (i := 9) (v := .slice a n1 cap) rfl (by kernel_rfl) (fun _ _ _ h => h) rfl (fun W0 => r_assign rfl rfl) (.inr hS) ?_
  simp only [Act.put, List.setIfInBounds_toArray, List.set_cons_zero, List.set_cons_succ]
  refine tc (i := 5) (v := .slice a2 n2 cap2) rfl 8 (by kernel_rfl) (fun _ _ _ h => h) rfl (fun W0 hw => by obtain ⟨hw0, hw1, hw2, hw3⟩ := hw; unfold RunV; go_simp) hS ?_
  simp only [Act.put, List.setIfInBounds_toArray, List.set_cons_zero, List.set_cons_succ]
  refine tp (i := 10) (v := .slice a2 n2 cap2) rfl (by kernel_rfl) (fun _ _ _ h => h) rfl (fun W0 => r_assign rfl rfl) (.inr hS) ?_
  simp only [Act.put, List.setIfInBounds_toArray, List.set_cons_zero, List.set_cons_succ]
  refine tc (i := 7) (v := .slice ca cl cc) rfl 8 (by kernel_rfl) (fun _ _ _ h => h) rfl (fun W0 hw => by obtain ⟨hw0, hw1, hw2, hw3⟩ := hw; unfold RunV; go_simp) hS ?_
  simp only [Act.put, List.setIfInBounds_toArray, List.set_cons_zero, List.set_cons_succ]
  refine oc2 (i := 11) (v := .slice ca cl cc) rfl (by kernel_rfl) rfl (by kernel_rfl) (r_assign rfl rfl) ?_
  simp only [Act.put, List.setIfInBounds_toArray, List.set_cons_zero, List.set_cons_succ]
  refine dc (by kernel_rfl) ?_
  clear hS
  have HF1d : Hid (Fr Non w w1.drew) := HF1.out.drew
  generalize w1.drew = wd at *
  go_wp2_with (first
    | (go_at_call 11; refine (known_c wd).mono ?_; rintro e w2 ⟨rfl, hF2⟩; have HF2 := Lib.hid hF2; clear hF2)
    | (go_at_call 11; refine (known_c w2).mono ?_; rintro e w9 ⟨rfl, hF9⟩; have HF9 := Lib.hid hF9; clear hF9)
    | (go_at_call 22; refine (small_c _ _ _ _).mono ?_; rintro e wx ⟨rfl, rfl⟩)
    | fail)
  go_ret
  exact ⟨rfl, (HF1d.out.trans HF2.out (fun _ _ h => h)).trans HF9.out (fun _ _ h => h)⟩

set_option maxRecDepth 100000 in
theorem Flushed_big3 (w : World) (s : Nat) (a : Option Addr) (n1 cap : Nat) (a2 : Option Addr) (n2 cap2 : Nat) (ca : Option Addr) (cl cc : Nat) (h1 : n1 ≤ 40) (h2 : n2 ≤ 40) (h3 : ¬ (cl : Int) ≤ 100) :
    Calls Try.prog 7 #[.agg #[.int .u8 s, .slice a n1 cap, .slice a2 n2 cap2, .slice ca cl cc]] w fun e w' => e = .returned (.bool true) ∧ Fr Non w w' := by
  have e1 : decide (n1 ≤ 40) = true := decide_eq_true h1
  have e2 : decide (n2 ≤ 40) = true := decide_eq_true h2
  clear h1 h2
  have hb1 := heap_alloc_new w (.cells #[.int .u8 s, .slice a n1 cap, .slice a2 n2 cap2, .slice ca cl cc] 56)
  have hF1 : Fr Non w (w.alloc (.cells #[.int .u8 s, .slice a n1 cap, .slice a2 n2 cap2, .slice ca cl cc] 56)) := (Fr.refl _ w).alloc _
  have HB1 := Lib.hid hb1
  have HF1 := Lib.hid hF1
  clear hb1 hF1
  go_enter Try.func7, Try.ntmps7
  go_wp2_with (first
    | (guard_target =~ wpList _ _ _ (⟨_, Op.box 56 _, _, _, _, _⟩ :: _) _ _; refine wl rfl (r_boxA (cs := #[.int .u8 s, .slice a n1 cap, .slice a2 n2 cap2, .slice ca cl cc]) rfl rfl) ?_; generalize w.alloc (.cells #[.int .u8 s, .slice a n1 cap, .slice a2 n2 cap2, .slice ca cl cc] 56) = w1 at *)
    | fail)
  refine rc (fun W : World => W.cell? ⟨w.heap.size, 0, none⟩ = some (.int .u8 s) ∧ W.cell? ⟨w.heap.size, 1, none⟩ = some (.slice a n1 cap) ∧ W.cell? ⟨w.heap.size, 2, none⟩ = some (.slice a2 n2 cap2) ∧ W.cell? ⟨w.heap.size, 3, none⟩ = some (.slice ca cl cc)) 11 (by kernel_rfl) ?_
  have hS : (fun W : World => W.cell? ⟨w.heap.size, 0, none⟩ = some (.int .u8 s) ∧ W.cell? ⟨w.heap.size, 1, none⟩ = some (.slice a n1 cap) ∧ W.cell? ⟨w.heap.size, 2, none⟩ = some (.slice a2 n2 cap2) ∧ W.cell? ⟨w.heap.size, 3, none⟩ = some (.slice ca cl cc)) w1.drew := ⟨cellOf (w := w1.drew) HB1.out 0 rfl, cellOf (w := w1.drew) HB1.out 1 rfl, cellOf (w := w1.drew) HB1.out 2 rfl, cellOf (w := w1.drew) HB1.out 3 rfl⟩
  refine tp (i := 0) (v := .pointer (some ⟨w.heap.size, 0, none⟩)) rfl (by kernel_rfl) (fun _ _ _ h => h) rfl (fun W0 => by unfold RunV; go_simp) (.inr hS) ?_
  simp only [Act.put, List.setIfInBounds_toArray, List.set_cons_zero, List.set_cons_succ]
  refine tp (i := 2) (v := .pointer (some ⟨w.heap.size, 1, none⟩)) rfl (by kernel_rfl) (fun _ _ _ h => h) rfl (fun W0 => by unfold RunV; go_simp) (.inr hS) ?_
  simp only [Act.put, List.setIfInBounds_toArray, List.set_cons_zero, List.set_cons_succ]
  refine tp (i := 4) (v := .pointer (some ⟨w.heap.size, 2, none⟩)) rfl (by kernel_rfl) (fun _ _ _ h => h) rfl (fun W0 => by unfold RunV; go_simp) (.inr hS) ?_
  simp only [Act.put, List.setIfInBounds_toArray, List.set_cons_zero, List.set_cons_succ]
  refine tp (i := 6) (v := .pointer (some ⟨w.heap.size, 3, none⟩)) rfl (by kernel_rfl) (fun _ _ _ h => h) rfl (fun W0 => by unfold RunV; go_simp) (.inr hS) ?_
  simp only [Act.put, List.setIfInBounds_toArray, List.set_cons_zero, List.set_cons_succ]
  refine tc (i := 1) (v := .int .u8 s) rfl 8 (by kernel_rfl) (fun _ _ _ h => h) rfl (fun W0 hw => by obtain ⟨hw0, hw1, hw2, hw3⟩ := hw; unfold RunV; go_simp) hS ?_
  simp only [Act.put, List.setIfInBounds_toArray, List.set_cons_zero, List.set_cons_succ]
  refine tp (i := 8) (v := .int .u8 s) rfl (by kernel_rfl) (fun _ _ _ h => h) rfl (fun W0 => r_assign rfl rfl) (.inr hS) ?_
  simp only [Act.put, List.setIfInBounds_toArray, List.set_cons_zero, List.set_cons_succ]
  refine tc (i := 3) (v := .slice a n1 cap) rfl 8 (by kernel_rfl) (fun _ _ _ h => h) rfl (fun W0 hw => by obtain ⟨hw0, hw1, hw2, hw3⟩ := hw; unfold RunV; go_simp) hS ?_
  simp only [Act.put, List.setIfInBounds_toArray, List.set_cons_zero, List.set_cons_succ]
  refine tp (i := 9) (v := .slice a n1 cap) rfl (by kernel_rfl) (fun _ _ _ h => h) rfl (fun W0 => r_assign rfl rfl) (.inr hS) ?_
  simp only [Act.put, List.setIfInBounds_toArray, List.set_cons_zero, List.set_cons_succ]
  refine tc (i := 5) (v := .slice a2 n2 cap2) rfl 8 (by kernel_rfl) (fun _ _ _ h => h) rfl (fun W0 hw => by obtain ⟨hw0, hw1, hw2, hw3⟩ := hw; unfold RunV; go_simp) hS ?_
  simp only [Act.put, List.setIfInBounds_toArray, List.set_cons_zero, List.set_cons_succ]
  refine tp (i := 10) (v := .slice a2 n2 cap2) rfl (by kernel_rfl) (fun _ _ _ h => h) rfl (fun W0 => r_assign rfl rfl) (.inr hS) ?_
  simp only [Act.put, List.setIfInBounds_toArray, List.set_cons_zero, List.set_cons_succ]
  refine tc (i := 7) (v := .slice ca cl cc) rfl 8 (by kernel_rfl) (fun _ _ _ h => h) rfl (fun W0 hw => by obtain ⟨hw0, hw1, hw2, hw3⟩ := hw; unfold RunV; go_simp) hS ?_
  simp only [Act.put, List.setIfInBounds_toArray, List.set_cons_zero, List.set_cons_succ]
  refine oc2 (i := 11) (v := .slice ca cl cc) rfl (by kernel_rfl) rfl (by kernel_rfl) (r_assign rfl rfl) ?_
  simp only [Act.put, List.setIfInBounds_toArray, List.set_cons_zero, List.set_cons_succ]
  refine dc (by kernel_rfl) ?_
  clear hS
  have HF1d : Hid (Fr Non w w1.drew) := HF1.out.drew
  generalize w1.drew = wd at *
  go_wp2_with (first
    | (go_at_call 11; refine (known_c wd).mono ?_; rintro e w2 ⟨rfl, hF2⟩; have HF2 := Lib.hid hF2; clear hF2)
    | (go_at_call 11; refine (known_c w2).mono ?_; rintro e w9 ⟨rfl, hF9⟩; have HF9 := Lib.hid hF9; clear hF9)
    | (go_at_call 22; refine (small_c _ _ _ _).mono ?_; rintro e wx ⟨rfl, rfl⟩)
    | fail)
  go_ret
  exact ⟨rfl, (HF1d.out.trans HF2.out (fun _ _ h => h)).trans HF9.out (fun _ _ h => h)⟩

set_option maxRecDepth 100000 in
set_option maxHeartbeats 2000000 in
theorem Flushed_small (w : World) (s : Nat) (hs : s < 256) (a : Option Addr) (cap : Nat) (os : List OpX) (a2 : Option Addr) (cap2 : Nat) (os2 : List OpX) (ca : Option Addr) (cc : Nat) (cs : List UInt8)
    (h1 : os.length ≤ 40) (h2 : os2.length ≤ 40) (h3 : cs.length ≤ 100) (ho : OpsAt w a os) (ho2 : OpsAt w a2 os2) (hch : ChAt w ca cc cs) :
    Calls Try.prog 7 #[.agg #[.int .u8 s, .slice a os.length cap, .slice a2 os2.length cap2, .slice ca cs.length cc]] w fun e w' => e = .returned (.bool true) ∧ Fr Non w w' := by
  have e1 : decide (os.length ≤ 40) = true := decide_eq_true h1
  have e2 : decide (os2.length ≤ 40) = true := decide_eq_true h2
  have hc' : (cs.length : Int) ≤ 100 := by omega
  have hl2 : (os2.length : Int) ≤ 40 := by omega
  have HO := Lib.hid ho
  have HO2 := Lib.hid ho2
  have HL := Lib.hid h1
  have HL2 := Lib.hid h2
  have HCH := Lib.hid hch
  clear ho ho2 h1 h2 h3 hch
  have hb1 := heap_alloc_new w (.cells #[.int .u8 s, .slice a os.length cap, .slice a2 os2.length cap2, .slice ca cs.length cc] 56)
  have hF1 : Fr Non w (w.alloc (.cells #[.int .u8 s, .slice a os.length cap, .slice a2 os2.length cap2, .slice ca cs.length cc] 56)) := (Fr.refl _ w).alloc _
  have HB1 := Lib.hid hb1
  have HF1 := Lib.hid hF1
  clear hb1 hF1
  go_enter Try.func7, Try.ntmps7
  go_wp2_with (first
    | (guard_target =~ wpList _ _ _ (⟨_, Op.box 56 _, _, _, _, _⟩ :: _) _ _; refine wl rfl (r_boxA (cs := #[.int .u8 s, .slice a os.length cap, .slice a2 os2.length cap2, .slice ca cs.length cc]) rfl rfl) ?_; generalize w.alloc (.cells #[.int .u8 s, .slice a os.length cap, .slice a2 os2.length cap2, .slice ca cs.length cc] 56) = w1 at *)
    | fail)
  refine rc (fun W : World => W.cell? ⟨w.heap.size, 0, none⟩ = some (.int .u8 s) ∧ W.cell? ⟨w.heap.size, 1, none⟩ = some (.slice a os.length cap) ∧ W.cell? ⟨w.heap.size, 2, none⟩ = some (.slice a2 os2.length cap2) ∧ W.cell? ⟨w.heap.size, 3, none⟩ = some (.slice ca cs.length cc)) 11 (by kernel_rfl) ?_
  have hS : (fun W : World => W.cell? ⟨w.heap.size, 0, none⟩ = some (.int .u8 s) ∧ W.cell? ⟨w.heap.size, 1, none⟩ = some (.slice a os.length cap) ∧ W.cell? ⟨w.heap.size, 2, none⟩ = some (.slice a2 os2.length cap2) ∧ W.cell? ⟨w.heap.size, 3, none⟩ = some (.slice ca cs.length cc)) w1.drew := ⟨cellOf (w := w1.drew) HB1.out 0 rfl, cellOf (w := w1.drew) HB1.out 1 rfl, cellOf (w := w1.drew) HB1.out 2 rfl, cellOf (w := w1.drew) HB1.out 3 rfl⟩
  refine tp (i := 0) (v := .pointer (some ⟨w.heap.size, 0, none⟩)) rfl (by kernel_rfl) (fun _ _ _ h => h) rfl (fun W0 => by unfold RunV; go_simp) (.inr hS) ?_
  simp only [Act.put, List.setIfInBounds_toArray, List.set_cons_zero, List.set_cons_succ]
  refine tp (i := 2) (v := .pointer (some ⟨w.heap.size, 1, none⟩)) rfl (by kernel_rfl) (fun _ _ _ h => h) rfl (fun W0 => by unfold RunV; go_simp) (.inr hS) ?_
  simp only [Act.put, List.setIfInBounds_toArray, List.set_cons_zero, List.set_cons_succ]
  refine tp (i := 4) (v := .pointer (some ⟨w.heap.size, 2, none⟩)) rfl (by kernel_rfl) (fun _ _ _ h => h) rfl (fun W0 => by unfold RunV; go_simp) (.inr hS) ?_
  simp only [Act.put, List.setIfInBounds_toArray, List.set_cons_zero, List.set_cons_succ]
  refine tp (i := 6) (v := .pointer (some ⟨w.heap.size, 3, none⟩)) rfl (by kernel_rfl) (fun _ _ _ h => h) rfl (fun W0 => by unfold RunV; go_simp) (.inr hS) ?_
  simp only [Act.put, List.setIfInBounds_toArray, List.set_cons_zero, List.set_cons_succ]
  refine tc (i := 1) (v := .int .u8 s) rfl 8 (by kernel_rfl) (fun _ _ _ h => h) rfl (fun W0 hw => by obtain ⟨hw0, hw1, hw2, hw3⟩ := hw; unfold RunV; go_simp) hS ?_
  simp only [Act.put, List.setIfInBounds_toArray, List.set_cons_zero, List.set_cons_succ]
  refine tp (i := 8) (v := .int .u8 s) rfl (by kernel_rfl) (fun _ _ _ h => h) rfl (fun W0 => r_assign rfl rfl) (.inr hS) ?_
  simp only [Act.put, List.setIfInBounds_toArray, List.set_cons_zero, List.set_cons_succ]
  refine tc (i := 3) (v := .slice a os.length cap) rfl 8 (by kernel_rfl) (fun _ _ _ h => h) rfl (fun W0 hw => by obtain ⟨hw0, hw1, hw2, hw3⟩ := hw; unfold RunV; go_simp) hS ?_
  simp only [Act.put, List.setIfInBounds_toArray, List.set_cons_zero, List.set_cons_succ]
  refine tp (i := 9) (v := .slice a os.length cap) rfl (by kernel_rfl) (fun _ _ _ h => h) rfl (fun W0 => r_assign rfl rfl) (.inr hS) ?_
  simp only [Act.put, List.setIfInBounds_toArray, List.set_cons_zero, List.set_cons_succ]
  refine tc (i := 5) (v := .slice a2 os2.length cap2) rfl 8 (by kernel_rfl) (fun _ _ _ h => h) rfl (fun W0 hw => by obtain ⟨hw0, hw1, hw2, hw3⟩ := hw; unfold RunV; go_simp) hS ?_
  simp only [Act.put, List.setIfInBounds_toArray, List.set_cons_zero, List.set_cons_succ]
  refine tp (i := 10) (v := .slice a2 os2.length cap2) rfl (by kernel_rfl) (fun _ _ _ h => h) rfl (fun W0 => r_assign rfl rfl) (.inr hS) ?_
  simp only [Act.put, List.setIfInBounds_toArray, List.set_cons_zero, List.set_cons_succ]
  refine tc (i := 7) (v := .slice ca cs.length cc) rfl 8 (by kernel_rfl) (fun _ _ _ h => h) rfl (fun W0 hw => by obtain ⟨hw0, hw1, hw2, hw3⟩ := hw; unfold RunV; go_simp) hS ?_
  simp only [Act.put, List.setIfInBounds_toArray, List.set_cons_zero, List.set_cons_succ]
  refine oc2 (i := 11) (v := .slice ca cs.length cc) rfl (by kernel_rfl) rfl (by kernel_rfl) (r_assign rfl rfl) ?_
  simp only [Act.put, List.setIfInBounds_toArray, List.set_cons_zero, List.set_cons_succ]
  refine dc (by kernel_rfl) ?_
  clear hS
  have HF1d : Hid (Fr Non w w1.drew) := HF1.out.drew
  generalize w1.drew = wd at *
  go_wp2_with (first
    | (go_at_call 11; refine (known_c wd).mono ?_; rintro e w2 ⟨rfl, hF2⟩; have HF2 := Lib.hid hF2; clear hF2)
    | (go_at_call 22; refine (small_c _ _ _ _).mono ?_; rintro e wx ⟨rfl, rfl⟩)
    | fail)
  obtain ⟨n, hn⟩ : ∃ n : Nat, (1 + (s : Int) % 12) = (n : Int) := ⟨1 + s % 12, by omega⟩
  have hn1 : 1 ≤ (n : Int) := by omega
  have hn2 : (n : Int) ≤ 12 := by omega
  rw [hn]
  clear hn
  have HF02 : Hid (Fr Non w w2) := HF1d.out.trans HF2.out (fun _ _ h => h)
  refine (run_any w2 n hn1 (by omega) a cap os HL.out (HO.out.non HF02.out)).mono ?_
  rintro e w3 ⟨D, p, m, pv, dv, wv, rfl, hB3, hF3, hpl, hDn⟩
  have HB3 := Lib.hid hB3
  have HF3 := Lib.hid hF3
  have HPL := Lib.hid hpl
  have HDN := Lib.hid hDn
  clear hB3 hF3 hpl hDn
  go_wp2_with (first
    | (guard_target =~ wpList _ _ _ (⟨_, Op.alloc 45, _, _, _, _⟩ :: _) _ _; refine wl rfl (r_allocA rfl (zero45 _)) ?_; have HN4 := Lib.hid (heap_alloc_new w3 (.cells zref 45)); have HF4 := Lib.hid ((Fr.refl Non w3).alloc (.cells zref 45)); obtain ⟨w4, hw4⟩ : ∃ w4, w3.alloc (.cells zref 45) = w4 := ⟨_, rfl⟩; rw [hw4]; rw [hw4] at HN4 HF4; clear hw4)
    | (guard_target =~ wpList _ _ _ (⟨_, Op.store 45 _ _, _, _, _, _⟩ :: _) _ w4; refine wu rfl (r_store (b := w3.heap.size) (i := 0) (cs := refL dv wv D) rfl rfl rfl (there45 HN4.out rfl) (by rw [sz45]; rfl) (refL_one HB3.out.r _)) ?_; have HN5 := Lib.hid (put45 HN4.out rfl (l := refL dv wv D) rfl); have HB5 := Lib.hid ((HB3.out.non HF4.out).put HN4.out (refL dv wv D)); have HF25_ : Hid (Fr Non w2 (w4.setCells w3.heap.size 0 (refL dv wv D))) := Fr.setCells _ (fun h => by have := HF3.out.size; omega) _ _ _ (HF3.out.trans HF4.out (fun _ _ h => h)); have HF5 : Hid (Fr Non w (w4.setCells w3.heap.size 0 (refL dv wv D))) := Fr.setCells _ (fun h => by have := HF3.out.size; have := HF02.out.size; omega) _ _ _ ((HF02.out.trans HF3.out (fun _ _ h => h)).trans HF4.out (fun _ _ h => h)); generalize w4.setCells w3.heap.size 0 (refL dv wv D) = w5 at *)
    | fail)
  have hD40 : D.pend.length ≤ 49999 := by have := HPL.out; omega
  have HFL := Lib.hid (Flush_all w5 p m pv D HB5.out.d (by omega))
  have HFOK := Lib.hid (fl_ok D HB5.out.ok hD40)
  have hfc := fl_cases D
  have HSZ : Hid (w2.heap.size ≤ w3.heap.size ∧ w3.heap.size ≤ w5.heap.size) := ⟨HF3.out.size, Nat.le_of_lt (heap_lt HN5.out)⟩
  have HF25 : Hid (Fr Non w2 w5) := HF25_.out
  have HB45 : Hid (w.heap.size ≤ w3.heap.size ∧ w3.heap.size < w5.heap.size) := ⟨Nat.le_trans HF02.out.size HF3.out.size, heap_lt HN5.out⟩
  generalize w3.heap.size = b9 at *
  refine HFL.out.mono ?_
  rintro e w6 ⟨rfl, hS6⟩
  have HS6 := Lib.hid hS6
  clear hS6
  rcases hfc with hfc | hfc
  · rw [hfc]
    clear hfc
    have HFn : Hid (Fr Non w w6) := HF5.out.trans HS6.out.choose_spec.2.1 (fun i hi hf => by have := HB5.out.foot i hf; have := HF02.out.size; omega)
    go_wp2
    go_ret
    exact ⟨rfl, HFn.out⟩
  · obtain ⟨hf1, hf2, hf3, hf4⟩ := hfc
    obtain ⟨pv6, hd6, hF6, ho6⟩ := HS6.out
    have HD6 := Lib.hid hd6
    have HR6 := Lib.hid (HB5.out.r.fr hF6 HB5.out.d.apart)
    have HN6 := Lib.hid (hF6.keep HN5.out (HB5.out.d.no45 HN5.out))
    have HFT6 : Hid (∀ k, Foot p m pv6 k → w2.heap.size ≤ k) := fun k hk => by
      rcases hk with h | h | h
      · exact HB5.out.foot k (.inl h)
      · exact HB5.out.foot k (.inr (.inl h))
      · rcases ho6 k h with q | q
        · exact HB5.out.foot k (.inr (.inr q))
        · have := (HF3.out.trans (Fr.refl Non w3) (fun _ _ h => h)).size
          have := HSZ.out; omega
    have HF26 : Hid (Fr Non w2 w6) := HF25.out.trans hF6 (fun i hi hf => by have := HB5.out.foot i hf; omega)
    have HDOK := Lib.hid HB5.out.ok
    have HN1 : Hid (D.fl.1.n = (n : Int)) := hf4.trans HDN.out
    have HP1 := Lib.hid hf2
    have HDO1 := Lib.hid hf3
    have HCL := Lib.hid (Clone_c w6 p m pv6 D.fl.1 hd6 (by rw [hf2]; exact Nat.zero_le _))
    rw [hf1]
    clear hd6 hF6 ho6 hf1 hf2 hf3 hf4
    have HE1 : Hid (D.fl.1 = D.fl.1) := rfl
    go_wp2_with (first
      | (go_at_call 26; (with_reducible refine HCL.out.mono ?_); go_loud (rintro e w7 ⟨p', m', pv', rfl, hd7, hF7, hn7⟩; have HD7 := Lib.hid hd7; have HF7 := Lib.hid hF7; have HFT7 := Lib.hid hn7; clear hd7 hF7 hn7))
      | (guard_target =~ wpList _ _ _ (⟨_, Op.makeSlice _ _ _, _, _, _, _⟩ :: _) _ _; refine wl rfl (r_makeSlice rfl rfl rfl (run_makeBool w7 n (by omega))) ?_; have HM8 := Lib.hid (heap_alloc_new w7 (.cells (boolC (List.replicate n false)) 4)); have HF8 := Lib.hid ((Fr.refl Non w7).alloc (.cells (boolC (List.replicate n false)) 4)); have HS8 := Lib.hid (show w6.heap.size ≤ w7.heap.size from HF7.out.size); generalize w7.alloc (.cells (boolC (List.replicate n false)) 4) = w8 at *; generalize w7.heap.size = bt at *; have HN8 := Lib.hid (rangeAt_of ((HF7.out.trans HF8.out (fun _ _ h => h)).keep HN6.out (fun h => h)) 0 (refL dv wv D) (by simp)); have HRF := Lib.hid (RFlush_all w8 dv wv D HDOK.out (HR6.out.non (HF7.out.trans HF8.out (fun _ _ h => h)))))
      | (guard_target =~ wpList _ _ _ (⟨_, Op.load 45 _, _, _, _, _⟩ :: _) _ _; refine wl rfl (r_load (b := b9) (i := 0) rfl rfl HN8.out Try.underlying45 rfl (by rw [sz45]; rfl)) ?_)
      | (go_at_call 28; (with_reducible refine HRF.out.mono ?_); go_loud (rintro e w9 ⟨dv9, wv9, rfl, hR9, hF9⟩; have HR9 := Lib.hid hR9; have HF9 := Lib.hid hF9; have HN9 := Lib.hid (((HF7.out.trans HF8.out (fun _ _ h => h)).trans hF9 (fun _ _ h => h)).keep HN6.out (fun h => h)); clear hR9 hF9))
      | (guard_target =~ wpList _ _ _ (⟨_, Op.store 45 _ _, _, _, _, _⟩ :: _) _ w9; refine wu rfl (r_store (b := b9) (i := 0) (cs := refL dv9 wv9 D.fl.1) rfl rfl rfl (there45 HN9.out rfl) (by rw [sz45]; rfl) (refL_one HR9.out _)) ?_; obtain ⟨w10, hw10⟩ : ∃ w10, w9.setCells b9 0 (refL dv9 wv9 D.fl.1) = w10 := ⟨_, rfl⟩; rw [hw10]; have HW10 := Lib.hid hw10; clear hw10)
      | fail)
    have HF69 : Hid (Fr Non w6 w9) := (HF7.out.trans HF8.out (fun _ _ h => h)).trans HF9.out (fun _ _ h => h)
    have hFs : Fr (· = b9) w9 (w9.setCells b9 0 (refL dv9 wv9 D.fl.1)) := Fr.setCells (S := (· = b9)) _ (fun _ => rfl) _ _ _ (Fr.refl _ _)
    have HM10 := Lib.hid (hFs.keep (HF9.out.keep HM8.out (fun h => h)) (fun e => by have := HF9.out.keep HM8.out (fun h => h); rw [e, HN9.out] at this; simp at this))
    have HN10 := Lib.hid (put45 HN9.out rfl (l := refL dv9 wv9 D.fl.1) rfl)
    have HT10 : Hid (Two w2.heap.size (w9.setCells b9 0 (refL dv9 wv9 D.fl.1)) p m pv6 dv9 wv9 D.fl.1 p' m' pv' D.fl.1) :=
      Two.put ⟨⟨HD6.out.fr HF69.out (fun _ _ h => h), HR9.out, HFOK.out, HFT6.out⟩, HD7.out.fr (HF8.out.trans HF9.out (fun _ _ h => h)) (fun _ _ h => h), fun k hk => (by have := HFT7.out k hk; have := HF26.out.size; omega), fun k hk hk' => (by have := HFT7.out k hk'; have := foot_lt HD6.out hk; omega)⟩ HN9.out _
    have HF10 : Hid (Fr Non w2 (w9.setCells b9 0 (refL dv9 wv9 D.fl.1))) := (HF26.out.trans HF69.out (fun _ _ h => h)).trans hFs (fun i hi e => by have e' : i = b9 := e; have := HB45.out; have := HSZ.out; omega)
    rw [HW10.out] at HM10 HN10 HT10 HF10
    have HB2 := Lib.hid (show w2.heap.size ≤ b9 from by have := HSZ.out; omega)
    have HBT := Lib.hid (show w2.heap.size ≤ bt from by have := HF26.out.size; have := HS8.out; omega)
    clear hFs HFL HS6 HCL HRF HD6 HD7 HR6 HR9 HN9 HN8 HM8 HFT6 HW10 HB45 HSZ
    obtain ⟨D1, hD1⟩ : ∃ D1, D.fl.1 = D1 := ⟨_, rfl⟩
    rw [hD1] at HFOK HN1 HP1 HDO1 HN10 HT10
    clear hD1 HE1
    rw [← marks_nil] at HM10
    go_loopw [13] (fun i wr => ∃ (k : Nat) (pv dv wv : Value), i = .int .i64 k ∧ k ≤ os2.length ∧ wr.heap[b9]? = some (.cells (refL dv wv (D1.acts (os2.take k))).toArray 45) ∧ wr.heap[bt]? = some (.cells (boolC (marks n (os2.take k))) 4) ∧ Two w2.heap.size wr p m pv dv wv (D1.acts (os2.take k)) p' m' pv' D1 ∧ Fr Non w2 wr ∧ (D1.acts (os2.take k)).pend.length ≤ 40) (fun i _ => os2.length - (intOf i).toNat)
    case atStart => exact ⟨0, pv6, dv9, wv9, rfl, Nat.zero_le _, HN10.out, HM10.out, HT10.out, HF10.out, by show D1.pend.length ≤ 40; rw [HP1.out]; exact Nat.zero_le _⟩
    case round =>
      obtain ⟨k, pv, dv, wv, rfl, hk, hN, hM, hT, hF, hpl⟩ := hrel
      have HN := Lib.hid hN
      have HM := Lib.hid hM
      have HT := Lib.hid hT
      have HF := Lib.hid hF
      have HPLk := Lib.hid hpl
      clear hN hM hT hF hpl
      by_cases hlt : k < os2.length
      · obtain ⟨x, hx⟩ : ∃ x, os2[k]? = some x := ⟨_, List.getElem?_eq_getElem hlt⟩
        have hD' : D1.acts (os2.take (k + 1)) = (D1.acts (os2.take k)).act x.1 x.2.2 := by rw [List.take_add_one, hx]; exact acts_snoc _ _ _
        have HTK : Hid (os2.take (k + 1) = os2.take k ++ [x]) := by rw [List.take_add_one, hx]; rfl
        have hgood := (HO2.out.non HF02.out).2 x (List.mem_of_getElem? hx)
        have hok := act_ok (D1.acts (os2.take k)) x.1 x.2.2 HT.out.a.ok (by have := HPLk.out; omega) hgood.2.2.2.2
        have hpl' : (D1.acts (os2.take (k + 1))).pend.length ≤ 40 := by
          obtain ⟨-, q, -⟩ := acts_ok (os2.take (k + 1)) D1 0 HFOK.out (by rw [HP1.out]; exact Nat.zero_le _) (by rw [List.length_take]; omega) (fun y hy => (HO2.out.2 y (List.mem_of_mem_take hy)).2.2.2.2)
          rw [List.length_take] at q; omega
        rw [hD'] at hpl'
        have hox : ∃ b o, a2 = some ⟨b, o, none⟩ ∧ w2.rangeAt b (o + k * 6) (opL x.1 x.2.1) := by
          rcases (HO2.out.non HF02.out).1 with h | ⟨b, o, e, q⟩
          · rw [h] at hlt; simp at hlt
          · exact ⟨b, o, e, q k x hx⟩
        obtain ⟨b, o, rfl, hox2⟩ := hox
        have HOX := Lib.hid (rangeAt_fr HF.out hox2 (fun h => h))
        have HGOOD := Lib.hid hgood
        have HOKk := Lib.hid hok
        have HPL' := Lib.hid hpl'
        have HDE := Lib.hid hD'
        have HLT := Lib.hid hlt
        clear hok hpl' hox2 hgood hD' hx
        generalize D1.acts (os2.take k) = Dk at *
        have HWA : Hid (Fr Non wr (wr.alloc (.cells (opL x.1 x.2.1).toArray 60))) := (Fr.refl Non wr).alloc _
        have hbo := heap_alloc_new wr (.cells (opL x.1 x.2.1).toArray 60)
        obtain ⟨w11, hw11⟩ : ∃ w11, wr.alloc (.cells (opL x.1 x.2.1).toArray 60) = w11 := ⟨_, rfl⟩
        rw [hw11] at HWA hbo
        have cs1 : w11.cell? ⟨wr.heap.size, 1, none⟩ = some (.int .i64 x.1.sec) := cellOf hbo 1 rfl
        have HBO := Lib.hid hbo
        have hone : ∀ v ∈ opL x.1 x.2.1, v.oneCell' = true := by
          obtain ⟨⟨ca', cl', cc', e⟩, _⟩ := HGOOD.out
          rw [e]
          intro v hv
          simp only [opL, List.mem_cons, List.not_mem_nil, or_false] at hv
          rcases hv with rfl | rfl | rfl | rfl | rfl | rfl <;> rfl
        have HONE := Lib.hid hone
        clear hbo hone
        by_cases hin : 0 ≤ x.1.sec ∧ x.1.sec < (n : Int)
        · obtain ⟨j, hj⟩ : ∃ j : Nat, x.1.sec = (j : Int) := ⟨x.1.sec.toNat, by omega⟩
          have hjn : (j : Int) < (n : Int) := by omega
          have hjn' : j < n := by omega
          have HMK := Lib.hid (marks_in n (os2.take k) x j hj)
          have hm1 := HWA.out.keep HM.out (fun h => h)
          obtain ⟨bj, hbj⟩ : ∃ bj, (boolC (marks n (os2.take k)))[j]? = some (.bool bj) := by
            have hlen := marks_length n (os2.take k)
            obtain ⟨bj, h⟩ : ∃ bj, (marks n (os2.take k))[j]? = some bj := ⟨_, List.getElem?_eq_getElem (by omega)⟩
            exact ⟨bj, boolC_get _ _ _ h⟩
          have ct : w11.cell? ⟨bt, j, none⟩ = some (.bool bj) := cellOf hm1 j hbj
          have ft := frozenOf hm1 j
          have HM1 := Lib.hid hm1
          rw [hj] at cs1
          clear hm1 hbj hin hj
          have hFs0 : Fr (· = bt) w11 (w11.setCell ⟨bt, j, none⟩ (.bool true)) := (Fr.refl _ _).setCell _ _ (fun _ => rfl)
          have HM12 := Lib.hid (heap_setCell_at HM1.out j (.bool true))
          rw [boolC_set, ← HMK.out, ← HTK.out] at HM12
          have hN11 := HWA.out.keep HN.out (fun h => h)
          have HN12 := Lib.hid (hFs0.keep hN11 (fun e => by have := HM1.out; rw [← e, hN11] at this; simp at this))
          have HO12 := Lib.hid (hFs0.keep HBO.out (fun e => by have := HM1.out; rw [← e, HBO.out] at this; simp at this))
          have HT12 : Hid (Two w2.heap.size (w11.setCell ⟨bt, j, none⟩ (.bool true)) p m pv dv wv Dk p' m' pv' D1) := by
            have t1 := HT.out.non HWA.out
            exact ⟨⟨t1.a.d.fr hFs0 (fun k hk e => by have e' : k = bt := e; subst e'; exact t1.a.d.notOf HM1.out (by decide) hk), t1.a.r.fr hFs0 (fun k e cs' => by have e' : k = bt := e; subst e'; rw [HM1.out]; exact ⟨by simp, by simp, by simp⟩), t1.a.ok, t1.a.foot⟩, t1.b.fr hFs0 (fun k hk e => by have e' : k = bt := e; subst e'; exact t1.b.notOf HM1.out (by decide) hk), t1.foot, t1.dj⟩
          have HF12 : Hid (Fr Non w2 (w11.setCell ⟨bt, j, none⟩ (.bool true))) := (HF.out.trans HWA.out (fun _ _ h => h)).trans hFs0 (fun i hi e => by have e' : i = bt := e; have := HBT.out; omega)
          clear hFs0 hN11
          obtain ⟨w12, hw12⟩ : ∃ w12, w11.setCell ⟨bt, j, none⟩ (.bool true) = w12 := ⟨_, rfl⟩
          rw [hw12] at HM12 HN12 HO12 HT12 HF12
          have HCALL := Lib.hid (do_step (w0 := w2) (w := w12) HT12.out.a (by have := HPLk.out; omega) HF12.out x HGOOD.out)
          have HO12r := Lib.hid (rangeAt_of HO12.out 0 (opL x.1 x.2.1) (by simp))
          have HN12r := Lib.hid (rangeAt_of HN12.out 0 (refL dv wv Dk) (by simp))
          go_wp2_with (first
            | (guard_target =~ wpList _ _ _ (⟨some 80, Op.load 60 _, _, _, _, _⟩ :: _) _ _; refine wl rfl (r_load (b := b) (i := o + k * 6) rfl rfl HOX.out Try.underlying60 rfl (by rw [sz60]; rfl)) ?_)
            | (guard_target =~ wpList _ _ _ (⟨_, Op.alloc 60, _, _, _, _⟩ :: _) _ _; refine wl rfl (r_allocA rfl (zero60 _)) ?_)
            | (guard_target =~ wpList _ _ _ (⟨_, Op.store 60 _ _, _, _, _, _⟩ :: _) _ _; refine wu rfl (r_store_new (c' := (opL x.1 x.2.1).toArray) rfl rfl rfl (by rw [sz60]; rfl) rfl (all_oneCell_toArray HONE.out)) ?_; rw [hw11])
            | (guard_target =~ wpList _ _ _ (⟨some 96, Op.load 45 _, _, _, _, _⟩ :: _) _ _; refine wl rfl (r_load (b := b9) (i := 0) rfl rfl HN12r.out Try.underlying45 rfl (by rw [sz45]; rfl)) ?_)
            | (guard_target =~ wpList _ _ _ (⟨some 97, Op.load 60 _, _, _, _, _⟩ :: _) _ _; refine wl rfl (r_load (b := wr.heap.size) (i := 0) rfl rfl HO12r.out Try.underlying60 rfl (by rw [sz60]; rfl)) ?_)
            | (go_at_call 29; (with_reducible refine HCALL.out.mono ?_); go_loud (rintro e w13 ⟨dv13, wv13, rfl, hS13, hR13⟩; have HS13 := Lib.hid hS13; have HR13 := Lib.hid hR13; have HN13 := Lib.hid (hS13.choose_spec.2.1.keep HN12.out (HT12.out.a.d.no45 HN12.out)); have HM13 := Lib.hid (hS13.choose_spec.2.1.keep HM12.out (HT12.out.a.d.notOf HM12.out (by decide))); clear hS13 hR13))
            | (guard_target =~ wpList _ _ _ (⟨_, Op.store 45 _ _, _, _, _, _⟩ :: _) _ w13; refine wu rfl (r_store (b := b9) (i := 0) (cs := refL dv13 wv13 (Dk.act x.1 x.2.2)) rfl rfl rfl (there45 HN13.out rfl) (by rw [sz45]; rfl) (refL_one HR13.out _)) ?_; obtain ⟨w14, hw14⟩ : ∃ w14, w13.setCells b9 0 (refL dv13 wv13 (Dk.act x.1 x.2.2)) = w14 := ⟨_, rfl⟩; rw [hw14]; have HW14 := Lib.hid hw14; clear hw14)
            | fail)
          obtain ⟨pv13, hT13, hF13⟩ := HT12.out.step HF12.out HS13.out HR13.out HOKk.out.1
          have HT14 := Lib.hid (hT13.put HN13.out (refL dv13 wv13 (Dk.act x.1 x.2.2)))
          have HN14 := Lib.hid (put45 HN13.out rfl (l := refL dv13 wv13 (Dk.act x.1 x.2.2)) rfl)
          have hFs : Fr (· = b9) w13 (w13.setCells b9 0 (refL dv13 wv13 (Dk.act x.1 x.2.2))) := Fr.setCells (S := (· = b9)) _ (fun _ => rfl) _ _ _ (Fr.refl _ _)
          have HM14 := Lib.hid (hFs.keep HM13.out (fun e => by have := HM13.out; rw [e, HN13.out] at this; simp at this))
          have HF14 := Lib.hid (hF13.trans hFs (fun i hi e => by have e' : i = b9 := e; have := HB2.out; omega))
          rw [HW14.out] at HT14 HN14 HM14 HF14
          clear hT13 hF13 hFs
          go_roundw
          case rel => exact ⟨k + 1, pv13, dv13, wv13, by go_num, by have := HLT.out; omega, by rw [HDE.out]; exact HN14.out, HM14.out, by rw [HDE.out]; exact HT14.out, HF14.out, by rw [HDE.out]; exact HPL'.out⟩
          case measure => have := HLT.out; simp [intOf] <;> omega
        · have HMK := Lib.hid (marks_out n (os2.take k) x hin)
          by_cases h0 : 0 ≤ x.1.sec
          · have h9 : ¬ x.1.sec < (n : Int) := fun h => hin ⟨h0, h⟩
            clear hin
            have HM12 := Lib.hid (HWA.out.keep HM.out (fun h => h))
            rw [← HMK.out, ← HTK.out] at HM12
            have HN12 := Lib.hid (HWA.out.keep HN.out (fun h => h))
            have HO12 := Lib.hid HBO.out
            have HT12 := Lib.hid (HT.out.non HWA.out)
            have HF12 : Hid (Fr Non w2 w11) := HF.out.trans HWA.out (fun _ _ h => h)
            have HCALL := Lib.hid (do_step (w0 := w2) (w := w11) HT12.out.a (by have := HPLk.out; omega) HF12.out x HGOOD.out)
            have HO12r := Lib.hid (rangeAt_of HO12.out 0 (opL x.1 x.2.1) (by simp))
            have HN12r := Lib.hid (rangeAt_of HN12.out 0 (refL dv wv Dk) (by simp))
            go_wp2_with (first
              | (guard_target =~ wpList _ _ _ (⟨some 80, Op.load 60 _, _, _, _, _⟩ :: _) _ _; refine wl rfl (r_load (b := b) (i := o + k * 6) rfl rfl HOX.out Try.underlying60 rfl (by rw [sz60]; rfl)) ?_)
              | (guard_target =~ wpList _ _ _ (⟨_, Op.alloc 60, _, _, _, _⟩ :: _) _ _; refine wl rfl (r_allocA rfl (zero60 _)) ?_)
              | (guard_target =~ wpList _ _ _ (⟨_, Op.store 60 _ _, _, _, _, _⟩ :: _) _ _; refine wu rfl (r_store_new (c' := (opL x.1 x.2.1).toArray) rfl rfl rfl (by rw [sz60]; rfl) rfl (all_oneCell_toArray HONE.out)) ?_; rw [hw11])
              | (guard_target =~ wpList _ _ _ (⟨some 96, Op.load 45 _, _, _, _, _⟩ :: _) _ _; refine wl rfl (r_load (b := b9) (i := 0) rfl rfl HN12r.out Try.underlying45 rfl (by rw [sz45]; rfl)) ?_)
              | (guard_target =~ wpList _ _ _ (⟨some 97, Op.load 60 _, _, _, _, _⟩ :: _) _ _; refine wl rfl (r_load (b := wr.heap.size) (i := 0) rfl rfl HO12r.out Try.underlying60 rfl (by rw [sz60]; rfl)) ?_)
              | (go_at_call 29; (with_reducible refine HCALL.out.mono ?_); go_loud (rintro e w13 ⟨dv13, wv13, rfl, hS13, hR13⟩; have HS13 := Lib.hid hS13; have HR13 := Lib.hid hR13; have HN13 := Lib.hid (hS13.choose_spec.2.1.keep HN12.out (HT12.out.a.d.no45 HN12.out)); have HM13 := Lib.hid (hS13.choose_spec.2.1.keep HM12.out (HT12.out.a.d.notOf HM12.out (by decide))); clear hS13 hR13))
              | (guard_target =~ wpList _ _ _ (⟨_, Op.store 45 _ _, _, _, _, _⟩ :: _) _ w13; refine wu rfl (r_store (b := b9) (i := 0) (cs := refL dv13 wv13 (Dk.act x.1 x.2.2)) rfl rfl rfl (there45 HN13.out rfl) (by rw [sz45]; rfl) (refL_one HR13.out _)) ?_; obtain ⟨w14, hw14⟩ : ∃ w14, w13.setCells b9 0 (refL dv13 wv13 (Dk.act x.1 x.2.2)) = w14 := ⟨_, rfl⟩; rw [hw14]; have HW14 := Lib.hid hw14; clear hw14)
              | fail)
            obtain ⟨pv13, hT13, hF13⟩ := HT12.out.step HF12.out HS13.out HR13.out HOKk.out.1
            have HT14 := Lib.hid (hT13.put HN13.out (refL dv13 wv13 (Dk.act x.1 x.2.2)))
            have HN14 := Lib.hid (put45 HN13.out rfl (l := refL dv13 wv13 (Dk.act x.1 x.2.2)) rfl)
            have hFs : Fr (· = b9) w13 (w13.setCells b9 0 (refL dv13 wv13 (Dk.act x.1 x.2.2))) := Fr.setCells (S := (· = b9)) _ (fun _ => rfl) _ _ _ (Fr.refl _ _)
            have HM14 := Lib.hid (hFs.keep HM13.out (fun e => by have := HM13.out; rw [e, HN13.out] at this; simp at this))
            have HF14 := Lib.hid (hF13.trans hFs (fun i hi e => by have e' : i = b9 := e; have := HB2.out; omega))
            rw [HW14.out] at HT14 HN14 HM14 HF14
            clear hT13 hF13 hFs
            go_roundw
            case rel => exact ⟨k + 1, pv13, dv13, wv13, by go_num, by have := HLT.out; omega, by rw [HDE.out]; exact HN14.out, HM14.out, by rw [HDE.out]; exact HT14.out, HF14.out, by rw [HDE.out]; exact HPL'.out⟩
            case measure => have := HLT.out; simp [intOf] <;> omega
          · clear hin
            have HM12 := Lib.hid (HWA.out.keep HM.out (fun h => h))
            rw [← HMK.out, ← HTK.out] at HM12
            have HN12 := Lib.hid (HWA.out.keep HN.out (fun h => h))
            have HO12 := Lib.hid HBO.out
            have HT12 := Lib.hid (HT.out.non HWA.out)
            have HF12 : Hid (Fr Non w2 w11) := HF.out.trans HWA.out (fun _ _ h => h)
            have HCALL := Lib.hid (do_step (w0 := w2) (w := w11) HT12.out.a (by have := HPLk.out; omega) HF12.out x HGOOD.out)
            have HO12r := Lib.hid (rangeAt_of HO12.out 0 (opL x.1 x.2.1) (by simp))
            have HN12r := Lib.hid (rangeAt_of HN12.out 0 (refL dv wv Dk) (by simp))
            go_wp2_with (first
              | (guard_target =~ wpList _ _ _ (⟨some 80, Op.load 60 _, _, _, _, _⟩ :: _) _ _; refine wl rfl (r_load (b := b) (i := o + k * 6) rfl rfl HOX.out Try.underlying60 rfl (by rw [sz60]; rfl)) ?_)
              | (guard_target =~ wpList _ _ _ (⟨_, Op.alloc 60, _, _, _, _⟩ :: _) _ _; refine wl rfl (r_allocA rfl (zero60 _)) ?_)
              | (guard_target =~ wpList _ _ _ (⟨_, Op.store 60 _ _, _, _, _, _⟩ :: _) _ _; refine wu rfl (r_store_new (c' := (opL x.1 x.2.1).toArray) rfl rfl rfl (by rw [sz60]; rfl) rfl (all_oneCell_toArray HONE.out)) ?_; rw [hw11])
              | (guard_target =~ wpList _ _ _ (⟨some 96, Op.load 45 _, _, _, _, _⟩ :: _) _ _; refine wl rfl (r_load (b := b9) (i := 0) rfl rfl HN12r.out Try.underlying45 rfl (by rw [sz45]; rfl)) ?_)
              | (guard_target =~ wpList _ _ _ (⟨some 97, Op.load 60 _, _, _, _, _⟩ :: _) _ _; refine wl rfl (r_load (b := wr.heap.size) (i := 0) rfl rfl HO12r.out Try.underlying60 rfl (by rw [sz60]; rfl)) ?_)
              | (go_at_call 29; (with_reducible refine HCALL.out.mono ?_); go_loud (rintro e w13 ⟨dv13, wv13, rfl, hS13, hR13⟩; have HS13 := Lib.hid hS13; have HR13 := Lib.hid hR13; have HN13 := Lib.hid (hS13.choose_spec.2.1.keep HN12.out (HT12.out.a.d.no45 HN12.out)); have HM13 := Lib.hid (hS13.choose_spec.2.1.keep HM12.out (HT12.out.a.d.notOf HM12.out (by decide))); clear hS13 hR13))
              | (guard_target =~ wpList _ _ _ (⟨_, Op.store 45 _ _, _, _, _, _⟩ :: _) _ w13; refine wu rfl (r_store (b := b9) (i := 0) (cs := refL dv13 wv13 (Dk.act x.1 x.2.2)) rfl rfl rfl (there45 HN13.out rfl) (by rw [sz45]; rfl) (refL_one HR13.out _)) ?_; obtain ⟨w14, hw14⟩ : ∃ w14, w13.setCells b9 0 (refL dv13 wv13 (Dk.act x.1 x.2.2)) = w14 := ⟨_, rfl⟩; rw [hw14]; have HW14 := Lib.hid hw14; clear hw14)
              | fail)
            obtain ⟨pv13, hT13, hF13⟩ := HT12.out.step HF12.out HS13.out HR13.out HOKk.out.1
            have HT14 := Lib.hid (hT13.put HN13.out (refL dv13 wv13 (Dk.act x.1 x.2.2)))
            have HN14 := Lib.hid (put45 HN13.out rfl (l := refL dv13 wv13 (Dk.act x.1 x.2.2)) rfl)
            have hFs : Fr (· = b9) w13 (w13.setCells b9 0 (refL dv13 wv13 (Dk.act x.1 x.2.2))) := Fr.setCells (S := (· = b9)) _ (fun _ => rfl) _ _ _ (Fr.refl _ _)
            have HM14 := Lib.hid (hFs.keep HM13.out (fun e => by have := HM13.out; rw [e, HN13.out] at this; simp at this))
            have HF14 := Lib.hid (hF13.trans hFs (fun i hi e => by have e' : i = b9 := e; have := HB2.out; omega))
            rw [HW14.out] at HT14 HN14 HM14 HF14
            clear hT13 hF13 hFs
            go_roundw
            case rel => exact ⟨k + 1, pv13, dv13, wv13, by go_num, by have := HLT.out; omega, by rw [HDE.out]; exact HN14.out, HM14.out, by rw [HDE.out]; exact HT14.out, HF14.out, by rw [HDE.out]; exact HPL'.out⟩
            case measure => have := HLT.out; simp [intOf] <;> omega
      · obtain rfl : k = os2.length := by omega
        rw [List.take_length] at HN HM HT HPLk
        have hkept : Kept D1 (fun i => False ∨ ∃ x ∈ os2, x.1.sec = i) (D1.acts os2) := Kept.acts (T := fun _ => False) os2 ⟨rfl, fun _ _ => rfl, fun x hx => by rw [HP1.out] at hx; cases hx⟩
        have HK := Lib.hid hkept
        have HNN := Lib.hid (hkept.1.trans HN1.out)
        clear hkept
        obtain ⟨D2, hD2⟩ : ∃ D2, D1.acts os2 = D2 := ⟨_, rfl⟩
        rw [hD2] at HN HT HPLk HK HNN
        clear hD2
        have HFA := Lib.hid (Fail_c wr p m pv D2 HT.out.a.d)
        have HBB := Lib.hid HT.out.a.down
        have HF0r : Hid (Fr Non w wr) := HF02.out.trans HF.out (fun _ _ h => h)
        have HW2 := Lib.hid (show w.heap.size ≤ w2.heap.size from HF02.out.size)
        go_wp2_with (first
          | (go_at_call 24; (with_reducible refine HFA.out.mono ?_); go_loud (rintro e w15 ⟨rfl, hd15, hF15⟩; have HD15 := Lib.hid hd15; have HF15 := Lib.hid hF15; have HRS := Lib.hid (Restart_ok w15 p m pv { D2 with down := true } (.slice ca cs.length cc) cs hd15 rfl (by have := HPLk.out; show D2.pend.length ≤ _; omega) (HCH.out.later HF0r.out hF15 (fun k e => by have e' : k = p := e; have := HBB.out; have := HW2.out; omega)) (HCH.out.ne (by have := HBB.out; have := HW2.out; omega)) HCH.out.2.1); clear hd15 hF15))
          | (go_at_call 25; (with_reducible refine HRS.out.mono ?_); go_loud (rintro e w16 ⟨rfl, hS16⟩; have HS16 := Lib.hid hS16; clear hS16))
          | fail)
        have hX : ∃ pv16, DiskAt w16 p m pv16 ({ D2 with down := true }.restart cs) ∧ DiskAt w16 p' m' pv' D1 ∧ w16.heap[bt]? = some (.cells (boolC (marks n os2)) 4) ∧ Fr Non w w16 := by
          obtain ⟨pv16, hd, hF16, ho⟩ := HS16.out
          have hf : Fr (Foot p m pv) wr w16 := (HF15.out.mono (fun _ _ e => .inl e)).trans hF16 (fun _ _ h => h)
          refine ⟨pv16, hd, HT.out.b.fr hf (fun k hk e => HT.out.dj k e hk), hf.keep HM.out (HT.out.a.d.notOf HM.out (by decide)), HF0r.out.trans hf (fun i hi e => ?_)⟩
          have := HT.out.a.foot i e; have := HW2.out; omega
        obtain ⟨pv16, hd16, hb16, hm16, hf16⟩ := hX
        have HD16 := Lib.hid hd16
        have HB16 := Lib.hid hb16
        have HM16 := Lib.hid hm16
        have HF16 := Lib.hid hf16
        have HE1 : Hid (({ D2 with down := true }.restart cs).n = (n : Int)) := (restartTo_keeps { D2 with down := true } cs _).2.1.trans HNN.out
        have HE2 : Hid (∀ k : Nat, (os2.any fun x => decide (x.1.sec = (k : Int))) = false → ({ D2 with down := true }.restart cs).see k = D1.at k) := fun k hk => by
          have hno : ∀ i, (∃ x ∈ os2, x.1.sec = i) → i ≠ (k : Int) := by
            rintro i ⟨x, hx, rfl⟩ e
            have := List.any_eq_false.1 hk x hx
            simp [e] at this
          have h1 : ({ D2 with down := true }.restart cs).see k = ({ D2 with down := true }.restartTo cs D2.pend.length).at k := rfl
          rw [h1, restartTo_at { D2 with down := true } cs k (fun x hx e => by
            rcases HK.out.2.2 x hx with h | h
            · exact h
            · exact hno _ h e) _]
          exact HK.out.2.1 k (fun h => by rcases h with h | h; exact h; exact hno _ h rfl)
        have HE3 : Hid (∀ k : Nat, D1.see k = D1.at k) := fun k => by unfold Dsk.see; rw [HP1.out]; rfl
        have HEP_ : Hid (({ D2 with down := true }.restart cs).pend = []) := rfl
        have HED_ : Hid (({ D2 with down := true }.restart cs).down = false) := rfl
        generalize ({ D2 with down := true }.restart cs) = E at *
        have HEP : Hid (E.pend = []) := HEP_.out
        have HED : Hid (E.down = false) := HED_.out
        clear hd16 hb16 hm16 hf16 HS16 HD15 HT HN HM HF HK HFA HRS
        go_loopw [15] (fun i wq => ∃ k : Nat, i = .int .i64 k ∧ k ≤ n ∧ Fr Non w16 wq) (fun i _ => n - (intOf i).toNat)
        case atStart => exact ⟨0, rfl, Nat.zero_le _, Fr.refl _ _⟩
        case round =>
          obtain ⟨k, rfl, hk, hF⟩ := hrel
          have HF := Lib.hid hF
          clear hF
          by_cases hlt : k < n
          · have HLT := Lib.hid hlt
            have hki : (k : Int) < (n : Int) := by omega
            have HH1 : Hid (D1.has k = true) := by
              unfold Dsk.has
              rw [HN1.out]
              exact decide_eq_true (by omega)
            have HH2 : Hid (E.has k = true) := by
              unfold Dsk.has
              rw [HE1.out]
              exact decide_eq_true (by omega)
            have HK1 := Lib.hid (Read_ok wr p' m' pv' D1 k (HB16.out.fr HF.out (fun _ _ h => h)) HDO1.out HH1.out (by rw [HP1.out]; exact Nat.zero_le _))
            obtain ⟨bk, hbk⟩ : ∃ bk, (os2.any fun x => decide (x.1.sec = (k : Int))) = bk := ⟨_, rfl⟩
            have hmk : (boolC (marks n os2))[k]? = some (.bool bk) := by rw [← hbk]; exact boolC_get _ _ _ (marks_get n os2 k hlt)
            have ct : wr.cell? ⟨bt, k, none⟩ = some (.bool bk) := cellOf (HF.out.keep HM16.out (fun h => h)) k hmk
            have HBK := Lib.hid hbk
            have HES := Lib.hid (HE2.out k)
            have HDS := Lib.hid (HE3.out k)
            clear hmk hbk
            cases bk
            all_goals
              go_wp2_with (first
                | (go_at_call 17; (with_reducible refine HK1.out.mono ?_); go_loud (rintro e wy ⟨g1, rfl, hg1, hgl1, hF1⟩; have HG1 := Lib.hid hg1; have HFY := Lib.hid hF1; have HK2 := Lib.hid (Read_ok wy p m pv16 E k (HD16.out.fr (HF.out.trans hF1 (fun _ _ h => h)) (fun _ _ h => h)) HED.out HH2.out (by rw [HEP.out]; exact Nat.zero_le _)); have ct1 := hF1.cell ct (fun h => h); clear hg1 hF1))
                | (go_at_call 17; (with_reducible refine HK2.out.mono ?_); go_loud (rintro e wz ⟨g2, rfl, hg2, hgl2, hF2⟩; have HG2 := Lib.hid hg2; have HFZ := Lib.hid hF2; have ct2 := hF2.cell ct1 (fun h => h); have HB1 := Lib.hid ((BytesAt.of_block HG1.out 256 256 (D1.see k).2.symm).fr hF2 (fun _ _ h => h)); have HB2 := Lib.hid (BytesAt.of_block hg2 256 256 (E.see k).2.symm); clear hg2 hF2))
                | (guard_target =~ wpList _ _ _ (⟨some 140, Op.convert 30 9 _, _, _, _, _⟩ :: _) _ _; refine wlg rfl (r_convert (u := .slice (some ⟨g1, 0, none⟩) 256 256) rfl rfl (run_str Try.underlying30 Try.underlying5 Try.underlying9 HB1.out)) ?_)
                | (guard_target =~ wpList _ _ _ (⟨some 142, Op.convert 30 9 _, _, _, _, _⟩ :: _) _ _; refine wlg rfl (r_convert (u := .slice (some ⟨g2, 0, none⟩) 256 256) rfl rfl (run_str Try.underlying30 Try.underlying5 Try.underlying9 HB2.out)) ?_; rw [HES.out HBK.out, HDS.out])
                | (guard_target =~ wpList _ _ _ (⟨some 143, Op.binOp _ _ _ _ _, _, _, _, _⟩ :: _) _ _; refine wlg rfl (r_strNeq_same (l := (D1.at k).1) rfl Try.underlying9 rfl rfl) ?_)
                | fail)
              go_roundw
              case rel => exact ⟨k + 1, by go_num, by have := HLT.out; omega, (HF.out.trans HFY.out (fun _ _ h => h)).trans HFZ.out (fun _ _ h => h)⟩
              case measure => have := HLT.out; simp [intOf] <;> omega
          · obtain rfl : k = n := by omega
            have HPE := Lib.hid (Pending_ok wr p m pv16 E (HD16.out.fr HF.out (fun _ _ h => h)) (by rw [HEP.out]; exact Nat.zero_le _))
            go_wp2_with (first
              | (go_at_call 16; (with_reducible refine HPE.out.mono ?_); go_loud (rintro e w18 ⟨v, rfl, ⟨ys, hy, hyl, -, -⟩, hF18⟩; obtain ⟨a, cap, rfl, -, -, -⟩ := Own.shape hy; rw [hyl, HEP.out]; have HF18 := Lib.hid hF18; have HDC := Lib.hid (Down_c w18 p m pv16 E (HD16.out.fr (HF.out.trans hF18 (fun _ _ h => h)) (fun _ _ h => h))); clear hF18 hy hyl; simp only [List.length_nil]))
              | (go_at_call 15; (with_reducible refine HDC.out.mono ?_); go_loud (rintro e w19 ⟨rfl, rfl⟩; rw [HED.out]))
              | fail)
            go_ret
            exact ⟨rfl, (HF16.out.trans HF.out (fun _ _ h => h)).trans HF18.out (fun _ _ h => h)⟩

end Go.Proofs.Yticgkbpmaakkiaa
